/- Texts that the laws of the seat rest on: an abstract machine, what the functions answer in it, plain laws. -/
import GoSem.Core.Sem
set_option linter.unusedVariables false
set_option linter.unusedSimpArgs false
set_option linter.unusedSectionVars false
namespace Go.Proofs.YP
open Go
inductive AV where
 | int (k : IntKind) (n : Int)
 | bool (b : Bool)
 | str (s : ByteArray)
 | nilp
 | ptr (b off : Nat)
 | eptr (cs : List AV) (off : Nat)
 | nils
 | sl (own : Option Nat) (n : Nat) (cs : List AV)
 | hs (b n : Nat)
 | nilm
 | map (b : Nat)
 | nilf
 | fn (f : Nat) (first caps : List AV)
 | yld (b : Nat)
 | nili
 | iface (t : Nat) (v : AV)
 | agg (cs : List AV)
 | tup (vs : List AV)
 deriving Inhabited
def AV.undef : AV := .tup []
def AV.cells : AV → List AV
 | .agg cs => cs
 | v => [v]
def AV.one : AV → Bool
 | .agg _ | .tup _ => false
 | _ => true
inductive Ref where
 | blk (b : Nat)
 | arr (i : Nat)
 deriving DecidableEq
mutual
def AV.refs : AV → List Ref
 | .ptr b _ => [.blk b]
 | .eptr cs _ => AV.refsL cs
 | .sl none _ cs => AV.refsL cs
 | .sl (some i) _ cs => .arr i :: AV.refsL cs
 | .map b => [.blk b]
 | .hs b _ => [.blk b]
 | .fn _ x y => AV.refsL x ++ AV.refsL y
 | .yld b => [.blk b]
 | .iface _ v => v.refs
 | .agg cs => AV.refsL cs
 | .tup vs => AV.refsL vs
 | .int _ _ | .bool _ | .str _ | .nilp | .nils | .nilm | .nilf | .nili => []
def AV.refsL : List AV → List Ref
 | [] => []
 | v :: vs => v.refs ++ AV.refsL vs
end
mutual
def AV.fin (m : Nat) : AV → AV
 | .eptr cs o => .eptr (AV.finL m cs) o
 | .nils => .sl none 0 []
 | .sl none n cs => .sl none n (AV.finL m cs)
 | .sl (some i) n cs => .sl (if i < m then some i else none) n (AV.finL m cs)
 | .fn f x y => .fn f (AV.finL m x) (AV.finL m y)
 | .iface t v => .iface t (v.fin m)
 | .agg cs => .agg (AV.finL m cs)
 | .tup vs => .tup (AV.finL m vs)
 | .int k n => .int k n
 | .bool b => .bool b
 | .str s => .str s
 | .nilp => .nilp
 | .ptr b o => .ptr b o
 | .nilm => .nilm
 | .map b => .map b
 | .hs b n => .hs b n
 | .nilf => .nilf
 | .yld b => .yld b
 | .nili => .nili
def AV.finL (m : Nat) : List AV → List AV
 | [] => []
 | v :: vs => v.fin m :: AV.finL m vs
end
def AV.arg : AV → AV
 | .nils => .nils
 | v => v.fin 0
mutual
def AV.beq : AV → AV → Bool
 | .int k n, .int k' n' => decide (k = k') && decide (n = n')
 | .bool a, .bool b => a == b
 | .str a, .str b => decide (a = b)
 | .nilp, .nilp => true
 | .ptr b o, .ptr b' o' => decide (b = b') && decide (o = o')
 | .eptr c o, .eptr c' o' => AV.beqL c c' && decide (o = o')
 | .nils, .nils => true
 | .sl w n c, .sl w' n' c' => decide (w = w') && decide (n = n') && AV.beqL c c'
 | .nilm, .nilm => true
 | .map b, .map b' => decide (b = b')
 | .hs b n, .hs b' n' => decide (b = b') && decide (n = n')
 | .nilf, .nilf => true
 | .fn f x y, .fn f' x' y' => decide (f = f') && AV.beqL x x' && AV.beqL y y'
 | .yld b, .yld b' => decide (b = b')
 | .nili, .nili => true
 | .iface t v, .iface t' v' => decide (t = t') && v.beq v'
 | .agg c, .agg c' => AV.beqL c c'
 | .tup c, .tup c' => AV.beqL c c'
 | _, _ => false
def AV.beqL : List AV → List AV → Bool
 | [], [] => true
 | v :: vs, u :: us => v.beq u && AV.beqL vs us
 | _, _ => false
end
mutual
theorem AV.beq_refl : ∀ v : AV, v.beq v = true
 | .int _ _ | .bool _ | .str _ | .nilp | .ptr _ _ | .nils | .nilm | .map _ | .nilf | .yld _ | .nili | .hs _ _ => by simp [AV.beq]
 | .eptr c _ => by simp [AV.beq, AV.beqL_refl c]
 | .sl _ _ c => by simp [AV.beq, AV.beqL_refl c]
 | .fn _ x y => by simp [AV.beq, AV.beqL_refl x, AV.beqL_refl y]
 | .iface _ v => by simp [AV.beq, AV.beq_refl v]
 | .agg c => by simp [AV.beq, AV.beqL_refl c]
 | .tup c => by simp [AV.beq, AV.beqL_refl c]
theorem AV.beqL_refl : ∀ l : List AV, AV.beqL l l = true
 | [] => by simp [AV.beqL]
 | v :: vs => by simp [AV.beqL, AV.beq_refl v, AV.beqL_refl vs]
end
mutual
theorem AV.eq_of_beq : ∀ v u : AV, v.beq u = true → v = u
 | .int _ _, u, h | .bool _, u, h | .str _, u, h | .nilp, u, h | .ptr _ _, u, h | .nils, u, h | .nilm, u, h | .map _, u, h | .nilf, u, h | .yld _, u, h | .nili, u, h | .hs _ _, u, h => by
  cases u <;> simp_all [AV.beq]
 | .eptr c _, u, h => by cases u <;> simp [AV.beq] at h; rw [AV.eqL_of_beqL _ _ h.1, h.2]
 | .sl _ _ c, u, h => by cases u <;> simp [AV.beq] at h; rw [AV.eqL_of_beqL _ _ h.2, h.1.1, h.1.2]
 | .fn _ x y, u, h => by cases u <;> simp [AV.beq] at h; rw [AV.eqL_of_beqL _ _ h.1.2, AV.eqL_of_beqL _ _ h.2, h.1.1]
 | .iface _ v, u, h => by cases u <;> simp [AV.beq] at h; rw [AV.eq_of_beq _ _ h.2, h.1]
 | .agg c, u, h => by cases u <;> simp [AV.beq] at h; rw [AV.eqL_of_beqL _ _ h]
 | .tup c, u, h => by cases u <;> simp [AV.beq] at h; rw [AV.eqL_of_beqL _ _ h]
theorem AV.eqL_of_beqL : ∀ l k : List AV, AV.beqL l k = true → l = k
 | [], k, h => by cases k <;> simp_all [AV.beqL]
 | v :: vs, k, h => by
  cases k with
  | nil => simp [AV.beqL] at h
  | cons u us => simp [AV.beqL] at h; rw [AV.eq_of_beq _ _ h.1, AV.eqL_of_beqL _ _ h.2]
end
inductive AO where
 | t (n : Nat)
 | c (v : AV)
 | g (n : Nat)
 deriving Inhabited
inductive Tr where
 | no | keep | full | quiet
 deriving DecidableEq
inductive BK where
 | num | str | boo | sli | fnc | ifc
 deriving DecidableEq
inductive AOp where
 | mv (x : AO)
 | pick (c x y : AO)
 | alloc (ty : Nat) (z : List AV)
 | box (ty : Nat) (x : AO)
 | build (z : List AV) (ps : List (Nat × Nat × AO))
 | bsl (own : Bool) (sz n : Nat) (z : List AV) (ps : List (Nat × Nat × AO))
 | ld (k : Option Nat) (x : AO)
 | st (n : Nat) (p x : AO)
 | nck (x : AO)
 | fa (off : Nat) (x : AO)
 | ia (sz : Nat) (x i : AO)
 | iaa (len sz : Nat) (x i : AO)
 | ixs (x i : AO)
 | fld (off : Nat) (k : Option Nat) (x : AO)
 | ext (n : Nat) (x : AO)
 | bin (k : BK) (op : BinOp) (x y : AO)
 | un (op : UnOp) (x : AO)
 | cvi (k : IntKind) (x : AO)
 | cvs (x : AO)
 | mks (sz bytes : Nat) (z : List AV) (l c : AO)
 | mkh (ty bytes : Nat) (z : List AV) (l c : AO)
 | frz (x : AO)
 | slc (sz : Option Nat) (x : AO) (lo hi : Option AO)
 | len (str : Bool) (x : AO)
 | app (sz bytes : Nat) (x y : AO)
 | mini (x y : AO)
 | mki (t : Nat) (x : AO)
 | mkf (f : Nat) (x y : List AO)
 | mkm
 | lkp (str : Bool) (z : AV) (ok : Bool) (m k : AO)
 | upd (str : Bool) (m k v : AO)
 | ta (t : Nat) (ok : Bool) (z : AV) (x : AO)
 | pan (x : AO)
 | call (tr : Tr) (f : Nat) (args : List AO)
 | callv (tr : Tr) (f : AO) (args : List AO)
structure AOper where
 dst : Option Nat
 op : AOp
 guard : Option (Nat × Bool)
inductive ACode where
 | skip
 | reg (ops : List AOper)
 | dreg (ops : List (AOper × Nat))
 | seq (a b : ACode)
 | cond (c : AO) (x y : ACode)
 | block (id : Nat) (b : ACode)
 | scope (b : ACode)
 | loop (b : ACode)
 | rf (f : AO) (ps : List Nat) (asg body : ACode)
 | exit (id : Nat)
 | ret
 | bad
inductive ARes where
 | tmp (t : Nat)
 | cell (a : Nat) (k : Option Nat)
structure AFn where
 ntmps : Nat
 res : List ARes
 body : ACode
inductive LState where
 | ready | busy | done | exhausted
 deriving DecidableEq
inductive AJump where
 | ret
 | exit (id : Nat)
 deriving DecidableEq
inductive ABlk where
 | cells (ty : Nat) (c : List AV)
 | map (es : List (AV × AV))
 | loop (s : LState) (pend : Option AJump) (fn : Nat) (tmps : List AV) (ps : List Nat) (asg body : ACode) (dfr : Nat)
 | dfr
 | opq
structure St where
 H : List ABlk
 I : List (Nat × Nat)
structure Env where
 base : Nat
 rob : Nat
 rom : Nat
inductive Rt (α : Type) where
 | ok (a : α)
 | pan (v : AV)
def obind {α β : Type} (x : Option α) (f : α → Option β) : Option β :=
 match x with
 | some a => f a
 | none => none
@[simp] theorem obind_some {α β : Type} (a : α) (f : α → Option β) : obind (some a) f = f a := rfl
@[simp] theorem obind_none {α β : Type} (f : α → Option β) : obind (none : Option α) f = none := rfl
@[congr] theorem obind_congr {α β : Type} {x x' : Option α} {f : α → Option β} (h : x = x') : obind x f = obind x' f := by rw [h]
theorem obind_eq_some {α β : Type} {x : Option α} {f : α → Option β} {b : β} : obind x f = some b ↔ ∃ a, x = some a ∧ f a = some b := by
 cases x <;> simp [obind]
def guardb (b : Bool) {α : Type} (x : Option α) : Option α := if b then x else none
@[simp] theorem guardb_true {α : Type} (x : Option α) : guardb true x = x := rfl
@[simp] theorem guardb_false {α : Type} (x : Option α) : guardb false x = none := rfl
@[congr] theorem guardb_congr {α : Type} {b b' : Bool} {x : Option α} (h : b = b') : guardb b x = guardb b' x := by rw [h]
theorem guardb_eq_some {α : Type} {b : Bool} {x : Option α} {a : α} : guardb b x = some a ↔ b = true ∧ x = some a := by
 cases b <;> simp [guardb]
def lk (s : List AV) (t : Nat) : AV := (s[t]?).getD AV.undef
def put (s : List AV) (d : Option Nat) (v : AV) : List AV :=
 match d with
 | some d => s.set d v
 | none => s
def rdC (k : Option Nat) (c : List AV) (off : Nat) : Option AV :=
 match k with
 | none => c[off]?
 | some n => if off + n ≤ c.length then some (.agg ((c.drop off).take n)) else none
def wrC (c : List AV) (off : Nat) (vs : List AV) : List AV := c.take off ++ vs ++ c.drop (off + vs.length)
def loadA (st : St) (k : Option Nat) : AV → Option AV
 | .ptr b off =>
  match st.H[b]? with
  | some (.cells _ c) => rdC k c off
  | _ => none
 | .eptr c off => rdC k c off
 | _ => none
def subRefs (new old : List AV) : Bool := (AV.refsL new).all fun r => decide (r ∈ AV.refsL old)
def mayWrite (E : Env) (b : Nat) (old new : List AV) : Bool := decide (E.rob ≤ b) && (decide (E.base ≤ b) || subRefs new old)
def storeA (E : Env) (st : St) (n : Nat) (p v : AV) : Option St :=
 match p with
 | .ptr b off =>
  match st.H[b]? with
  | some (.cells t c) =>
   guardb (decide (v.cells.length = n) && v.cells.all AV.one && decide (off + n ≤ c.length) && mayWrite E b c v.cells)
    (some { st with H := st.H.set b (.cells t (wrC c off v.cells)) })
  | _ => none
 | _ => none
def fillA (z : List AV) : List (Nat × Nat × List AV) → Option (List AV)
 | [] => some z
 | (off, n, cs) :: r => guardb (decide (cs.length = n) && decide (off + n ≤ z.length) && cs.all AV.one) (fillA (wrC z off cs) r)
def i64 (n : Int) : AV := .int .i64 n
def intBin (op : BinOp) (k : IntKind) (a b : Int) : Option AV :=
 match op with
 | .add => some (.int k (k.wrap (a + b)))
 | .sub => some (.int k (k.wrap (a - b)))
 | .mul => some (.int k (k.wrap (a * b)))
 | .quo => guardb (decide (b ≠ 0)) (some (.int k (k.wrap (a.tdiv b))))
 | .rem => guardb (decide (b ≠ 0)) (some (.int k (a.tmod b)))
 | .and => some (.int k (k.wrap ((BitVec.ofInt k.bits a &&& BitVec.ofInt k.bits b).toNat)))
 | .or => some (.int k (k.wrap ((BitVec.ofInt k.bits a ||| BitVec.ofInt k.bits b).toNat)))
 | .eql => some (.bool (a == b))
 | .neq => some (.bool (a != b))
 | .lss => some (.bool (decide (a < b)))
 | .leq => some (.bool (decide (a ≤ b)))
 | .gtr => some (.bool (decide (a > b)))
 | .geq => some (.bool (decide (a ≥ b)))
 | _ => none
def strBin (op : BinOp) (a b : ByteArray) : Option AV :=
 match op with
 | .add => guardb (decide (a.size + b.size ≤ 9223372036854775807)) (some (.str (a ++ b)))
 | .eql => some (.bool (decide (a = b)))
 | .neq => some (.bool (!decide (a = b)))
 | _ => none
def eqBin (op : BinOp) (b : Bool) : Option AV :=
 match op with
 | .eql => some (.bool b)
 | .neq => some (.bool !b)
 | _ => none
def binA (K : BK) (op : BinOp) (x y : AV) : Option AV :=
 match K, x, y with
 | .num, .int k a, .int k' b =>
  match op with
  | .shl => guardb (decide (0 ≤ b)) (some (.int k (k.wrap (a * 2 ^ (min b.toNat k.bits)))))
  | .shr => guardb (decide (0 ≤ b)) (some (.int k (a.fdiv (2 ^ (min b.toNat k.bits)))))
  | _ => guardb (decide (k = k')) (intBin op k a b)
 | .str, .str a, .str b => strBin op a b
 | .boo, .bool a, .bool b => eqBin op (a == b)
 | .fnc, .nilf, .nilf => eqBin op true
 | .fnc, .fn _ _ _, .nilf => eqBin op false
 | .fnc, .yld _, .nilf => eqBin op false
 | .ifc, .iface _ _, .nili => eqBin op false
 | .ifc, .nili, .nili => eqBin op true
 | .sli, .nils, .nils => eqBin op true
 | .sli, .sl (some _) _ _, .nils => eqBin op false
 | _, _, _ => none
def unA (op : UnOp) (x : AV) : Option AV :=
 match op, x with
 | .not, .bool b => some (.bool !b)
 | .neg, .int k n => some (.int k (k.wrap (0 - n)))
 | .xor, .int k n => some (.int k (k.wrap ((BitVec.ofInt k.bits (if k.signed then -1 else k.max) ^^^ BitVec.ofInt k.bits n).toNat)))
 | _, _ => none
def lenA (str : Bool) : AV → Option AV
 | .str s => guardb str (some (i64 s.size))
 | .nils => guardb (!str) (some (i64 0))
 | .sl _ n _ => guardb (!str) (some (i64 n))
 | .hs _ n => guardb (!str) (some (i64 n))
 | _ => none
def bytesA : List AV → Option (List UInt8)
 | [] => some []
 | .int .u8 n :: r => obind (bytesA r) fun l => some (UInt8.ofNat n.toNat :: l)
 | _ :: _ => none
def asN : AV → Option Nat
 | .int _ n => guardb (decide (0 ≤ n)) (some n.toNat)
 | _ => none
def optN (ev : AO → AV) (d : Nat) : Option AO → Option Nat
 | none => some d
 | some x => asN (ev x)
def slcA (sz : Option Nat) (x : AV) (lo hi : Nat) : Option AV :=
 match sz, x with
 | none, .str s => guardb (decide (lo ≤ hi) && decide (hi ≤ s.size)) (some (.str (s.extract lo hi)))
 | some _, .nils => guardb (decide (lo = 0) && decide (hi = 0)) (some (.sl none 0 []))
 | some sz, .sl _ n cs => guardb (decide (lo ≤ hi) && decide (hi ≤ n) && decide (cs.length = n * sz)) (some (.sl none (hi - lo) ((cs.drop (lo * sz)).take ((hi - lo) * sz))))
 | _, _ => none
def lenN : AV → Nat
 | .str s => s.size
 | .sl _ n _ => n
 | _ => 0
def srcA (sz : Nat) : AV → Option (Nat × List AV)
 | .nils => some (0, [])
 | .sl _ n cs => guardb (decide (cs.length = n * sz) && cs.all AV.one) (some (n, AV.finL 0 cs))
 | _ => none
def appA (E : Env) (st : St) (sz bytes : Nat) (x y : AV) : Option (AV × St) :=
 obind (srcA sz y) fun (m, ys) =>
  match x with
  | .nils =>
   if m = 0 then some (.nils, st)
   else guardb (decide (m * bytes ≤ 70368744177664) && decide (m ≤ 70368744177664)) (some (.sl (some st.I.length) m ys, { st with I := st.I ++ [(m, sz)] }))
  | .sl (some i) n cs =>
   guardb (decide (E.rom ≤ i) && decide (st.I[i]? = some (n, sz)) && decide (cs.length = n * sz) && decide ((n + m) * bytes ≤ 70368744177664) && decide (n + m ≤ 70368744177664))
    (some (.sl (some i) (n + m) (cs ++ ys), { st with I := st.I.set i (n + m, sz) }))
  | _ => none
def keyEq (str : Bool) : AV → AV → Option Bool
 | .int k a, .int k' b => guardb (!str && decide (k = k')) (some (a == b))
 | .str a, .str b => guardb str (some (decide (a = b)))
 | _, _ => none
def findA (str : Bool) (k : AV) : List (AV × AV) → Option (Option AV)
 | [] => some none
 | (q, v) :: r => obind (keyEq str k q) fun b => if b then some (some v) else findA str k r
def keyOk (str : Bool) : AV → Bool
 | .int _ _ => !str
 | .str _ => str
 | _ => false
def updA (str : Bool) (k v : AV) : List (AV × AV) → Option (List (AV × AV))
 | [] => some [(k, v)]
 | (q, u) :: r => obind (keyEq str k q) fun b => if b then some ((k, v) :: r) else obind (updA str k v r) fun r' => some ((q, u) :: r')
def mapCells (es : List (AV × AV)) : List AV := es.flatMap fun e => [e.1, e.2]
def okv (v : AV) (st : St) : Option (Rt AV × St) := some (.ok v, st)
@[simp] theorem okv_eq (v : AV) (st : St) : okv v st = some (.ok v, st) := rfl
def okOf (x : Option AV) (st : St) : Option (Rt AV × St) := obind x fun v => okv v st
@[simp] theorem okOf_some (v : AV) (st : St) : okOf (some v) st = some (.ok v, st) := rfl
@[simp] theorem okOf_none (st : St) : okOf none st = none := rfl
def aOp (E : Env) (st : St) (ev : AO → AV) : AOp → Option (Rt AV × St)
  | .mv x => okv (ev x) st
  | .pick c x y =>
    match ev c with
    | .bool b => okv (if b then ev x else ev y) st
    | _ => none
  | .alloc ty z => guardb (z.all AV.one) (okv (.ptr st.H.length 0) { st with H := st.H ++ [.cells ty z] })
  | .box ty x => guardb ((ev x).cells.all AV.one) (okv (.ptr st.H.length 0) { st with H := st.H ++ [.cells ty (ev x).cells] })
  | .build z ps => okOf (obind (fillA z (ps.map fun p => (p.1, p.2.1, (ev p.2.2).cells))) fun cs => some (.agg cs)) st
  | .bsl own sz n z ps => obind (fillA z (ps.map fun p => (p.1, p.2.1, (ev p.2.2).cells))) fun cs =>
      if own then okv (.sl (some st.I.length) n (AV.finL 0 cs)) { st with I := st.I ++ [(n, sz)] } else okv (.sl none n (AV.finL 0 cs)) st
  | .ld k x => okOf (loadA st k (ev x)) st
  | .st n p x => obind (storeA E st n (ev p) (ev x)) fun st' => okv AV.undef st'
  | .nck x =>
    match ev x with
    | .ptr b o => okv (.ptr b o) st
    | .eptr c o => okv (.eptr c o) st
    | _ => none
  | .fa off x =>
    match ev x with
    | .ptr b o => okv (.ptr b (o + off)) st
    | .eptr c o => okv (.eptr c (o + off)) st
    | _ => none
  | .ia sz x i =>
    match ev x, ev i with
    | .sl _ n cs, .int _ j => guardb (decide (0 ≤ j) && decide (j < n)) (okv (.eptr cs (j.toNat * sz)) st)
    | .hs b n, .int _ j => guardb (decide (0 ≤ j) && decide (j < n)) (okv (.ptr b (j.toNat * sz)) st)
    | _, _ => none
  | .iaa len sz x i =>
    match ev x, ev i with
    | .ptr b o, .int _ j => guardb (decide (0 ≤ j) && decide (j < len)) (okv (.ptr b (o + j.toNat * sz)) st)
    | .eptr c o, .int _ j => guardb (decide (0 ≤ j) && decide (j < len)) (okv (.eptr c (o + j.toNat * sz)) st)
    | _, _ => none
  | .ixs x i =>
    match ev x, ev i with
    | .str s, .int _ j => guardb (decide (0 ≤ j)) (okOf ((s.data[j.toNat]?).map fun b => .int .u8 b.toNat) st)
    | _, _ => none
  | .fld off k x =>
    match ev x with
    | .agg cs => okOf (rdC k cs off) st
    | _ => none
  | .ext n x =>
    match ev x with
    | .tup vs => okOf vs[n]? st
    | _ => none
  | .bin K op x y => okOf (binA K op (ev x) (ev y)) st
  | .un op x => okOf (unA op (ev x)) st
  | .cvi k x =>
    match ev x with
    | .int _ n => okv (.int k (k.wrap n)) st
    | _ => none
  | .cvs x =>
    match ev x with
    | .nils => okv (.str ⟨#[]⟩) st
    | .sl _ n cs => guardb (decide (cs.length = n)) (obind (bytesA cs) fun l => okv (.str ⟨l.toArray⟩) st)
    | _ => none
  | .mks sz bytes z l c =>
    match ev l, ev c with
    | .int .i64 a, .int .i64 b => guardb (decide (a = 0) && decide (0 ≤ b) && decide (b ≤ 1073741824) && decide (bytes ≤ 65536) && decide (z.length = sz))
        (okv (.sl (some st.I.length) 0 []) { st with I := st.I ++ [(0, sz)] })
    | _, _ => none
  | .mkh ty bytes z l c =>
    match ev l, ev c with
    | .int .i64 a, .int .i64 b => guardb (decide (a = b) && decide (0 ≤ b) && decide (b ≤ 1048576) && decide (bytes ≤ 65536) && z.all AV.one)
        (okv (.hs st.H.length b.toNat) { st with H := st.H ++ [.cells ty (List.replicate b.toNat z).flatten] })
    | _, _ => none
  | .frz x =>
    match ev x with
    | .hs b n =>
      match st.H[b]? with
      | some (.cells _ c) => guardb (decide (E.rob ≤ b)) (okv (.sl none n (AV.finL 0 c)) { st with H := st.H.set b .opq })
      | _ => none
    | _ => none
  | .slc sz x lo hi => obind (optN ev 0 lo) fun a => obind (optN ev (lenN (ev x)) hi) fun b => okOf (slcA sz (ev x) a b) st
  | .len str x => okOf (lenA str (ev x)) st
  | .app sz bytes x y => obind (appA E st sz bytes (ev x) (ev y)) fun (v, st') => okv v st'
  | .mini x y =>
    match ev x, ev y with
    | .int k a, .int _ b => okv (.int k (if b < a then b else a)) st
    | _, _ => none
  | .mki t x => okv (.iface t (ev x)) st
  | .mkf f x y => okv (.fn f (x.map ev) (y.map ev)) st
  | .mkm => okv (.map st.H.length) { st with H := st.H ++ [.map []] }
  | .lkp str z ok m k =>
    match ev m with
    | .map b =>
      match st.H[b]? with
      | some (.map es) => guardb (keyOk str (ev k)) (obind (findA str (ev k) es) fun r =>
          let v := r.getD z
          okv (if ok then .tup [v, .bool r.isSome] else v) st)
      | _ => none
    | _ => none
  | .upd str m k v =>
    match ev m with
    | .map b =>
      match st.H[b]? with
      | some (.map es) => guardb (keyOk str (ev k) && (ev k).one && mayWrite E b [] [ev k, ev v]) (obind (updA str (ev k) (ev v) es) fun es' =>
          okv AV.undef { st with H := st.H.set b (.map es') })
      | _ => none
    | _ => none
  | .ta t ok z x =>
    match ev x with
    | .iface u v => if u = t then okv (if ok then .tup [v, .bool true] else v) st else guardb ok (okv (.tup [z, .bool false]) st)
    | .nili => guardb ok (okv (.tup [z, .bool false]) st)
    | _ => none
  | .pan x =>
    match ev x with
    | .iface t v => some (.pan (.iface t v), st)
    | _ => none
  | .call .. | .callv .. => none
inductive Cal where
 | fn (f : Nat)
 | yld (b : Nat)
abbrev CSem := Env → Cal → List AV → St → Option (Rt AV × St)
def refsLt (n m : Nat) (l : List Ref) : Bool := l.all fun
 | .blk b => decide (b < n)
 | .arr i => decide (i < m)
def doCall (C : CSem) (E : Env) (tr : Tr) (cal : Cal) (args : List AV) (st : St) : Option (Rt AV × St) :=
 match tr with
 | .no => C E cal args st
 | .keep => obind (C { E with base := st.H.length } cal args st) fun
  | (.ok v, st') => guardb (refsLt st.H.length st'.I.length v.refs) (okv v { st' with H := st'.H.take st.H.length })
  | (.pan v, st') => some (.pan v, st')
 | .full => obind (C { E with base := st.H.length } cal (args.map AV.arg) st) fun
  | (.ok v, st') => guardb (refsLt st.H.length st.I.length (v.fin st.I.length).refs) (okv (v.fin st.I.length) { H := st'.H.take st.H.length, I := st'.I.take st.I.length })
  | (.pan v, st') => some (.pan v, st')
 | .quiet => obind (C { base := st.H.length, rob := st.H.length, rom := st.I.length } cal args st) fun
  | (.ok v, _) => guardb (refsLt st.H.length st.I.length (v.fin st.I.length).refs) (okv (v.fin st.I.length) st)
  | (.pan _, _) => none
section
variable (GT : Nat → Option (List AV))
def evA (s : List AV) : AO → AV
 | .t n => lk s n
 | .c v => v
 | .g n => match GT n with
  | some c => .eptr c 0
  | none => AV.undef
variable (C : CSem) (E : Env)
def aExec (op : AOp) (s : List AV) (st : St) : Option (Rt AV × St) :=
 match op with
 | .call tr f args => doCall C E tr (.fn f) (args.map (evA GT s)) st
 | .callv tr x args =>
  match evA GT s x with
  | .fn f a b => doCall C E tr (.fn f) (a ++ args.map (evA GT s) ++ b) st
  | .yld b => doCall C E tr (.yld b) (args.map (evA GT s)) st
  | _ => none
 | op => aOp E st (evA GT s) op
def wantA (o : AOper) (s : List AV) : Bool :=
 match o.guard with
 | none => true
 | some (t, b) => match s[t]? with
  | some (.bool c) => c == b
  | _ => false
def aStep (o : AOper) (s : List AV) (st : St) : Option (Rt (List AV) × St) :=
 if wantA o s then
  obind (aExec GT C E o.op s st) fun
   | (.ok v, st') => some (.ok (put s o.dst v), st')
   | (.pan v, st') => some (.pan v, st')
 else some (.ok (put s o.dst AV.undef), st)
def aOps : List AOper → List AV → St → Option (Rt (List AV) × St)
 | [], s, st => some (.ok s, st)
 | o :: r, s, st => obind (aStep GT C E o s st) fun
  | (.ok s', st') => aOps r s' st'
  | (.pan v, st') => some (.pan v, st')
def isEff : AOp → Bool
 | .bsl own .. => own
 | .alloc .. | .box .. | .st .. | .mks .. | .mkh .. | .frz _ | .app .. | .mkm | .upd .. | .pan _ => true
 | .call tr .. | .callv tr .. => decide (tr ≠ .quiet)
 | _ => false
def reads : AOp → Bool
 | .ld .. | .lkp .. | .call .. | .callv .. => true
 | _ => false
def sameAt (o : AOper) (s : List AV) (st : St) (v : AV) : Bool :=
 match aExec GT C E o.op s st with
 | some (.ok u, _) => u.beq v
 | _ => false
def sameBack (o : AOper) (s : List AV) (v : AV) (m : Nat) : List (Option Nat × St) → Bool
 | (some e, _) :: (p, st) :: r => m.testBit e || (sameAt GT C E o s st v && sameBack o s v m ((p, st) :: r))
 | _ => true
def aDead (p : Nat) : List (AOper × Nat) → List (Option Nat × St) → List AV → St → Bool
  | [], _, _, _ => true
  | (o, m) :: r, sts, s, st =>
    if m.testBit p then aDead p r sts s st
    else !isEff o.op && (if wantA o s then
        match aExec GT C E o.op s st with
        | some (.ok v, _) => (!reads o.op || sameBack GT C E o s v m sts) && aDead p r sts (put s o.dst v) st
        | _ => false
      else aDead p r sts (put s o.dst AV.undef) st)
structure Done where
 i : Nat
 o : AOper
 s : List AV
 v : AV
def aDraw : Nat → List (AOper × Nat) → List Done → List (Option Nat × St) → List AV → St → Option (Rt (List AV) × St)
 | _, [], _, _, s, st => some (.ok s, st)
 | i, (o, m) :: r, ds, sts, s, st =>
  if wantA o s then
   obind (aExec GT C E o.op s st) fun
    | (.ok v, st') =>
     if isEff o.op then
      guardb (ds.all fun d => m.testBit d.i || sameAt GT C E d.o d.s st' d.v)
       (aDraw (i + 1) r ds ((some i, st') :: sts) (put s o.dst v) st')
     else if reads o.op then
      guardb (sameBack GT C E o s v m sts) (aDraw (i + 1) r (⟨i, o, s, v⟩ :: ds) sts (put s o.dst v) st)
     else aDraw (i + 1) r ds sts (put s o.dst v) st
    | (.pan v, st') => guardb (isEff o.op && aDead GT C E i r sts s st) (some (.pan v, st'))
  else if isEff o.op then aDraw (i + 1) r ds ((some i, st) :: sts) (put s o.dst AV.undef) st
  else aDraw (i + 1) r ds sts (put s o.dst AV.undef) st
end
inductive AExit where
 | nrm | ret
 | exit (id : Nat)
 | pan (v : AV)
abbrev RunRes := Option (AExit × List AV × List Nat × St)
def iter (f : List AV → List Nat → St → RunRes) : Nat → List AV → List Nat → St → RunRes
 | 0, _, _, _ => none
 | k + 1, s, m, st => obind (f s m st) fun
  | (.nrm, s', m', st') => iter f k s' m' st'
  | r => some r
def AJump.exit' : Option AJump → AExit
 | none => .nrm
 | some .ret => .ret
 | some (.exit id) => .exit id
section
variable (GT : Nat → Option (List AV)) (C : CSem) (E : Env) (lf : Nat)
def rfCall (rd : Option Nat) (f : AV) (ps : List Nat) (asg body : ACode) (s : List AV) (m : List Nat) (st : St) : RunRes :=
  obind (match rd with
    | none => some (st.H.length, st.H.length :: m, { st with H := st.H ++ [.dfr] })
    | some l0 => match st.H[l0]? with
      | some (.loop _ _ _ _ _ _ _ d) => some (d, m, st)
      | _ => none) fun (d, m', st1) =>
  let l := st1.H.length
  let st2 : St := { st1 with H := st1.H ++ [.loop .ready none 0 s ps asg body d] }
  match f with
  | .fn g a b => obind (C E (.fn g) (a ++ [.yld l] ++ b) st2) fun
    | (.ok _, st3) => match st3.H[l]? with
      | some (.loop ls p g' t ps' as' bd d') => guardb (decide (ls ≠ .busy))
          (some (AJump.exit' p, s, m', { st3 with H := st3.H.set l (.loop .exhausted p g' t ps' as' bd d') }))
      | _ => none
    | (.pan v, st3) => some (.pan v, s, m', st3)
  | _ => none
def aRun (rd : Option Nat) : ACode → List AV → List Nat → St → RunRes
 | .skip, s, m, st => some (.nrm, s, m, st)
 | .reg ops, s, m, st => obind (aOps GT C E ops s st) fun
  | (.ok s', st') => some (.nrm, s', m, st')
  | (.pan v, st') => some (.pan v, s, m, st')
 | .dreg ops, s, m, st => obind (aDraw GT C E 0 ops [] [(none, st)] s st) fun
  | (.ok s', st') => some (.nrm, s', m, st')
  | (.pan v, st') => some (.pan v, s, m, st')
 | .seq a b, s, m, st => obind (aRun rd a s m st) fun
  | (.nrm, s', m', st') => aRun rd b s' m' st'
  | r => some r
 | .cond c x y, s, m, st =>
  match evA GT s c with
  | .bool b => if b then aRun rd x s m st else aRun rd y s m st
  | _ => none
 | .block id b, s, m, st => obind (aRun rd b s m st) fun
  | (.exit j, s', m', st') => if j = id then some (.nrm, s', m', st') else some (.exit j, s', m', st')
  | r => some r
 | .scope b, s, m, st => aRun rd b s m st
 | .loop b, s, m, st => iter (aRun rd b) lf s m st
 | .rf f ps asg body, s, m, st => rfCall C E rd (evA GT s f) ps asg body s m st
 | .exit id, s, m, st => some (.exit id, s, m, st)
 | .ret, s, m, st => some (.ret, s, m, st)
 | .bad, _, _, _ => none
def putAll (t : List AV) : List Nat → List AV → List AV
 | p :: ps, a :: as => putAll (t.set p a) ps as
 | _, _ => t
def endRoundA (l : Nat) (j : Option AJump) (st : St) : Option (Rt AV × St) :=
 match st.H[l]? with
 | some (.loop _ _ f t ps as bd d) =>
  some (.ok (.bool j.isNone), { st with H := st.H.set l (.loop (if j.isNone then .ready else .done) j f t ps as bd d) })
 | _ => none
def aRound (l : Nat) (args : List AV) (st : St) : Option (Rt AV × St) :=
 match st.H[l]? with
 | some (.loop _ _ _ t ps asg body _) => guardb (decide (args.length = ps.length) && decide (E.rob ≤ l))
  (obind (aRun GT C E lf (some l) asg (putAll t ps args) [] st) fun
   | (.nrm, s1, [], st1) =>
    match st1.H[l]? with
    | some (.loop .ready p f t ps as bd d) =>
     obind (aRun GT C E lf (some l) body s1 [] { st1 with H := st1.H.set l (.loop .busy p f t ps as bd d) }) fun
      | (.nrm, _, _, st2) => endRoundA l none st2
      | (.ret, _, _, st2) => endRoundA l (some .ret) st2
      | (.exit id, _, _, st2) => endRoundA l (some (.exit id)) st2
      | (.pan _, _, _, _) => none
    | _ => none
   | _ => none)
 | _ => none
end
def takeAll (st : St) : List Nat → Option St
 | [] => some st
 | d :: ds => match st.H[d]? with
  | some .dfr => takeAll { st with H := st.H.set d .opq } ds
  | _ => none
def resA (s : List AV) (st : St) : ARes → Option AV
 | .tmp t => some (lk s t)
 | .cell a k => loadA st k (lk s a)
def resAll (s : List AV) (st : St) : List ARes → Option (List AV)
 | [] => some []
 | r :: rs => obind (resA s st r) fun v => obind (resAll s st rs) fun vs => some (v :: vs)
def oneOr : List AV → AV
 | [v] => v
 | vs => .tup vs
def leaveA (fn : AFn) (st : St) (s : List AV) : Option (Rt AV × St) :=
 obind (resAll s st fn.res) fun vs => some (.ok (oneOr vs), st)
structure AProg where
 GT : Nat → Option (List AV)
 fn : Nat → Option AFn
 ovr : Nat → Option (CSem → Env → List AV → St → Option (Rt AV × St))
def aCall (A : AProg) : Nat → CSem
 | 0 => fun _ _ _ _ => none
 | k + 1 => fun E cal args st =>
  match cal with
  | .yld l => aRound A.GT (aCall A k) E k l args st
  | .fn f =>
   match A.ovr f with
   | some g => g (aCall A k) E args st
   | none =>
    match A.fn f with
    | none => none
    | some fn => obind (aRun A.GT (aCall A k) E k none fn.body (args ++ List.replicate (fn.ntmps - args.length) AV.undef) [] st) fun
     | (.nrm, s, m, st') => obind (takeAll st' m) fun st'' => leaveA fn st'' s
     | (.ret, s, m, st') => obind (takeAll st' m) fun st'' => leaveA fn st'' s
     | (.pan v, _, m, st') => obind (takeAll st' m) fun st'' => some (.pan v, st'')
     | (.exit _, _, _, _) => none
def refsBlk : ABlk → List Ref
 | .cells _ c => AV.refsL c
 | .map es => AV.refsL (mapCells es)
 | .loop _ _ _ t _ _ _ d => .blk d :: AV.refsL t
 | .dfr => []
 | .opq => []
structure Env.Wf (E : Env) (st : St) : Prop where
 base : E.base ≤ st.H.length
 rob : E.rob ≤ st.H.length
 rom : E.rom ≤ st.I.length
structure StepOK (E : Env) (st st' : St) : Prop where
 H : st.H.length ≤ st'.H.length
 I : st.I.length ≤ st'.I.length
 rob : ∀ b o, b < E.rob → st.H[b]? = some o → st'.H[b]? = some o
 rom : ∀ i x, i < E.rom → st.I[i]? = some x → st'.I[i]? = some x
 refs : ∀ b o o', b < E.base → st.H[b]? = some o → st'.H[b]? = some o' → ∀ r ∈ refsBlk o', r ∈ refsBlk o
theorem StepOK.refl (E : Env) (st : St) : StepOK E st st := ⟨Nat.le_refl _, Nat.le_refl _, fun _ _ _ h => h, fun _ _ _ h => h, fun b o o' _ h h' r hr => by rw [h] at h'; cases h'; exact hr⟩
theorem StepOK.wf {E : Env} {st st' : St} (h : StepOK E st st') (w : E.Wf st) : E.Wf st' := ⟨Nat.le_trans w.base h.H, Nat.le_trans w.rob h.H, Nat.le_trans w.rom h.I⟩
theorem StepOK.trans {E : Env} {st st' st'' : St} (h : StepOK E st st') (k : StepOK E st' st'') : StepOK E st st'' := by
 refine ⟨Nat.le_trans h.H k.H, Nat.le_trans h.I k.I, fun b o hb e => k.rob b o hb (h.rob b o hb e), fun i x hi e => k.rom i x hi (h.rom i x hi e), fun b o o' hb e e' r hr => ?_⟩
 have hlt : b < st'.H.length := Nat.lt_of_lt_of_le (List.getElem?_eq_some_iff.1 e).1 h.H
 have e1 : st'.H[b]? = some st'.H[b] := List.getElem?_eq_getElem hlt
 exact h.refs b o _ hb e e1 r (k.refs b _ o' hb e1 e' r hr)
theorem StepOK.weak {E E' : Env} {st st' : St} (h : StepOK E' st st') (h1 : E.base ≤ E'.base) (h2 : E.rob ≤ E'.rob) (h3 : E.rom ≤ E'.rom) : StepOK E st st' :=
 ⟨h.H, h.I, fun b o hb => h.rob b o (by omega), fun i x hi => h.rom i x (by omega), fun b o o' hb => h.refs b o o' (by omega)⟩
theorem refsL_flat : ∀ l : List AV, AV.refsL l = l.flatMap AV.refs
 | [] => rfl
 | v :: vs => by simp [AV.refsL, refsL_flat vs]
theorem refsL_wr {c vs : List AV} {off : Nat} {r : Ref} (h : r ∈ AV.refsL (wrC c off vs)) : r ∈ AV.refsL c ∨ r ∈ AV.refsL vs := by
 simp only [refsL_flat, wrC, List.flatMap_append, List.mem_append, List.mem_flatMap] at h ⊢
 rcases h with (⟨x, hx, h⟩ | h) | ⟨x, hx, h⟩
 ·exact .inl ⟨x, List.mem_of_mem_take hx, h⟩
 ·exact .inr h
 ·exact .inl ⟨x, List.mem_of_mem_drop hx, h⟩
theorem StepOK.push {E : Env} {st : St} {o : ABlk} (w : E.Wf st) : StepOK E st { st with H := st.H ++ [o] } :=
 ⟨by simp, Nat.le_refl _, fun b x hb e => by rw [List.getElem?_append_left (List.getElem?_eq_some_iff.1 e).1]; exact e, fun _ _ _ h => h, fun b x y hb e e' r hr => by
  rw [List.getElem?_append_left (List.getElem?_eq_some_iff.1 e).1, e] at e'; cases e'; exact hr⟩
theorem StepOK.pushI {E : Env} {st : St} {x : Nat × Nat} (w : E.Wf st) : StepOK E st { st with I := st.I ++ [x] } :=
 ⟨Nat.le_refl _, by simp, fun _ _ _ h => h, fun i y hi e => by rw [List.getElem?_append_left (List.getElem?_eq_some_iff.1 e).1]; exact e, fun b x y hb e e' r hr => by
  rw [e] at e'; cases e'; exact hr⟩
theorem StepOK.setI {E : Env} {st : St} {i : Nat} {x : Nat × Nat} (h : E.rom ≤ i) : StepOK E st { st with I := st.I.set i x } :=
 ⟨Nat.le_refl _, by simp, fun _ _ _ h => h, fun j y hj e => by rw [List.getElem?_set, if_neg (by omega)]; exact e, fun b x y hb e e' r hr => by
  rw [e] at e'; cases e'; exact hr⟩
theorem StepOK.setH {E : Env} {st : St} {b : Nat} {o o' : ABlk} (h : E.rob ≤ b) (ho : st.H[b]? = some o) (hr : b < E.base → ∀ r ∈ refsBlk o', r ∈ refsBlk o) : StepOK E st { st with H := st.H.set b o' } := by
 have hlt := (List.getElem?_eq_some_iff.1 ho).1
 refine ⟨by simp, Nat.le_refl _, fun k y hk e => by rw [List.getElem?_set, if_neg (by omega)]; exact e, fun _ _ _ h => h, fun k y y' hk e e' r hm => ?_⟩
 rw [List.getElem?_set] at e'
 split at e'
 ·rename_i hb; subst hb
  simp only [hlt, if_true, Option.some.injEq] at e'; subst e'
  rw [ho] at e; cases e
  exact hr hk r hm
 ·rw [e] at e'; cases e'; exact hm
theorem updA_refs {str : Bool} {k v : AV} : ∀ {es es' : List (AV × AV)}, updA str k v es = some es' → ∀ r ∈ AV.refsL (mapCells es'), r ∈ AV.refsL (mapCells es) ∨ r ∈ AV.refsL [k, v]
 | [], es', h, r, hr => by simp only [updA, Option.some.injEq] at h; subst h; exact .inr hr
 | (q, u) :: es, es', h, r, hr => by
  simp only [updA, obind_eq_some] at h
  obtain ⟨b, _, h⟩ := h
  split at h
  ·simp only [Option.some.injEq] at h; subst h
   simp only [mapCells, List.flatMap_cons, refsL_flat, List.flatMap_append, List.mem_append, List.flatMap_nil, List.append_nil] at hr ⊢
   rcases hr with (h | h) | h
   ·exact .inr (.inl h)
   ·exact .inr (.inr h)
   ·exact .inl (.inr h)
  ·simp only [obind_eq_some, Option.some.injEq] at h
   obtain ⟨r', h1, rfl⟩ := h
   have ih := updA_refs h1 r
   simp only [mapCells, List.flatMap_cons, refsL_flat, List.flatMap_append, List.mem_append, List.flatMap_nil, List.append_nil] at hr ih ⊢
   rcases hr with h | h
   ·exact .inl (.inl h)
   ·rcases ih h with h | h
    ·exact .inl (.inr h)
    ·exact .inr h
theorem mayWrite_refs {E : Env} {b : Nat} {old new : List AV} (h : mayWrite E b old new = true) : E.rob ≤ b ∧ (b < E.base → ∀ r ∈ AV.refsL new, r ∈ AV.refsL old) := by
 simp only [mayWrite, Bool.and_eq_true, Bool.or_eq_true, decide_eq_true_eq] at h
 refine ⟨h.1, fun hb r hr => ?_⟩
 rcases h.2 with h | h
 ·omega
 ·simp only [subRefs, List.all_eq_true, decide_eq_true_eq] at h
  exact h r hr
section
variable {E : Env} {st st' : St} {ev : AO → AV} {r : Rt AV}
theorem aOp_same {op : AOp} (hne : isEff op = false) (h : aOp E st ev op = some (r, st')) : st' = st ∧ ∃ v, r = .ok v := by
 cases op <;> simp only [isEff, reduceCtorEq, Bool.true_eq_false] at hne <;> simp only [aOp, okOf, okv_eq] at h <;> grind [= obind_eq_some, = guardb_eq_some]
theorem aOp_pure {op : AOp} (hne : isEff op = false) (hnr : reads op = false) (h : aOp E st ev op = some (r, st')) (E2 : Env) (st2 : St) : aOp E2 st2 ev op = some (r, st2) := by
 cases op <;> simp only [isEff, reads, reduceCtorEq, Bool.true_eq_false] at hne hnr <;> simp only [aOp, okOf, okv_eq] at h ⊢ <;> (repeat' (split at h)) <;> simp_all [obind_eq_some, guardb_eq_some] <;> grind
theorem aOp_step {op : AOp} (w : E.Wf st) (h : aOp E st ev op = some (r, st')) : StepOK E st st' := by
 by_cases hne : isEff op = false
 ·rw [(aOp_same hne h).1]; exact .refl E st
 ·cases op <;> simp only [isEff, not_true_eq_false] at hne
  case alloc =>
   simp only [aOp, okv_eq, guardb_eq_some, Option.some.injEq, Prod.mk.injEq] at h
   obtain ⟨_, _, rfl⟩ := h; exact .push w
  case box =>
   simp only [aOp, okv_eq, guardb_eq_some, Option.some.injEq, Prod.mk.injEq] at h
   obtain ⟨_, _, rfl⟩ := h; exact .push w
  case bsl own sz n z ps =>
   simp only [aOp, okv_eq, obind_eq_some] at h
   obtain ⟨cs, _, h⟩ := h
   split at h
   ·simp only [Option.some.injEq, Prod.mk.injEq] at h; obtain ⟨_, rfl⟩ := h; exact .pushI w
   ·simp only [Option.some.injEq, Prod.mk.injEq] at h; obtain ⟨_, rfl⟩ := h; exact .refl E st
  case st n p x =>
   simp only [aOp, okv_eq, obind_eq_some, Option.some.injEq, Prod.mk.injEq] at h
   obtain ⟨st1, h, _, rfl⟩ := h
   unfold storeA at h
   split at h
   ·split at h
    ·rename_i t c hc
     simp only [guardb_eq_some, Bool.and_eq_true, Option.some.injEq] at h
     obtain ⟨⟨_, hm⟩, rfl⟩ := h
     have hm := mayWrite_refs hm
     refine .setH hm.1 hc fun hb r hr => ?_
     simp only [refsBlk] at hr ⊢
     rcases refsL_wr hr with hr | hr
     ·exact hr
     ·exact hm.2 hb r hr
    ·cases h
   ·cases h
  case mks =>
   simp only [aOp, okv_eq] at h
   split at h
   ·simp only [guardb_eq_some, Option.some.injEq, Prod.mk.injEq] at h
    obtain ⟨_, _, rfl⟩ := h; exact .pushI w
   ·cases h
  case mkh =>
   simp only [aOp, okv_eq] at h
   split at h
   ·simp only [guardb_eq_some, Option.some.injEq, Prod.mk.injEq] at h
    obtain ⟨_, _, rfl⟩ := h; exact .push w
   ·cases h
  case frz =>
   simp only [aOp, okv_eq] at h
   split at h
   ·split at h
    ·rename_i hb
     simp only [guardb_eq_some, decide_eq_true_eq, Option.some.injEq, Prod.mk.injEq] at h
     obtain ⟨hr, _, rfl⟩ := h
     exact .setH hr hb fun _ r hr => by simp [refsBlk] at hr
    ·cases h
   ·cases h
  case app sz bytes x y =>
   simp only [aOp, okv_eq, obind_eq_some] at h
   obtain ⟨⟨v, st1⟩, h, h'⟩ := h
   simp only [Option.some.injEq, Prod.mk.injEq] at h'
   obtain ⟨_, rfl⟩ := h'
   unfold appA at h
   simp only [obind_eq_some] at h
   obtain ⟨⟨m, ys⟩, _, h⟩ := h
   split at h
   ·split at h
    ·simp only [Option.some.injEq, Prod.mk.injEq] at h; obtain ⟨_, rfl⟩ := h; exact .refl E st
    ·simp only [guardb_eq_some, Option.some.injEq, Prod.mk.injEq] at h; obtain ⟨_, _, rfl⟩ := h; exact .pushI w
   ·simp only [guardb_eq_some, Bool.and_eq_true, decide_eq_true_eq, Option.some.injEq, Prod.mk.injEq] at h
    obtain ⟨⟨⟨⟨⟨hr, _⟩, _⟩, _⟩, _⟩, _, rfl⟩ := h; exact .setI hr
   ·cases h
  case mkm =>
   simp only [aOp, okv_eq, Option.some.injEq, Prod.mk.injEq] at h
   obtain ⟨_, rfl⟩ := h; exact .push w
  case upd str m k v =>
   simp only [aOp, okv_eq] at h
   split at h
   ·split at h
    ·rename_i es hes
     simp only [guardb_eq_some, Bool.and_eq_true, obind_eq_some, Option.some.injEq, Prod.mk.injEq] at h
     obtain ⟨⟨_, hm⟩, es', hu, _, rfl⟩ := h
     have hm := mayWrite_refs hm
     refine .setH hm.1 hes fun hb r hr => ?_
     simp only [refsBlk] at hr ⊢
     rcases updA_refs hu r hr with hr | hr
     ·exact hr
     ·have := hm.2 hb r hr; simp [AV.refsL] at this
    ·cases h
   ·cases h
  case pan =>
   simp only [aOp] at h
   split at h
   ·simp only [Option.some.injEq, Prod.mk.injEq] at h; obtain ⟨_, rfl⟩ := h; exact .refl E st
   ·cases h
  case call => simp [aOp] at h
  case callv => simp [aOp] at h
end
def StepC (C : CSem) : Prop := ∀ E cal args st r st', C E cal args st = some (r, st') → E.Wf st → StepOK E st st'
section
variable {GT : Nat → Option (List AV)} {C : CSem} (hC : StepC C)
include hC
theorem doCall_step {E : Env} {tr : Tr} {cal : Cal} {args : List AV} {st st' : St} {r : Rt AV} (w : E.Wf st) (h : doCall C E tr cal args st = some (r, st')) : StepOK E st st' := by
 have cutOK : ∀ {st1 : St} {m : Nat}, StepOK { E with base := st.H.length } st st1 → st.I.length ≤ m → StepOK E st { H := st1.H.take st.H.length, I := st1.I.take m } := fun {st1 m} k hm => by
  have k' : StepOK E st st1 := k.weak w.base (Nat.le_refl _) (Nat.le_refl _)
  refine ⟨by simp [k.H], by simp only [List.length_take]; exact Nat.le_min.2 ⟨hm, k.I⟩, fun b o hb e => ?_, fun i x hi e => ?_, fun b o o' hb e e' r hr => ?_⟩
  ·have := k'.rob b o hb e
   rw [List.getElem?_take, if_pos (List.getElem?_eq_some_iff.1 e).1]; exact this
  ·have := k'.rom i x hi e
   rw [List.getElem?_take, if_pos (by have := (List.getElem?_eq_some_iff.1 e).1; omega)]; exact this
  ·rw [List.getElem?_take] at e'
   split at e'
   ·exact k'.refs b o o' hb e e' r hr
   ·cases e'
 cases tr with
 | no => exact hC _ _ _ _ _ _ h w
 | keep =>
  simp only [doCall, obind_eq_some] at h
  obtain ⟨⟨r1, st1⟩, h1, h⟩ := h
  have k := hC _ _ _ _ _ _ h1 ⟨Nat.le_refl _, w.rob, w.rom⟩
  cases r1 with
  | ok v =>
   simp only [guardb_eq_some, okv_eq, Option.some.injEq, Prod.mk.injEq] at h
   obtain ⟨_, _, rfl⟩ := h
   have := cutOK k k.I
   rwa [List.take_length] at this
  | pan v =>
   simp only [Option.some.injEq, Prod.mk.injEq] at h
   obtain ⟨_, rfl⟩ := h
   exact k.weak w.base (Nat.le_refl _) (Nat.le_refl _)
 | full =>
  simp only [doCall, obind_eq_some] at h
  obtain ⟨⟨r1, st1⟩, h1, h⟩ := h
  have k := hC _ _ _ _ _ _ h1 ⟨Nat.le_refl _, w.rob, w.rom⟩
  cases r1 with
  | ok v =>
   simp only [guardb_eq_some, okv_eq, Option.some.injEq, Prod.mk.injEq] at h
   obtain ⟨_, _, rfl⟩ := h
   exact cutOK k (Nat.le_refl _)
  | pan v =>
   simp only [Option.some.injEq, Prod.mk.injEq] at h
   obtain ⟨_, rfl⟩ := h
   exact k.weak w.base (Nat.le_refl _) (Nat.le_refl _)
 | quiet =>
  simp only [doCall, obind_eq_some] at h
  obtain ⟨⟨r1, st1⟩, h1, h⟩ := h
  have k := hC _ _ _ _ _ _ h1 ⟨Nat.le_refl _, Nat.le_refl _, Nat.le_refl _⟩
  cases r1 with
  | ok v =>
   simp only [guardb_eq_some, okv_eq, Option.some.injEq, Prod.mk.injEq] at h
   obtain ⟨_, _, rfl⟩ := h
   exact .refl E _
  | pan v => simp at h
theorem aExec_step {E : Env} {op : AOp} {s : List AV} {st st' : St} {r : Rt AV} (w : E.Wf st) (h : aExec GT C E op s st = some (r, st')) : StepOK E st st' := by
 unfold aExec at h
 split at h
 ·exact doCall_step hC w h
 ·split at h
  ·exact doCall_step hC w h
  ·exact doCall_step hC w h
  ·cases h
 ·exact aOp_step w h
theorem aOps_step {E : Env} : ∀ {ops : List AOper} {s : List AV} {st st' : St} {r : Rt (List AV)}, E.Wf st → aOps GT C E ops s st = some (r, st') → StepOK E st st'
 | [], s, st, st', r, w, h => by simp only [aOps, Option.some.injEq, Prod.mk.injEq] at h; rw [h.2]; exact .refl E _
 | o :: ops, s, st, st', r, w, h => by
  simp only [aOps, obind_eq_some] at h
  obtain ⟨⟨r1, st1⟩, h1, h⟩ := h
  have k : StepOK E st st1 := by
   unfold aStep at h1
   split at h1
   ·simp only [obind_eq_some] at h1
    obtain ⟨⟨r2, st2⟩, h2, h1⟩ := h1
    have k := aExec_step hC w h2
    cases r2 <;> simp only [Option.some.injEq, Prod.mk.injEq] at h1 <;> rw [← h1.2] <;> exact k
   ·simp only [Option.some.injEq, Prod.mk.injEq] at h1
    rw [h1.2]; exact .refl E _
  cases r1 with
  | ok s1 => exact k.trans (aOps_step (k.wf w) h)
  | pan v =>
   simp only [Option.some.injEq, Prod.mk.injEq] at h
   rw [← h.2]; exact k
theorem aDraw_step {E : Env} : ∀ {ops : List (AOper × Nat)} {i : Nat} {ds : List Done} {sts : List (Option Nat × St)} {s : List AV} {st st' : St} {r : Rt (List AV)}, E.Wf st → aDraw GT C E i ops ds sts s st = some (r, st') → StepOK E st st'
 | [], i, ds, sts, s, st, st', r, w, h => by simp only [aDraw, Option.some.injEq, Prod.mk.injEq] at h; rw [h.2]; exact .refl E _
 | (o, m) :: ops, i, ds, sts, s, st, st', r, w, h => by
  simp only [aDraw] at h
  split at h
  ·simp only [obind_eq_some] at h
   obtain ⟨⟨r2, st2⟩, h2, h⟩ := h
   have k := aExec_step hC w h2
   cases r2 with
   | ok v =>
    simp only at h
    split at h
    ·simp only [guardb_eq_some] at h
     exact k.trans (aDraw_step (k.wf w) h.2)
    ·split at h
     ·simp only [guardb_eq_some] at h
      exact aDraw_step w h.2
     ·exact aDraw_step w h
   | pan v =>
    simp only [guardb_eq_some, Option.some.injEq, Prod.mk.injEq] at h
    rw [← h.2.2]; exact k
  ·split at h
   ·exact aDraw_step w h
   ·exact aDraw_step w h
theorem rfCall_step {E : Env} {rd : Option Nat} {f : AV} {ps : List Nat} {asg body : ACode} {s : List AV} {m : List Nat} {st : St} {x : AExit} {s' : List AV} {m' : List Nat} {st' : St} (w : E.Wf st)
  (hm : ∀ d ∈ m, E.rob ≤ d) (h : rfCall C E rd f ps asg body s m st = some (x, s', m', st')) : StepOK E st st' ∧ ∀ d ∈ m', E.rob ≤ d := by
 unfold rfCall at h
 simp only [obind_eq_some] at h
 obtain ⟨⟨d, m1, st1⟩, h1, h⟩ := h
 have k1 : StepOK E st st1 ∧ ∀ d ∈ m1, E.rob ≤ d := by
  cases rd with
  | none =>
   simp only [Option.some.injEq, Prod.mk.injEq] at h1
   obtain ⟨rfl, rfl, rfl⟩ := h1
   exact ⟨.push w, fun d hd => by
    rcases List.mem_cons.1 hd with rfl | hd
    ·exact w.rob
    ·exact hm d hd⟩
  | some l0 =>
   simp only at h1
   split at h1
   ·simp only [Option.some.injEq, Prod.mk.injEq] at h1
    obtain ⟨rfl, rfl, rfl⟩ := h1
    exact ⟨.refl E _, hm⟩
   ·cases h1
 simp only at h
 have w1 := k1.1.wf w
 have k2 : StepOK E st1 { st1 with H := st1.H ++ [.loop .ready none 0 s ps asg body d] } := .push w1
 have w2 := k2.wf w1
 split at h
 ·simp only [obind_eq_some] at h
  obtain ⟨⟨r3, st3⟩, h3, h⟩ := h
  have k3 := hC _ _ _ _ _ _ h3 w2
  have k := k1.1.trans (k2.trans k3)
  cases r3 with
  | ok v =>
   simp only at h
   split at h
   ·rename_i ls p g' t ps' as' bd d' hl
    simp only [guardb_eq_some, Option.some.injEq, Prod.mk.injEq] at h
    obtain ⟨_, _, _, rfl, rfl⟩ := h
    exact ⟨k.trans (.setH w1.rob hl fun _ r hr => by simpa only [refsBlk] using hr), k1.2⟩
   ·cases h
  | pan v =>
   simp only [Option.some.injEq, Prod.mk.injEq] at h
   obtain ⟨_, _, rfl, rfl⟩ := h
   exact ⟨k, k1.2⟩
 ·cases h
theorem aRun_step {E : Env} {lf : Nat} {rd : Option Nat} : ∀ (c : ACode) {s : List AV} {m : List Nat} {st : St} {x : AExit} {s' : List AV} {m' : List Nat} {st' : St}, E.Wf st → (∀ d ∈ m, E.rob ≤ d) →
  aRun GT C E lf rd c s m st = some (x, s', m', st') → StepOK E st st' ∧ ∀ d ∈ m', E.rob ≤ d
 | .skip, s, m, st, x, s', m', st', w, hm, h => by
  simp only [aRun, Option.some.injEq, Prod.mk.injEq] at h
  obtain ⟨_, _, rfl, rfl⟩ := h; exact ⟨.refl E _, hm⟩
 | .exit i, s, m, st, x, s', m', st', w, hm, h => by
  simp only [aRun, Option.some.injEq, Prod.mk.injEq] at h
  obtain ⟨_, _, rfl, rfl⟩ := h; exact ⟨.refl E _, hm⟩
 | .ret, s, m, st, x, s', m', st', w, hm, h => by
  simp only [aRun, Option.some.injEq, Prod.mk.injEq] at h
  obtain ⟨_, _, rfl, rfl⟩ := h; exact ⟨.refl E _, hm⟩
 | .bad, s, m, st, x, s', m', st', w, hm, h => by simp [aRun] at h
 | .reg ops, s, m, st, x, s', m', st', w, hm, h => by
  simp only [aRun, obind_eq_some] at h
  obtain ⟨⟨r1, st1⟩, h1, h⟩ := h
  have k := aOps_step hC w h1
  cases r1 <;> simp only [Option.some.injEq, Prod.mk.injEq] at h <;> obtain ⟨_, _, rfl, rfl⟩ := h <;> exact ⟨k, hm⟩
 | .dreg ops, s, m, st, x, s', m', st', w, hm, h => by
  simp only [aRun, obind_eq_some] at h
  obtain ⟨⟨r1, st1⟩, h1, h⟩ := h
  have k := aDraw_step hC w h1
  cases r1 <;> simp only [Option.some.injEq, Prod.mk.injEq] at h <;> obtain ⟨_, _, rfl, rfl⟩ := h <;> exact ⟨k, hm⟩
 | .seq a b, s, m, st, x, s', m', st', w, hm, h => by
  simp only [aRun, obind_eq_some] at h
  obtain ⟨⟨x1, s1, m1, st1⟩, h1, h⟩ := h
  have k := aRun_step a w hm h1
  cases x1 with
  | nrm =>
   have k2 := aRun_step b (k.1.wf w) k.2 h
   exact ⟨k.1.trans k2.1, k2.2⟩
  | _ => simp only [Option.some.injEq, Prod.mk.injEq] at h; obtain ⟨_, _, rfl, rfl⟩ := h; exact k
 | .cond c a b, s, m, st, x, s', m', st', w, hm, h => by
  simp only [aRun] at h
  split at h
  ·split at h
   ·exact aRun_step a w hm h
   ·exact aRun_step b w hm h
  ·cases h
 | .block i b, s, m, st, x, s', m', st', w, hm, h => by
  simp only [aRun, obind_eq_some] at h
  obtain ⟨⟨x1, s1, m1, st1⟩, h1, h⟩ := h
  have k := aRun_step b w hm h1
  cases x1 with
  | exit j =>
   simp only at h
   split at h <;> simp only [Option.some.injEq, Prod.mk.injEq] at h <;> obtain ⟨_, _, rfl, rfl⟩ := h <;> exact k
  | _ => simp only [Option.some.injEq, Prod.mk.injEq] at h; obtain ⟨_, _, rfl, rfl⟩ := h; exact k
 | .scope b, s, m, st, x, s', m', st', w, hm, h => by
  simp only [aRun] at h
  exact aRun_step b w hm h
 | .loop b, s, m, st, x, s', m', st', w, hm, h => by
  simp only [aRun] at h
  have key : ∀ (k : Nat) {s : List AV} {m : List Nat} {st : St}, E.Wf st → (∀ d ∈ m, E.rob ≤ d) → iter (aRun GT C E lf rd b) k s m st = some (x, s', m', st') → StepOK E st st' ∧ ∀ d ∈ m', E.rob ≤ d := by
   intro k
   induction k with
   | zero => intro s m st w hm h; simp [iter] at h
   | succ k ih =>
    intro s m st w hm h
    simp only [iter, obind_eq_some] at h
    obtain ⟨⟨x1, s1, m1, st1⟩, h1, h⟩ := h
    have k1 := aRun_step b w hm h1
    cases x1 with
    | nrm =>
     have k2 := ih (k1.1.wf w) k1.2 h
     exact ⟨k1.1.trans k2.1, k2.2⟩
    | _ => simp only [Option.some.injEq, Prod.mk.injEq] at h; obtain ⟨_, _, rfl, rfl⟩ := h; exact k1
  exact key lf w hm h
 | .rf f ps asg body, s, m, st, x, s', m', st', w, hm, h => rfCall_step hC w hm h
omit hC in
theorem endRoundA_step {E : Env} {l : Nat} {j : Option AJump} {st st' : St} {r : Rt AV} (hl : E.rob ≤ l) (h : endRoundA l j st = some (r, st')) : StepOK E st st' := by
 unfold endRoundA at h
 split at h
 ·rename_i a b c d e f g i hb
  simp only [Option.some.injEq, Prod.mk.injEq] at h
  obtain ⟨_, rfl⟩ := h
  exact .setH hl hb fun _ r hr => by simpa only [refsBlk] using hr
 ·cases h
theorem aRound_step {E : Env} {lf l : Nat} {args : List AV} {st st' : St} {r : Rt AV} (w : E.Wf st) (h : aRound GT C E lf l args st = some (r, st')) : StepOK E st st' := by
 unfold aRound at h
 split at h
 ·simp only [guardb_eq_some, Bool.and_eq_true, decide_eq_true_eq, obind_eq_some] at h
  obtain ⟨⟨_, hl⟩, ⟨x1, s1, m1, st1⟩, h1, h⟩ := h
  have k1 := aRun_step hC _ w (by simp) h1
  split at h
  ·rename_i s2 st2 heq
   simp only [Prod.mk.injEq] at heq
   obtain ⟨rfl, rfl, rfl, rfl⟩ := heq
   split at h
   ·rename_i p f t ps as bd d hb
    simp only [obind_eq_some] at h
    obtain ⟨⟨x3, s3, m3, st3⟩, h3, h⟩ := h
    have w1 := k1.1.wf w
    have k2 : StepOK E st1 _ := .setH hl hb (o' := ABlk.loop .busy p f t ps as bd d) fun _ r hr => by simpa only [refsBlk] using hr
    have k3 := aRun_step hC _ (k2.wf w1) (by simp) h3
    have k := k1.1.trans (k2.trans k3.1)
    cases x3 with
    | pan v => cases h
    | _ => exact k.trans (endRoundA_step hl h)
   ·cases h
  ·cases h
 ·cases h
end
theorem takeAll_step {E : Env} : ∀ {m : List Nat} {st st' : St}, (∀ d ∈ m, E.rob ≤ d) → takeAll st m = some st' → StepOK E st st'
 | [], st, st', _, h => by simp only [takeAll, Option.some.injEq] at h; rw [h]; exact .refl E _
 | d :: ds, st, st', hm, h => by
  simp only [takeAll] at h
  split at h
  ·rename_i hd
   have k1 : StepOK E st _ := .setH (hm d (by simp)) hd (o' := .opq) fun _ r hr => by simp [refsBlk] at hr
   exact k1.trans (takeAll_step (fun x hx => hm x (by simp [hx])) h)
  ·cases h
def StepOvr (A : AProg) : Prop := ∀ f g C E args st r st', A.ovr f = some g → StepC C → g C E args st = some (r, st') → E.Wf st → StepOK E st st'
theorem aCall_step {A : AProg} (hA : StepOvr A) : ∀ k, StepC (aCall A k)
 | 0 => fun E cal args st r st' h w => by simp [aCall] at h
 | k + 1 => fun E cal args st r st' h w => by
  have hC := aCall_step hA k
  cases cal with
  | yld l => exact aRound_step hC w h
  | fn f =>
   simp only [aCall] at h
   split at h
   ·rename_i g hg
    exact hA _ _ _ _ _ _ _ _ hg hC h w
   ·split at h
    ·cases h
    ·simp only [obind_eq_some] at h
     obtain ⟨⟨x1, s1, m1, st1⟩, h1, h⟩ := h
     have k1 := aRun_step hC _ w (by simp) h1
     have fin : ∀ {st2 : St}, takeAll st1 m1 = some st2 → StepOK E st st2 := fun h2 => k1.1.trans (takeAll_step k1.2 h2)
     cases x1 with
     | exit i => cases h
     | pan v =>
      simp only [obind_eq_some, Option.some.injEq, Prod.mk.injEq] at h
      obtain ⟨st2, h2, _, rfl⟩ := h
      exact fin h2
     | _ =>
      simp only [obind_eq_some, leaveA, Option.some.injEq, Prod.mk.injEq] at h
      obtain ⟨st2, h2, vs, _, _, rfl⟩ := h
      exact fin h2
def qo (d : Nat) (x : AOp) : AOper := ⟨some d, x, none⟩
def qg (d : Nat) (x : AOp) (t : Nat) (b : Bool) : AOper := ⟨some d, x, some (t, b)⟩
def qv (d a : Nat) : AOper := qo d (.mv (.t a))
def qf (d n a : Nat) : AOper := qo d (.fa n (.t a))
def ql (d a : Nat) : AOper := qo d (.ld none (.t a))
def qn (d a : Nat) : AOper := qo d (.nck (.t a))
def qi (n : Int) : AO := .c (.int .i64 n)
def qs (a : Array UInt8) : AO := .c (.str ⟨a⟩)
def z5 : List AV := [.int .i64 0, .str ⟨#[]⟩, .int .i64 0, .nils, .int .i64 0]
def z6 : List AV := [.int .i64 0, .str ⟨#[]⟩, .int .i64 0, .int .i64 0, .bool false]
abbrev oO (d : Nat) (x : AOp) : AOper := ⟨some d, x, none⟩
abbrev oG (d : Nat) (x : AOp) (t : Nat) (b : Bool) : AOper := ⟨some d, x, some (t, b)⟩
abbrev oS (x : AOp) : AOper := ⟨none, x, none⟩
abbrev oV (d a : Nat) : AOper := ⟨some d, .mv (.t a), none⟩
abbrev oF (d n a : Nat) : AOper := ⟨some d, .fa n (.t a), none⟩
abbrev oL (d a : Nat) : AOper := ⟨some d, .ld none (.t a), none⟩
abbrev oN (d a : Nat) : AOper := ⟨some d, .nck (.t a), none⟩
def a13 : AFn := ⟨53, [.tmp 4],
 .seq (.reg [oO 2 (.box 24 (.t 0)), oO 4 (.mv (.c (.bool false)))])
 (.seq (.reg [oO 15 (.call .full 32 []), oV 5 15])
 (.seq (.reg [oO 16 (.ld (some 5) (.t 2)), oO 17 (.call .full 27 [(.t 16)]), oV 6 17])
 (.seq (.seq (.reg [oO 18 (.ld (some 5) (.t 2)), oO 19 (.call .full 19 [(.t 18)]), oO 20 (.bin .num .eql (.t 19) (.c (.int .i64 0))), oV 21 20, oG 22 (.mv (.t 6)) 21 false, oG 23 (.un .not (.t 22)) 21 false, oO 24 (.pick (.t 21) (.c (.bool true)) (.t 23))])
 (.cond (.t 24) (.seq (.reg [oV 25 5, oV 4 25])
 (.ret)) (.skip)))
 (.seq (.reg [oO 27 (.ld (some 5) (.t 2)), oO 28 (.call .full 33 [(.t 27)]), oV 26 28, oO 29 (.ext 0 (.t 26)), oO 30 (.ext 1 (.t 26)), oO 31 (.ext 2 (.t 26)), oO 32 (.ext 3 (.t 26)), oO 8 (.alloc 49 [(.int .i64 0), .nils, .nils]), oV 7 29, oS (.st 3 (.t 8) (.t 30)), oV 9 31, oV 10 32])
 (.seq (.reg [oO 34 (.ld (some 5) (.t 2)), oV 35 1, oO 36 (.call .full 36 [(.t 34), (.t 35)]), oO 37 (.call .full 33 [(.t 36)]), oV 33 37, oO 38 (.ext 0 (.t 33)), oO 39 (.ext 1 (.t 33)), oO 40 (.ext 2 (.t 33)), oO 41 (.ext 3 (.t 33)), oO 12 (.alloc 49 [(.int .i64 0), .nils, .nils]), oV 11 38, oS (.st 3 (.t 12) (.t 39)), oV 13 40, oV 14 41])
 (.seq (.reg [oV 42 5, oV 43 42, oG 44 (.mv (.t 10)) 43 true, oG 45 (.mv (.t 14)) 43 true, oG 46 (.bin .num .eql (.t 44) (.t 45)) 43 true, oO 47 (.pick (.t 43) (.t 46) (.c (.bool false))), oV 48 47, oG 49 (.ld (some 3) (.t 8)) 48 true, oG 50 (.ld (some 3) (.t 12)) 48 true, oG 51 (.call .full 35 [(.t 49), (.t 50)]) 48 true, oO 52 (.pick (.t 48) (.t 51) (.c (.bool false))), oV 4 52])
 (.ret)))))))⟩
def a19 : AFn := ⟨6, [.tmp 2],
 .seq (.reg [oO 1 (.box 24 (.t 0)), oO 2 (.mv (.c (.int .i64 0)))])
 (.seq (.seq (.reg [oO 3 (.ld (some 5) (.t 1)), oO 4 (.call .full 40 [(.t 3), (.c (.int .i64 1500))]), oO 5 (.bin .num .lss (.t 4) (.c (.int .i64 0)))])
 (.cond (.t 5) (.seq (.reg [oO 2 (.mv (.c (.int .i64 0)))])
 (.ret)) (.skip)))
 (.seq (.reg [oO 2 (.mv (.c (.int .i64 1)))])
 (.ret)))⟩
def a20 : AFn := ⟨30, [.tmp 2, .cell 3 (some 5), .tmp 4, .tmp 5],
 .seq (.reg [oO 1 (.box 24 (.t 0)), oO 2 (.mv (.c .nils)), oO 3 (.alloc 24 [(.int .i64 0), (.str ⟨#[]⟩), (.int .i64 0), .nils, (.int .i64 0)]), oO 4 (.mv (.c (.int .i64 0))), oO 5 (.mv (.c (.int .i64 0)))])
 (.seq (.seq (.reg [oO 10 (.ld (some 5) (.t 1)), oO 11 (.call .full 41 [(.t 10)]), oO 12 (.un .not (.t 11))])
 (.cond (.t 12) (.seq (.reg [oO 13 (.build [(.int .i64 0), (.str ⟨#[]⟩), (.int .i64 0), .nils, (.int .i64 0)] []), oO 2 (.mv (.c .nils)), oS (.st 5 (.t 3) (.t 13)), oO 4 (.mv (.c (.int .i64 0))), oO 5 (.mv (.c (.int .i64 30)))])
 (.ret)) (.skip)))
 (.seq (.reg [oO 15 (.ld (some 5) (.t 1)), oO 16 (.call .no 42 [(.t 15)]), oV 14 16, oO 17 (.ext 0 (.t 14)), oO 18 (.ext 1 (.t 14)), oO 19 (.ext 2 (.t 14)), oO 7 (.alloc 24 [(.int .i64 0), (.str ⟨#[]⟩), (.int .i64 0), .nils, (.int .i64 0)]), oV 6 17, oS (.st 5 (.t 7) (.t 18)), oV 8 19])
 (.seq (.reg [oO 9 (.alloc 65 [(.int .i64 0), (.int .i64 0)])])
 (.seq (.seq (.reg [oV 20 8, oO 21 (.mki 67 (.t 9)), oO 22 (.call .full 43 [(.t 20), (.t 21)])])
 (.cond (.t 22) (.seq (.dreg [(oO 23 (.build [(.int .i64 0), (.str ⟨#[]⟩), (.int .i64 0), .nils, (.int .i64 0)] []), 0), (oF 24 1 9, 0), (oL 25 24, 2), (oF 26 0 9, 0), (oL 27 26, 8), (oO 2 (.mv (.c .nils)), 0), (oS (.st 5 (.t 3) (.t 23)), 33), (oV 4 25, 103), (oV 5 27, 255)])
 (.ret)) (.skip)))
 (.seq (.dreg [(oV 28 6, 0), (oO 29 (.ld (some 5) (.t 7)), 0), (oV 2 28, 1), (oS (.st 5 (.t 3) (.t 29)), 7), (oO 4 (.mv (.c (.int .i64 0))), 15), (oO 5 (.mv (.c (.int .i64 0))), 31)])
 (.ret))))))⟩
def a24 : AFn := ⟨14, [.cell 2 (some 5)],
 .seq (.reg [oO 2 (.alloc 24 [(.int .i64 0), (.str ⟨#[]⟩), (.int .i64 0), .nils, (.int .i64 0)])])
 (.seq (.reg [oV 7 0, oO 8 (.call .full 47 [(.t 7)]), oO 9 (.call .full 46 [(.t 8)]), oV 6 9, oO 10 (.ext 0 (.t 6)), oO 11 (.ext 1 (.t 6)), oO 12 (.ext 2 (.t 6)), oO 3 (.alloc 24 [(.int .i64 0), (.str ⟨#[]⟩), (.int .i64 0), .nils, (.int .i64 0)]), oS (.st 5 (.t 3) (.t 10)), oV 4 11, oV 5 12])
 (.seq (.reg [oO 13 (.ld (some 5) (.t 3)), oS (.st 5 (.t 2) (.t 13))])
 (.ret)))⟩
def a27 : AFn := ⟨5, [.tmp 2],
 .seq (.reg [oO 1 (.box 24 (.t 0)), oO 2 (.mv (.c (.bool false)))])
 (.seq (.reg [oO 3 (.ld (some 5) (.t 1)), oO 4 (.call .full 48 [(.t 3), (.c (.int .i64 100))]), oV 2 4])
 (.ret))⟩
def a32 : AFn := ⟨62, [.tmp 0],
 .seq (.reg [oO 0 (.mv (.c (.bool false)))])
 (.seq (.reg [oO 12 (.call .full 24 [(.c (.str ⟨#[118, 97, 114, 32, 97, 32, 61, 32, 123, 125]⟩))]), oO 13 (.call .full 33 [(.t 12)]), oV 11 13, oO 14 (.ext 0 (.t 11)), oO 15 (.ext 1 (.t 11)), oO 16 (.ext 2 (.t 11)), oO 17 (.ext 3 (.t 11)), oO 2 (.alloc 49 [(.int .i64 0), .nils, .nils]), oV 1 14, oS (.st 3 (.t 2) (.t 15)), oV 3 16, oV 4 17])
 (.seq (.reg [oO 19 (.call .full 24 [(.c (.str ⟨#[118, 97, 114, 32, 97, 10, 98]⟩))]), oO 20 (.call .full 33 [(.t 19)]), oV 18 20, oO 21 (.ext 0 (.t 18)), oO 22 (.ext 1 (.t 18)), oO 23 (.ext 2 (.t 18)), oO 24 (.ext 3 (.t 18)), oO 6 (.alloc 49 [(.int .i64 0), .nils, .nils]), oV 5 21, oS (.st 3 (.t 6) (.t 22)), oV 7 23, oV 8 24])
 (.seq (.seq (.reg [oV 25 4, oO 26 (.bin .num .neq (.t 25) (.c (.int .i64 0))), oV 27 26, oG 28 (.fa 2 (.t 2)) 27 false, oG 29 (.ld none (.t 28)) 27 false, oG 30 (.len false (.t 29)) 27 false, oG 31 (.bin .num .neq (.t 30) (.c (.int .i64 2))) 27 false, oO 32 (.pick (.t 27) (.c (.bool true)) (.t 31))])
 (.cond (.t 32) (.seq (.reg [oO 0 (.mv (.c (.bool false)))])
 (.ret)) (.skip)))
 (.seq (.reg [oF 33 2 2, oL 34 33, oO 35 (.ia 9 (.t 34) (.c (.int .i64 0))), oO 36 (.ld (some 9) (.t 35)), oO 37 (.build [(.int .i64 0), (.int .i64 0), (.int .i64 0), (.int .i64 0), (.int .i64 0), (.int .i64 0), (.int .i64 0), (.str ⟨#[]⟩), .nils] [(0, 1, (.c (.int .i64 3))), (2, 1, (.c (.int .i64 2))), (3, 1, (.c (.int .i64 3)))]), oO 38 (.call .full 49 [(.t 36), (.t 37)]), oV 9 38])
 (.seq (.reg [oF 39 2 2, oL 40 39, oO 41 (.ia 9 (.t 40) (.c (.int .i64 1))), oO 42 (.ld (some 9) (.t 41)), oO 43 (.build [(.int .i64 0), (.int .i64 0), (.int .i64 0), (.int .i64 0), (.int .i64 0), (.int .i64 0), (.int .i64 0), (.str ⟨#[]⟩), .nils] [(0, 1, (.c (.int .i64 1))), (2, 1, (.c (.int .i64 2))), (6, 1, (.c (.int .i64 4)))]), oO 44 (.call .full 49 [(.t 42), (.t 43)]), oV 10 44])
 (.seq (.reg [oV 45 9, oV 46 45, oG 47 (.mv (.t 10)) 46 true, oO 48 (.pick (.t 46) (.t 47) (.c (.bool false))), oV 49 48, oG 50 (.fa 0 (.t 2)) 49 true, oG 51 (.ld none (.t 50)) 49 true, oG 52 (.bin .num .eql (.t 51) (.c (.int .i64 16))) 49 true, oO 53 (.pick (.t 49) (.t 52) (.c (.bool false))), oV 54 53, oG 55 (.mv (.t 8)) 54 true, oG 56 (.bin .num .eql (.t 55) (.c (.int .i64 50))) 54 true, oO 57 (.pick (.t 54) (.t 56) (.c (.bool false))), oV 58 57, oG 59 (.mv (.t 7)) 58 true, oG 60 (.bin .num .eql (.t 59) (.c (.int .i64 2))) 58 true, oO 61 (.pick (.t 58) (.t 60) (.c (.bool false))), oV 0 61])
 (.ret)))))))⟩
def y33e : ACode := (.seq (.dreg [(oV 113 10, 0), (oO 114 (.ld (some 5) (.t 7)), 0), (oF 115 1 14, 0), (oL 116 115, 4), (oO 117 (.ia 5 (.t 116) (.c (.int .i64 0))), 12), (oF 118 4 117, 28), (oL 119 118, 60), (oO 120 (.build [(.int .i64 0), (.int .i64 0), (.int .i64 0)] [(0, 1, (.c (.int .i64 0))), (1, 1, (.c (.int .i64 0))), (2, 1, (.t 119))]), 124), (oO 121 (.call .no 52 [(.t 113), (.t 114), (.t 120), (.c (.bool true))]), 255)])
 (.seq (.reg [oV 122 10, oN 123 122, oF 124 2 123, oL 125 124, oF 126 2 14, oS (.st 1 (.t 126) (.t 125))])
 (.seq (.dreg [(oV 127 6, 0), (oO 128 (.ld (some 3) (.t 14)), 0), (oV 2 127, 1), (oS (.st 3 (.t 3) (.t 128)), 7), (oO 4 (.mv (.c (.int .i64 0))), 15), (oO 5 (.mv (.c (.int .i64 0))), 31)])
 (.ret))))
def l33c : ACode := (.seq (.reg [oO 89 (.bin .num .lss (.t 88) (.t 87))])
 (.seq (.cond (.t 89) (.skip) (.exit 4))
 (.seq (.block 5 (.seq (.reg [oV 90 88, oV 18 90])
 (.dreg [(oF 91 1 17, 0), (oL 92 91, 1), (oV 93 10, 0), (oN 94 93, 4), (oF 95 1 94, 12), (oL 96 95, 28), (oV 97 15, 0), (oO 98 (.ia 1 (.t 96) (.t 97)), 124), (oL 99 98, 252), (oV 100 18, 0), (oO 101 (.bin .num .add (.t 99) (.t 100)), 1020), (oO 102 (.bsl true 1 1 [(.int .i64 0)] [(0, 1, (.t 101))]), 2044), (oO 103 (.app 1 8 (.t 92) (.t 102)), 4095), (oF 104 1 17, 8191), (oS (.st 1 (.t 104) (.t 103)), 16383)])))
 (.reg [oO 105 (.bin .num .add (.t 88) (.c (.int .i64 1))), oV 88 105]))))
def l33b : ACode := (.seq (.reg [oO 69 (.bin .num .lss (.t 68) (.t 67))])
 (.seq (.cond (.t 69) (.skip) (.exit 2))
 (.seq (.block 3 (.seq (.reg [oV 70 68, oO 71 (.ia 5 (.t 66) (.t 68)), oO 72 (.ld (some 5) (.t 71)), oO 16 (.alloc 43 [(.int .i64 0), (.str ⟨#[]⟩), (.int .i64 0), .nils, (.int .i64 0)]), oV 15 70, oS (.st 5 (.t 16) (.t 72))])
 (.seq (.reg [oF 73 4 16, oL 74 73, oO 75 (.build [(.int .i64 0), .nils, (.int .i64 0), (.int .i64 0), (.int .i64 0)] [(0, 1, (.t 74))]), oO 17 (.alloc 82 [(.int .i64 0), .nils, (.int .i64 0), (.int .i64 0), (.int .i64 0)]), oS (.st 5 (.t 17) (.t 75))])
 (.seq (.reg [oV 77 10, oV 78 15, oO 79 (.call .no 51 [(.t 77), (.t 78)]), oV 76 79, oO 80 (.ext 0 (.t 76)), oO 81 (.ext 1 (.t 76)), oO 82 (.ext 2 (.t 76)), oF 83 2 17, oS (.st 1 (.t 83) (.t 80)), oF 84 3 17, oS (.st 1 (.t 84) (.t 81)), oF 85 4 17, oS (.st 1 (.t 85) (.t 82))])
 (.seq (.seq (.reg [oF 86 2 16, oL 87 86, oO 88 (.mv (.c (.int .i64 0)))])
 (.block 4 (.loop l33c)))
 (.reg [oF 106 1 14, oL 107 106, oO 108 (.ld (some 5) (.t 17)), oO 109 (.bsl true 5 1 [(.int .i64 0), .nils, (.int .i64 0), (.int .i64 0), (.int .i64 0)] [(0, 5, (.t 108))]), oO 110 (.app 5 56 (.t 107) (.t 109)), oF 111 1 14, oS (.st 1 (.t 111) (.t 110))]))))))
 (.reg [oO 112 (.bin .num .add (.t 68) (.c (.int .i64 1))), oV 68 112]))))
def l33a : ACode := (.seq (.reg [oO 39 (.bin .num .lss (.t 38) (.t 37))])
 (.seq (.cond (.t 39) (.skip) (.exit 0))
 (.seq (.block 1 (.seq (.reg [oO 40 (.ia 5 (.t 36) (.t 38)), oO 41 (.ld (some 5) (.t 40)), oO 13 (.alloc 43 [(.int .i64 0), (.str ⟨#[]⟩), (.int .i64 0), .nils, (.int .i64 0)]), oS (.st 5 (.t 13) (.t 41))])
 (.seq (.reg [oV 42 10, oV 43 10, oN 44 43, oF 45 1 44, oL 46 45, oV 47 11, oO 48 (.bsl true 1 1 [(.int .i64 0)] [(0, 1, (.t 47))]), oO 49 (.app 1 8 (.t 46) (.t 48)), oN 50 42, oF 51 1 50, oS (.st 1 (.t 51) (.t 49))])
 (.reg [oV 52 11, oF 53 3 13, oL 54 53, oO 55 (.len false (.t 54)), oO 56 (.bin .num .add (.t 55) (.c (.int .i64 3))), oO 57 (.bin .num .add (.t 52) (.t 56)), oV 11 57]))))
 (.reg [oO 58 (.bin .num .add (.t 38) (.c (.int .i64 1))), oV 38 58]))))
def y33d : ACode := (.seq (.seq (.reg [oV 66 6, oO 67 (.len false (.t 66)), oO 68 (.mv (.c (.int .i64 0)))])
 (.block 2 (.loop l33b)))
 y33e)
def y33c : ACode := (.seq (.reg [oV 59 11, oO 60 (.bin .num .add (.t 59) (.c (.int .i64 9))), oO 61 (.build [(.int .i64 0), .nils, .nils] [(0, 1, (.t 60))]), oO 14 (.alloc 49 [(.int .i64 0), .nils, .nils]), oS (.st 3 (.t 14) (.t 61))])
 (.seq (.seq (.reg [oF 62 0 14, oL 63 62, oO 64 (.bin .num .gtr (.t 63) (.c (.int .i64 100000)))])
 (.cond (.t 64) (.seq (.reg [oO 65 (.build [(.int .i64 0), .nils, .nils] []), oO 2 (.mv (.c .nils)), oS (.st 3 (.t 3) (.t 65)), oO 4 (.mv (.c (.int .i64 0))), oO 5 (.mv (.c (.int .i64 52)))])
 (.ret)) (.skip)))
 y33d))
def y33b : ACode := (.seq (.seq (.reg [oV 36 6, oO 37 (.len false (.t 36)), oO 38 (.mv (.c (.int .i64 0)))])
 (.block 0 (.loop l33a)))
 y33c)
def y33a : ACode := .seq (.reg [oO 1 (.box 24 (.t 0)), oO 2 (.mv (.c .nils)), oO 3 (.alloc 49 [(.int .i64 0), .nils, .nils]), oO 4 (.mv (.c (.int .i64 0))), oO 5 (.mv (.c (.int .i64 0)))])
 (.seq (.reg [oO 20 (.ld (some 5) (.t 1)), oO 21 (.call .full 20 [(.t 20)]), oV 19 21, oO 22 (.ext 0 (.t 19)), oO 23 (.ext 1 (.t 19)), oO 24 (.ext 2 (.t 19)), oO 25 (.ext 3 (.t 19)), oO 7 (.alloc 24 [(.int .i64 0), (.str ⟨#[]⟩), (.int .i64 0), .nils, (.int .i64 0)]), oV 6 22, oS (.st 5 (.t 7) (.t 23)), oV 8 24, oV 9 25])
 (.seq (.seq (.reg [oV 26 9, oO 27 (.bin .num .neq (.t 26) (.c (.int .i64 0)))])
 (.cond (.t 27) (.seq (.reg [oO 28 (.build [(.int .i64 0), .nils, .nils] []), oV 29 8, oV 30 9, oO 2 (.mv (.c .nils)), oS (.st 3 (.t 3) (.t 28)), oV 4 29, oV 5 30])
 (.ret)) (.skip)))
 (.seq (.reg [oV 31 6, oO 32 (.build [.nils, .nils, .nils] [(0, 1, (.t 31))]), oO 33 (.box 80 (.t 32)), oV 10 33])
 (.seq (.reg [oO 34 (.ld (some 5) (.t 7)), oO 35 (.call .full 50 [(.t 34)]), oV 11 35])
 y33b))))
def a33 : AFn := ⟨129, [.tmp 2, .cell 3 (some 3), .tmp 4, .tmp 5], y33a⟩
def a35 : AFn := ⟨104, [.tmp 4],
 .seq (.reg [oO 2 (.box 49 (.t 0)), oO 3 (.box 49 (.t 1)), oO 4 (.mv (.c (.bool false)))])
 (.seq (.seq (.reg [oF 10 0 2, oL 11 10, oF 12 0 3, oL 13 12, oO 14 (.bin .num .neq (.t 11) (.t 13)), oV 15 14, oG 16 (.fa 1 (.t 2)) 15 false, oG 17 (.ld none (.t 16)) 15 false, oG 18 (.len false (.t 17)) 15 false, oG 19 (.fa 1 (.t 3)) 15 false, oG 20 (.ld none (.t 19)) 15 false, oG 21 (.len false (.t 20)) 15 false, oG 22 (.bin .num .neq (.t 18) (.t 21)) 15 false, oO 23 (.pick (.t 15) (.c (.bool true)) (.t 22)), oV 24 23, oG 25 (.fa 2 (.t 2)) 24 false, oG 26 (.ld none (.t 25)) 24 false, oG 27 (.len false (.t 26)) 24 false, oG 28 (.fa 2 (.t 3)) 24 false, oG 29 (.ld none (.t 28)) 24 false, oG 30 (.len false (.t 29)) 24 false, oG 31 (.bin .num .neq (.t 27) (.t 30)) 24 false, oO 32 (.pick (.t 24) (.c (.bool true)) (.t 31))])
 (.cond (.t 32) (.seq (.reg [oO 4 (.mv (.c (.bool false)))])
 (.ret)) (.skip)))
 (.seq (.seq (.reg [oO 5 (.mv (.c (.int .i64 0)))])
 (.block 0 (.loop (.seq (.seq (.reg [oV 33 5, oF 34 1 2, oL 35 34, oO 36 (.len false (.t 35)), oO 37 (.bin .num .lss (.t 33) (.t 36))])
 (.cond (.t 37) (.skip) (.exit 0)))
 (.seq (.block 1 (.seq (.reg [oF 40 1 2, oL 41 40, oV 42 5, oO 43 (.ia 5 (.t 41) (.t 42)), oO 44 (.ld (some 5) (.t 43)), oO 6 (.alloc 82 [(.int .i64 0), .nils, (.int .i64 0), (.int .i64 0), (.int .i64 0)]), oS (.st 5 (.t 6) (.t 44))])
 (.seq (.reg [oF 45 1 3, oL 46 45, oV 47 5, oO 48 (.ia 5 (.t 46) (.t 47)), oO 49 (.ld (some 5) (.t 48)), oO 7 (.alloc 82 [(.int .i64 0), .nils, (.int .i64 0), (.int .i64 0), (.int .i64 0)]), oS (.st 5 (.t 7) (.t 49))])
 (.seq (.reg [oF 50 1 6, oL 51 50, oF 52 1 7, oL 53 52, oO 54 (.call .no 56 [(.t 51), (.t 53)]), oO 55 (.un .not (.t 54)), oV 56 55, oG 57 (.fa 0 (.t 6)) 56 false, oG 58 (.ld none (.t 57)) 56 false, oG 59 (.fa 0 (.t 7)) 56 false, oG 60 (.ld none (.t 59)) 56 false, oG 61 (.bin .num .neq (.t 58) (.t 60)) 56 false, oO 62 (.pick (.t 56) (.c (.bool true)) (.t 61)), oV 63 62, oG 64 (.fa 2 (.t 6)) 63 false, oG 65 (.ld none (.t 64)) 63 false, oG 66 (.fa 2 (.t 7)) 63 false, oG 67 (.ld none (.t 66)) 63 false, oG 68 (.bin .num .neq (.t 65) (.t 67)) 63 false, oO 69 (.pick (.t 63) (.c (.bool true)) (.t 68)), oV 70 69, oG 71 (.fa 3 (.t 6)) 70 false, oG 72 (.ld none (.t 71)) 70 false, oG 73 (.fa 3 (.t 7)) 70 false, oG 74 (.ld none (.t 73)) 70 false, oG 75 (.bin .num .neq (.t 72) (.t 74)) 70 false, oO 76 (.pick (.t 70) (.c (.bool true)) (.t 75)), oV 77 76, oG 78 (.fa 4 (.t 6)) 77 false, oG 79 (.ld none (.t 78)) 77 false, oG 80 (.fa 4 (.t 7)) 77 false, oG 81 (.ld none (.t 80)) 77 false, oG 82 (.bin .num .neq (.t 79) (.t 81)) 77 false, oO 83 (.pick (.t 77) (.c (.bool true)) (.t 82))])
 (.cond (.t 83) (.seq (.reg [oO 4 (.mv (.c (.bool false)))])
 (.ret)) (.skip))))))
 (.reg [oV 38 5, oO 39 (.bin .num .add (.t 38) (.c (.int .i64 1))), oV 5 39]))))))
 (.seq (.seq (.reg [oO 8 (.mv (.c (.int .i64 0)))])
 (.block 2 (.loop (.seq (.seq (.reg [oV 84 8, oF 85 2 2, oL 86 85, oO 87 (.len false (.t 86)), oO 88 (.bin .num .lss (.t 84) (.t 87))])
 (.cond (.t 88) (.skip) (.exit 2)))
 (.seq (.block 3 (.seq (.dreg [(oF 91 2 2, 0), (oL 92 91, 1), (oV 93 8, 0), (oO 94 (.ia 9 (.t 92) (.t 93)), 7), (oO 95 (.ld (some 9) (.t 94)), 15), (oF 96 2 3, 0), (oL 97 96, 32), (oV 98 8, 0), (oO 99 (.ia 9 (.t 97) (.t 98)), 224), (oO 100 (.ld (some 9) (.t 99)), 480), (oO 101 (.call .full 49 [(.t 95), (.t 100)]), 1023), (oV 9 101, 2047)])
 (.seq (.reg [oV 102 9, oO 103 (.un .not (.t 102))])
 (.cond (.t 103) (.seq (.reg [oO 4 (.mv (.c (.bool false)))])
 (.ret)) (.skip)))))
 (.reg [oV 89 8, oO 90 (.bin .num .add (.t 89) (.c (.int .i64 1))), oV 8 90]))))))
 (.seq (.reg [oO 4 (.mv (.c (.bool true)))])
 (.ret)))))⟩
def a36 : AFn := ⟨50, [.cell 4 (some 5)],
 .seq (.reg [oO 2 (.box 24 (.t 0)), oO 4 (.alloc 24 [(.int .i64 0), (.str ⟨#[]⟩), (.int .i64 0), .nils, (.int .i64 0)])])
 (.seq (.seq (.reg [oF 7 0 2, oL 8 7])
 (.block 0 (.seq (.seq (.reg [oO 10 (.bin .num .eql (.t 8) (.c (.int .i64 1))), oV 9 10])
 (.cond (.t 9) (.skip) (.seq (.reg [oO 11 (.bin .num .eql (.t 8) (.c (.int .i64 30))), oV 9 11])
 (.cond (.t 9) (.skip) (.seq (.reg [oO 12 (.bin .num .eql (.t 8) (.c (.int .i64 35))), oV 9 12])
 (.cond (.t 9) (.skip) (.seq (.reg [oO 13 (.bin .num .eql (.t 8) (.c (.int .i64 38))), oV 9 13])
 (.cond (.t 9) (.skip) (.reg [oO 14 (.bin .num .eql (.t 8) (.c (.int .i64 41))), oV 9 14])))))))))
 (.cond (.t 9) (.reg [oF 15 1 2, oL 16 15, oO 17 (.bin .str .add (.t 16) (.c (.str ⟨#[95]⟩))), oF 18 1 2, oS (.st 1 (.t 18) (.t 17))]) (.seq (.reg [oO 20 (.bin .num .eql (.t 8) (.c (.int .i64 10))), oV 19 20])
 (.cond (.t 19) (.seq (.reg [oF 21 1 2, oL 22 21, oO 23 (.bin .str .neq (.t 22) (.c (.str ⟨#[]⟩)))])
 (.cond (.t 23) (.reg [oF 24 1 2, oL 25 24, oO 26 (.bin .str .add (.t 25) (.c (.str ⟨#[95]⟩))), oF 27 1 2, oS (.st 1 (.t 27) (.t 26))]) (.skip))) (.skip)))))))
 (.seq (.reg [oV 28 1, oF 29 4 2, oS (.st 1 (.t 29) (.t 28))])
 (.seq (.reg [oO 5 (.mv (.c .nils))])
 (.seq (.seq (.reg [oO 6 (.mv (.c (.int .i64 0)))])
 (.block 1 (.loop (.seq (.seq (.reg [oV 30 6, oF 31 3 2, oL 32 31, oO 33 (.len false (.t 32)), oO 34 (.bin .num .lss (.t 30) (.t 33))])
 (.cond (.t 34) (.skip) (.exit 1)))
 (.seq (.block 2 (.reg [oV 37 5, oF 38 3 2, oL 39 38, oV 40 6, oO 41 (.ia 5 (.t 39) (.t 40)), oO 42 (.ld (some 5) (.t 41)), oV 43 1, oO 44 (.call .full 36 [(.t 42), (.t 43)]), oO 45 (.bsl true 5 1 [(.int .i64 0), (.str ⟨#[]⟩), (.int .i64 0), .nils, (.int .i64 0)] [(0, 5, (.t 44))]), oO 46 (.app 5 64 (.t 37) (.t 45)), oV 5 46]))
 (.reg [oV 35 6, oO 36 (.bin .num .add (.t 35) (.c (.int .i64 1))), oV 6 36]))))))
 (.seq (.reg [oV 47 5, oF 48 3 2, oS (.st 1 (.t 48) (.t 47))])
 (.seq (.reg [oO 49 (.ld (some 5) (.t 2)), oS (.st 5 (.t 4) (.t 49))])
 (.ret)))))))⟩
def a40 : AFn := ⟨27, [.tmp 4],
 .seq (.reg [oO 2 (.box 24 (.t 0)), oO 4 (.mv (.c (.int .i64 0)))])
 (.seq (.reg [oV 6 1, oO 7 (.bin .num .sub (.t 6) (.c (.int .i64 1))), oV 1 7])
 (.seq (.seq (.reg [oO 5 (.mv (.c (.int .i64 0)))])
 (.block 0 (.loop (.seq (.seq (.reg [oV 8 5, oF 9 3 2, oL 10 9, oO 11 (.len false (.t 10)), oO 12 (.bin .num .lss (.t 8) (.t 11)), oV 13 12, oG 14 (.mv (.t 1)) 13 true, oG 15 (.bin .num .geq (.t 14) (.c (.int .i64 0))) 13 true, oO 16 (.pick (.t 13) (.t 15) (.c (.bool false)))])
 (.cond (.t 16) (.skip) (.exit 0)))
 (.seq (.block 1 (.reg [oF 19 3 2, oL 20 19, oV 21 5, oO 22 (.ia 5 (.t 20) (.t 21)), oO 23 (.ld (some 5) (.t 22)), oV 24 1, oO 25 (.call .full 40 [(.t 23), (.t 24)]), oV 1 25]))
 (.reg [oV 17 5, oO 18 (.bin .num .add (.t 17) (.c (.int .i64 1))), oV 5 18]))))))
 (.seq (.reg [oV 26 1, oV 4 26])
 (.ret))))⟩
def a41 : AFn := ⟨11, [.tmp 2],
 .seq (.reg [oO 1 (.box 24 (.t 0)), oO 2 (.mv (.c (.bool false)))])
 (.seq (.dreg [(oF 3 0 1, 0), (oL 4 3, 1), (oO 5 (.bin .num .eql (.t 4) (.c (.int .i64 32))), 3), (oV 6 5, 7), (oG 7 (.call .no 57 []) 6 true, 15), (oG 8 (.ld (some 5) (.t 1)) 6 true, 15), (oG 9 (.call .full 58 [(.t 7), (.t 8), (.c (.int .i64 100))]) 6 true, 63), (oO 10 (.pick (.t 6) (.t 9) (.c (.bool false))), 127), (oV 2 10, 255)])
 (.ret))⟩
def a46 : AFn := ⟨58, [.cell 2 (some 5), .tmp 3, .tmp 4],
 .seq (.reg [qo 2 (.alloc 24 z5), qo 3 (.mv (qi 0)), qo 4 (.mv (qi 0))])
 (.seq (.reg [qv 8 0, qo 9 (.build [.nils, (.int .i64 0), (.int .i64 0), (.int .i64 0)] [(0, 1, (.t 8))]), qo 10 (.box 126 (.t 9)), qv 5 10])
 (.seq (.reg [qv 11 5, qo 12 (.call .no 73 [(.t 11)]), qo 13 (.build z5 [(0, 1, (qi 32)), (3, 1, (.t 12))]), qo 6 (.alloc 24 z5), ⟨none, .st 5 (.t 6) (.t 13), none⟩])
 (.seq (.seq (.reg [qv 14 5, qn 15 14, qf 16 2 15, ql 17 16, qo 18 (.bin .num .eql (.t 17) (qi 0)), qv 19 18, qg 20 (.mv (.t 5)) 19 true, qg 21 (.nck (.t 20)) 19 true, qg 22 (.fa 1 (.t 21)) 19 true, qg 23 (.ld none (.t 22)) 19 true, qg 24 (.mv (.t 0)) 19 true, qg 25 (.len false (.t 24)) 19 true, qg 26 (.bin .num .lss (.t 23) (.t 25)) 19 true, qo 27 (.pick (.t 19) (.t 26) (.c (.bool false)))])
 (.cond (.t 27) (.reg [qv 28 5, qo 29 (.call .full 74 [(.t 28), (.c (.bool true))])]) (.skip)))
 (.seq (.seq (.reg [qv 30 5, qn 31 30, qf 32 2 31, ql 33 32, qo 34 (.bin .num .neq (.t 33) (qi 0))])
 (.cond (.t 34) (.seq (.dreg [(qo 35 (.build z5 []), 0), (qv 36 5, 0), (qn 37 36, 2), (qf 38 3 37, 6), (ql 39 38, 14), (qv 40 5, 0), (qn 41 40, 32), (qf 42 2 41, 96), (ql 43 42, 224), (⟨none, .st 5 (.t 2) (.t 35), none⟩, 1), (qv 3 39, 543), (qv 4 43, 2047)])
 (.ret)) (.skip)))
 (.seq (.reg [qo 44 (.ld (some 5) (.t 6)), qo 45 (.call .full 27 [(.t 44)]), qv 7 45])
 (.seq (.seq (.reg [qv 46 7, qo 47 (.un .not (.t 46))])
 (.cond (.t 47) (.seq (.reg [qo 48 (.build z5 []), ⟨none, .st 5 (.t 2) (.t 48), none⟩, qo 3 (.mv (qi 0)), qo 4 (.mv (qi 41))])
 (.ret)) (.skip)))
 (.seq (.seq (.reg [qv 49 0, qo 50 (.len false (.t 49)), qo 51 (.bin .num .gtr (.t 50) (qi 0))])
 (.cond (.t 51) (.reg [qv 52 0, qo 53 (.ia 5 (.t 52) (qi 0)), qf 54 3 53, ql 55 54, qf 56 4 6, ⟨none, .st 1 (.t 56) (.t 55), none⟩]) (.skip)))
 (.seq (.reg [qo 57 (.ld (some 5) (.t 6)), ⟨none, .st 5 (.t 2) (.t 57), none⟩, qo 3 (.mv (qi 0)), qo 4 (.mv (qi 0))])
 (.ret)))))))))⟩
def a47 : AFn := ⟨13, [.tmp 2],
 .seq (.reg [qo 2 (.mv (.c .nils))])
 (.seq (.reg [qv 7 0, qo 8 (.call .full 75 [(.t 7)]), qv 6 8, qo 9 (.ext 0 (.t 6)), qo 10 (.ext 1 (.t 6)), qo 11 (.ext 2 (.t 6)), qv 3 9, qv 4 10, qv 5 11])
 (.seq (.reg [qv 12 3, qv 2 12])
 (.ret)))⟩
def a48 : AFn := ⟨13, [.tmp 4],
 .seq (.reg [oO 2 (.box 24 (.t 0)), oO 4 (.mv (.c (.bool false)))])
 (.seq (.reg [oF 5 0 2, oL 6 5, oO 7 (.bin .num .eql (.t 6) (.c (.int .i64 32))), oV 8 7, oG 9 (.ld (some 5) (.t 2)) 8 true, oG 10 (.mv (.t 1)) 8 true, oG 11 (.call .full 76 [(.t 9), (.t 10)]) 8 true, oO 12 (.pick (.t 8) (.t 11) (.c (.bool false))), oV 4 12])
 (.ret))⟩
def a49 : AFn := ⟨68, [.tmp 4],
 .seq (.reg [oO 2 (.box 55 (.t 0)), oO 3 (.box 55 (.t 1)), oO 4 (.mv (.c (.bool false)))])
 (.seq (.reg [oF 6 8 2, oL 7 6, oF 8 8 3, oL 9 8, oO 10 (.call .no 56 [(.t 7), (.t 9)]), oV 5 10])
 (.seq (.reg [oV 11 5, oV 12 11, oG 13 (.fa 0 (.t 2)) 12 true, oG 14 (.ld none (.t 13)) 12 true, oG 15 (.fa 0 (.t 3)) 12 true, oG 16 (.ld none (.t 15)) 12 true, oG 17 (.bin .num .eql (.t 14) (.t 16)) 12 true, oO 18 (.pick (.t 12) (.t 17) (.c (.bool false))), oV 19 18, oG 20 (.fa 1 (.t 2)) 19 true, oG 21 (.ld none (.t 20)) 19 true, oG 22 (.fa 1 (.t 3)) 19 true, oG 23 (.ld none (.t 22)) 19 true, oG 24 (.bin .num .eql (.t 21) (.t 23)) 19 true, oO 25 (.pick (.t 19) (.t 24) (.c (.bool false))), oV 26 25, oG 27 (.fa 2 (.t 2)) 26 true, oG 28 (.ld none (.t 27)) 26 true, oG 29 (.fa 2 (.t 3)) 26 true, oG 30 (.ld none (.t 29)) 26 true, oG 31 (.bin .num .eql (.t 28) (.t 30)) 26 true, oO 32 (.pick (.t 26) (.t 31) (.c (.bool false))), oV 33 32, oG 34 (.fa 3 (.t 2)) 33 true, oG 35 (.ld none (.t 34)) 33 true, oG 36 (.fa 3 (.t 3)) 33 true, oG 37 (.ld none (.t 36)) 33 true, oG 38 (.bin .num .eql (.t 35) (.t 37)) 33 true, oO 39 (.pick (.t 33) (.t 38) (.c (.bool false))), oV 40 39, oG 41 (.fa 4 (.t 2)) 40 true, oG 42 (.ld none (.t 41)) 40 true, oG 43 (.fa 4 (.t 3)) 40 true, oG 44 (.ld none (.t 43)) 40 true, oG 45 (.bin .num .eql (.t 42) (.t 44)) 40 true, oO 46 (.pick (.t 40) (.t 45) (.c (.bool false))), oV 47 46, oG 48 (.fa 5 (.t 2)) 47 true, oG 49 (.ld none (.t 48)) 47 true, oG 50 (.fa 5 (.t 3)) 47 true, oG 51 (.ld none (.t 50)) 47 true, oG 52 (.bin .num .eql (.t 49) (.t 51)) 47 true, oO 53 (.pick (.t 47) (.t 52) (.c (.bool false))), oV 54 53, oG 55 (.fa 6 (.t 2)) 54 true, oG 56 (.ld none (.t 55)) 54 true, oG 57 (.fa 6 (.t 3)) 54 true, oG 58 (.ld none (.t 57)) 54 true, oG 59 (.bin .num .eql (.t 56) (.t 58)) 54 true, oO 60 (.pick (.t 54) (.t 59) (.c (.bool false))), oV 61 60, oG 62 (.fa 7 (.t 2)) 61 true, oG 63 (.ld none (.t 62)) 61 true, oG 64 (.fa 7 (.t 3)) 61 true, oG 65 (.ld none (.t 64)) 61 true, oG 66 (.bin .str .eql (.t 63) (.t 65)) 61 true, oO 67 (.pick (.t 61) (.t 66) (.c (.bool false))), oV 4 67])
 (.ret)))⟩
def a50 : AFn := ⟨8, [.tmp 2],
 .seq (.reg [oO 1 (.box 24 (.t 0)), oO 2 (.mv (.c (.int .i64 0)))])
 (.seq (.reg [oO 3 (.alloc 3 [(.int .i64 0)]), oS (.st 1 (.t 3) (.c (.int .i64 0)))])
 (.seq (.reg [oO 4 (.ld (some 5) (.t 1)), oO 5 (.mkf 78 [] [(.t 3)]), oO 6 (.call .full 77 [(.t 4), (.t 5)])])
 (.seq (.reg [oL 7 3, oV 2 7])
 (.ret))))⟩
def a51 : AFn := ⟨30, [.tmp 4, .tmp 5, .tmp 6],
 .seq (.reg [oO 4 (.mv (.c (.int .i64 0))), oO 5 (.mv (.c (.int .i64 0))), oO 6 (.mv (.c (.int .i64 0)))])
 (.seq (.dreg [(oV 8 0, 0), (oN 9 8, 1), (oF 10 1 9, 3), (oL 11 10, 7), (oV 12 1, 0), (oO 13 (.ia 1 (.t 11) (.t 12)), 31), (oL 14 13, 63), (oV 15 0, 0), (oN 16 15, 128), (oF 17 0 16, 384), (oL 18 17, 896), (oV 19 1, 0), (oO 20 (.ia 5 (.t 18) (.t 19)), 3968), (oF 21 3 20, 8064), (oL 22 21, 16256), (oO 23 (.len false (.t 22)), 32640), (oO 24 (.bin .num .add (.t 14) (.t 23)), 65535), (oV 7 24, 131071)])
 (.seq (.reg [oV 25 7, oV 26 7, oO 27 (.bin .num .add (.t 26) (.c (.int .i64 1))), oV 28 7, oO 29 (.bin .num .add (.t 28) (.c (.int .i64 2))), oV 4 25, oV 5 27, oV 6 29])
 (.ret)))⟩
def body52 : ACode := (.seq (.reg [oO 55 (.bin .num .lss (.t 54) (.t 53))])
 (.seq (.cond (.t 55) (.skip) (.exit 2))
 (.seq (.block 3 (.seq (.reg [oV 56 54, oO 57 (.ia 5 (.t 52) (.t 54)), oO 58 (.ld (some 5) (.t 57)), oO 12 (.alloc 24 [(.int .i64 0), (.str ⟨#[]⟩), (.int .i64 0), .nils, (.int .i64 0)]), oV 11 56, oS (.st 5 (.t 12) (.t 58))])
 (.seq (.reg [oF 59 2 6, oL 60 59, oV 13 60])
 (.seq (.seq (.reg [oF 61 0 5, oL 62 61, oO 63 (.bin .num .eql (.t 62) (.c (.int .i64 38))), oV 64 63, oG 65 (.mv (.t 11)) 64 true, oG 66 (.bin .num .eql (.t 65) (.c (.int .i64 0))) 64 true, oO 67 (.pick (.t 64) (.t 66) (.c (.bool false)))])
 (.cond (.t 67) (.reg [oV 68 0, oF 69 2 5, oL 70 69, oO 71 (.call .no 82 [(.t 68), (.t 70)]), oV 13 71]) (.skip)))
 (.dreg [(oV 72 0, 0), (oO 73 (.ld (some 5) (.t 12)), 0), (oL 74 8, 0), (oV 75 11, 0), (oO 76 (.ia 1 (.t 74) (.t 75)), 12), (oL 77 76, 28), (oF 78 1 6, 0), (oL 79 78, 64), (oV 80 13, 0), (oO 81 (.build [(.int .i64 0), (.int .i64 0), (.int .i64 0)] [(0, 1, (.t 77)), (1, 1, (.t 79)), (2, 1, (.t 80))]), 508), (oF 82 0 5, 0), (oL 83 82, 1024), (oO 84 (.bin .num .neq (.t 83) (.c (.int .i64 17))), 3072), (oV 85 84, 7168), (oG 86 (.mv (.t 11)) 85 false, 15360), (oG 87 (.bin .num .gtr (.t 86) (.c (.int .i64 0))) 85 false, 31744), (oO 88 (.pick (.t 85) (.c (.bool true)) (.t 87)), 64512), (oO 89 (.call .no 52 [(.t 72), (.t 73), (.t 81), (.t 88)]), 131071)])))))
 (.reg [oO 90 (.bin .num .add (.t 54) (.c (.int .i64 1))), oV 54 90]))))
def a52 : AFn := ⟨91, [],
 .seq (.reg [oO 5 (.box 24 (.t 1)), oO 6 (.box 87 (.t 2))])
 (.seq (.seq (.reg [oF 14 0 5, oL 15 14, oO 16 (.bin .num .eql (.t 15) (.c (.int .i64 41))), oV 17 16, oG 18 (.fa 0 (.t 5)) 17 false, oG 19 (.ld none (.t 18)) 17 false, oG 20 (.bin .num .eql (.t 19) (.c (.int .i64 10))) 17 false, oO 21 (.pick (.t 17) (.c (.bool true)) (.t 20))])
 (.cond (.t 21) (.seq (.reg [oV 22 0, oO 23 (.ld (some 5) (.t 5)), oO 24 (.ld (some 3) (.t 6)), oO 25 (.call .no 79 [(.t 22), (.t 23), (.t 24)])])
 (.ret)) (.skip)))
 (.seq (.reg [oO 8 (.alloc 53 [.nils])])
 (.seq (.seq (.reg [oO 26 (.ld (some 5) (.t 5)), oF 27 0 6, oL 28 27, oO 29 (.call .no 80 [(.t 26), (.t 28)])])
 (.block 0 (.rf (.t 29) [30, 31] (.reg [oV 9 30]) (.block 1 (.reg [oL 32 8, oV 33 9, oO 34 (.bsl true 1 1 [(.int .i64 0)] [(0, 1, (.t 33))]), oO 35 (.app 1 8 (.t 32) (.t 34)), oS (.st 1 (.t 8) (.t 35))])))))
 (.seq (.seq (.dreg [(oV 36 0, 0), (oO 37 (.call .no 81 [(.t 36)]), 1), (oF 38 0 5, 0), (oL 39 38, 4), (oO 40 (.lkp false .nilf false (.t 37) (.t 39)), 15), (oV 10 40, 31)])
 (.seq (.reg [oV 41 10, oO 42 (.bin .fnc .neq (.t 41) (.c .nilf)), oV 43 42, oG 44 (.mv (.t 3)) 43 true, oO 45 (.pick (.t 43) (.t 44) (.c (.bool false)))])
 (.cond (.t 45) (.reg [oV 46 10, oO 47 (.ld (some 5) (.t 5)), oO 48 (.ld (some 3) (.t 6)), oL 49 8, oO 50 (.callv .no (.t 46) [(.t 47), (.t 48), (.t 49)])]) (.skip))))
 (.seq (.reg [oF 51 3 5, oL 52 51, oO 53 (.len false (.t 52)), oO 54 (.mv (.c (.int .i64 0)))])
 (.block 2 (.loop body52)))))))⟩
def a56 : AFn := ⟨26, [.tmp 4],
 .seq (.reg [oO 4 (.mv (.c (.bool false)))])
 (.seq (.seq (.reg [oV 6 0, oO 7 (.len false (.t 6)), oV 8 1, oO 9 (.len false (.t 8)), oO 10 (.bin .num .neq (.t 7) (.t 9))])
 (.cond (.t 10) (.seq (.reg [oO 4 (.mv (.c (.bool false)))])
 (.ret)) (.skip)))
 (.seq (.seq (.reg [oO 5 (.mv (.c (.int .i64 0)))])
 (.block 0 (.loop (.seq (.seq (.reg [oV 11 5, oV 12 0, oO 13 (.len false (.t 12)), oO 14 (.bin .num .lss (.t 11) (.t 13))])
 (.cond (.t 14) (.skip) (.exit 0)))
 (.seq (.block 1 (.seq (.dreg [(oV 17 0, 0), (oV 18 5, 0), (oO 19 (.ia 1 (.t 17) (.t 18)), 3), (oL 20 19, 7), (oV 21 1, 0), (oV 22 5, 0), (oO 23 (.ia 1 (.t 21) (.t 22)), 48), (oL 24 23, 112), (oO 25 (.bin .num .neq (.t 20) (.t 24)), 255)])
 (.cond (.t 25) (.seq (.reg [oO 4 (.mv (.c (.bool false)))])
 (.ret)) (.skip))))
 (.reg [oV 15 5, oO 16 (.bin .num .add (.t 15) (.c (.int .i64 1))), oV 5 16]))))))
 (.seq (.reg [oO 4 (.mv (.c (.bool true)))])
 (.ret))))⟩
def a57 : AFn := ⟨38, [.tmp 0],
 .seq (.reg [oO 0 (.mv (.c .nilm))])
 (.seq (.reg [oO 1 (.mkm), oO 2 (.build [.nilf, (.int .i64 0), (.int .i64 0)] [(0, 1, (.c (.fn 87 [] []))), (1, 1, (.c (.int .i64 0))), (2, 1, (.c (.int .i64 0)))]), oS (.upd false (.t 1) (.c (.int .i64 1)) (.t 2)), oO 3 (.build [.nilf, (.int .i64 0), (.int .i64 0)] [(0, 1, (.c (.fn 88 [] []))), (1, 1, (.c (.int .i64 0))), (2, 1, (.c (.int .i64 0)))]), oS (.upd false (.t 1) (.c (.int .i64 2)) (.t 3)), oO 4 (.build [.nilf, (.int .i64 0), (.int .i64 0)] [(0, 1, (.c (.fn 89 [] []))), (1, 1, (.c (.int .i64 0))), (2, 1, (.c (.int .i64 0)))]), oS (.upd false (.t 1) (.c (.int .i64 3)) (.t 4)), oO 5 (.build [.nilf, (.int .i64 0), (.int .i64 0)] [(0, 1, (.c (.fn 88 [] []))), (1, 1, (.c (.int .i64 0))), (2, 1, (.c (.int .i64 0)))]), oS (.upd false (.t 1) (.c (.int .i64 4)) (.t 5)), oO 6 (.build [.nilf, (.int .i64 0), (.int .i64 0)] [(0, 1, (.c (.fn 88 [] []))), (1, 1, (.c (.int .i64 0))), (2, 1, (.c (.int .i64 0)))]), oS (.upd false (.t 1) (.c (.int .i64 5)) (.t 6)), oO 7 (.build [.nilf, (.int .i64 0), (.int .i64 0)] [(0, 1, (.c (.fn 88 [] []))), (1, 1, (.c (.int .i64 0))), (2, 1, (.c (.int .i64 0)))]), oS (.upd false (.t 1) (.c (.int .i64 6)) (.t 7)), oO 8 (.build [.nilf, (.int .i64 0), (.int .i64 0)] [(0, 1, (.c (.fn 88 [] []))), (1, 1, (.c (.int .i64 0))), (2, 1, (.c (.int .i64 0)))]), oS (.upd false (.t 1) (.c (.int .i64 7)) (.t 8)), oO 9 (.build [.nilf, (.int .i64 0), (.int .i64 0)] [(0, 1, (.c (.fn 88 [] []))), (1, 1, (.c (.int .i64 0))), (2, 1, (.c (.int .i64 0)))]), oS (.upd false (.t 1) (.c (.int .i64 8)) (.t 9)), oO 10 (.build [.nilf, (.int .i64 0), (.int .i64 0)] [(0, 1, (.c (.fn 88 [] []))), (1, 1, (.c (.int .i64 0))), (2, 1, (.c (.int .i64 0)))]), oS (.upd false (.t 1) (.c (.int .i64 9)) (.t 10)), oO 11 (.build [.nilf, (.int .i64 0), (.int .i64 0)] [(0, 1, (.c (.fn 90 [] []))), (1, 1, (.c (.int .i64 1))), (2, 1, (.c (.int .i64 201)))]), oS (.upd false (.t 1) (.c (.int .i64 10)) (.t 11)), oO 12 (.build [.nilf, (.int .i64 0), (.int .i64 0)] [(0, 1, (.c (.fn 88 [] []))), (1, 1, (.c (.int .i64 0))), (2, 1, (.c (.int .i64 200)))]), oS (.upd false (.t 1) (.c (.int .i64 11)) (.t 12)), oO 13 (.build [.nilf, (.int .i64 0), (.int .i64 0)] [(0, 1, (.c (.fn 89 [] []))), (1, 1, (.c (.int .i64 1))), (2, 1, (.c (.int .i64 1)))]), oS (.upd false (.t 1) (.c (.int .i64 12)) (.t 13)), oO 14 (.build [.nilf, (.int .i64 0), (.int .i64 0)] [(0, 1, (.c (.fn 91 [] []))), (1, 1, (.c (.int .i64 1))), (2, 1, (.c (.int .i64 1)))]), oS (.upd false (.t 1) (.c (.int .i64 13)) (.t 14)), oO 15 (.build [.nilf, (.int .i64 0), (.int .i64 0)] [(0, 1, (.c (.fn 88 [] []))), (1, 1, (.c (.int .i64 2))), (2, 1, (.c (.int .i64 2)))]), oS (.upd false (.t 1) (.c (.int .i64 14)) (.t 15)), oO 16 (.build [.nilf, (.int .i64 0), (.int .i64 0)] [(0, 1, (.c (.fn 88 [] []))), (1, 1, (.c (.int .i64 1))), (2, 1, (.c (.int .i64 200)))]), oS (.upd false (.t 1) (.c (.int .i64 15)) (.t 16)), oO 17 (.build [.nilf, (.int .i64 0), (.int .i64 0)] [(0, 1, (.c (.fn 88 [] []))), (1, 1, (.c (.int .i64 1))), (2, 1, (.c (.int .i64 200)))]), oS (.upd false (.t 1) (.c (.int .i64 16)) (.t 17)), oO 18 (.build [.nilf, (.int .i64 0), (.int .i64 0)] [(0, 1, (.c (.fn 88 [] []))), (1, 1, (.c (.int .i64 2))), (2, 1, (.c (.int .i64 2)))]), oS (.upd false (.t 1) (.c (.int .i64 17)) (.t 18)), oO 19 (.build [.nilf, (.int .i64 0), (.int .i64 0)] [(0, 1, (.c (.fn 92 [] []))), (1, 1, (.c (.int .i64 2))), (2, 1, (.c (.int .i64 2)))]), oS (.upd false (.t 1) (.c (.int .i64 18)) (.t 19)), oO 20 (.build [.nilf, (.int .i64 0), (.int .i64 0)] [(0, 1, (.c (.fn 88 [] []))), (1, 1, (.c (.int .i64 1))), (2, 1, (.c (.int .i64 1)))]), oS (.upd false (.t 1) (.c (.int .i64 19)) (.t 20)), oO 21 (.build [.nilf, (.int .i64 0), (.int .i64 0)] [(0, 1, (.c (.fn 88 [] []))), (1, 1, (.c (.int .i64 1))), (2, 1, (.c (.int .i64 1)))]), oS (.upd false (.t 1) (.c (.int .i64 20)) (.t 21)), oO 22 (.build [.nilf, (.int .i64 0), (.int .i64 0)] [(0, 1, (.c (.fn 88 [] []))), (1, 1, (.c (.int .i64 2))), (2, 1, (.c (.int .i64 2)))]), oS (.upd false (.t 1) (.c (.int .i64 21)) (.t 22)), oO 23 (.build [.nilf, (.int .i64 0), (.int .i64 0)] [(0, 1, (.c (.fn 88 [] []))), (1, 1, (.c (.int .i64 2))), (2, 1, (.c (.int .i64 2)))]), oS (.upd false (.t 1) (.c (.int .i64 22)) (.t 23)), oO 24 (.build [.nilf, (.int .i64 0), (.int .i64 0)] [(0, 1, (.c (.fn 88 [] []))), (1, 1, (.c (.int .i64 3))), (2, 1, (.c (.int .i64 3)))]), oS (.upd false (.t 1) (.c (.int .i64 23)) (.t 24)), oO 25 (.build [.nilf, (.int .i64 0), (.int .i64 0)] [(0, 1, (.c (.fn 87 [] []))), (1, 1, (.c (.int .i64 0))), (2, 1, (.c (.int .i64 1)))]), oS (.upd false (.t 1) (.c (.int .i64 30)) (.t 25)), oO 26 (.build [.nilf, (.int .i64 0), (.int .i64 0)] [(0, 1, (.c (.fn 88 [] []))), (1, 1, (.c (.int .i64 1))), (2, 1, (.c (.int .i64 1)))]), oS (.upd false (.t 1) (.c (.int .i64 31)) (.t 26)), oO 27 (.build [.nilf, (.int .i64 0), (.int .i64 0)] [(0, 1, (.c (.fn 88 [] []))), (1, 1, (.c (.int .i64 0))), (2, 1, (.c (.int .i64 1073741824)))]), oS (.upd false (.t 1) (.c (.int .i64 32)) (.t 27)), oO 28 (.build [.nilf, (.int .i64 0), (.int .i64 0)] [(0, 1, (.c (.fn 88 [] []))), (1, 1, (.c (.int .i64 2))), (2, 1, (.c (.int .i64 3)))]), oS (.upd false (.t 1) (.c (.int .i64 33)) (.t 28)), oO 29 (.build [.nilf, (.int .i64 0), (.int .i64 0)] [(0, 1, (.c (.fn 88 [] []))), (1, 1, (.c (.int .i64 2))), (2, 1, (.c (.int .i64 2)))]), oS (.upd false (.t 1) (.c (.int .i64 34)) (.t 29)), oO 30 (.build [.nilf, (.int .i64 0), (.int .i64 0)] [(0, 1, (.c (.fn 87 [] []))), (1, 1, (.c (.int .i64 2))), (2, 1, (.c (.int .i64 2)))]), oS (.upd false (.t 1) (.c (.int .i64 35)) (.t 30)), oO 31 (.build [.nilf, (.int .i64 0), (.int .i64 0)] [(0, 1, (.c (.fn 88 [] []))), (1, 1, (.c (.int .i64 0))), (2, 1, (.c (.int .i64 1)))]), oS (.upd false (.t 1) (.c (.int .i64 36)) (.t 31)), oO 32 (.build [.nilf, (.int .i64 0), (.int .i64 0)] [(0, 1, (.c (.fn 88 [] []))), (1, 1, (.c (.int .i64 1))), (2, 1, (.c (.int .i64 1)))]), oS (.upd false (.t 1) (.c (.int .i64 37)) (.t 32)), oO 33 (.build [.nilf, (.int .i64 0), (.int .i64 0)] [(0, 1, (.c (.fn 87 [] []))), (1, 1, (.c (.int .i64 2))), (2, 1, (.c (.int .i64 2)))]), oS (.upd false (.t 1) (.c (.int .i64 38)) (.t 33)), oO 34 (.build [.nilf, (.int .i64 0), (.int .i64 0)] [(0, 1, (.c (.fn 88 [] []))), (1, 1, (.c (.int .i64 0))), (2, 1, (.c (.int .i64 0)))]), oS (.upd false (.t 1) (.c (.int .i64 39)) (.t 34)), oO 35 (.build [.nilf, (.int .i64 0), (.int .i64 0)] [(0, 1, (.c (.fn 88 [] []))), (1, 1, (.c (.int .i64 0))), (2, 1, (.c (.int .i64 0)))]), oS (.upd false (.t 1) (.c (.int .i64 40)) (.t 35)), oO 36 (.build [.nilf, (.int .i64 0), (.int .i64 0)] [(0, 1, (.c (.fn 87 [] []))), (1, 1, (.c (.int .i64 1))), (2, 1, (.c (.int .i64 201)))]), oS (.upd false (.t 1) (.c (.int .i64 41)) (.t 36)), oV 37 1, oV 0 37])
 (.ret))⟩
def a58 : AFn := ⟨90, [.tmp 6],
 .seq (.reg [oO 4 (.box 24 (.t 1)), oO 6 (.mv (.c (.bool false)))])
 (.seq (.reg [oV 12 0, oF 13 0 4, oL 14 13, oO 15 (.lkp false (.agg [.nilf, (.int .i64 0), (.int .i64 0)]) true (.t 12) (.t 14)), oV 11 15, oO 16 (.ext 0 (.t 11)), oO 17 (.ext 1 (.t 11)), oO 7 (.alloc 146 [.nilf, (.int .i64 0), (.int .i64 0)]), oS (.st 3 (.t 7) (.t 16)), oV 8 17])
 (.seq (.seq (.reg [oV 18 2, oO 19 (.bin .num .eql (.t 18) (.c (.int .i64 0))), oV 20 19, oG 21 (.mv (.t 8)) 20 false, oG 22 (.un .not (.t 21)) 20 false, oO 23 (.pick (.t 20) (.c (.bool true)) (.t 22)), oV 24 23, oG 25 (.fa 0 (.t 7)) 24 false, oG 26 (.ld none (.t 25)) 24 false, oG 27 (.fa 1 (.t 4)) 24 false, oG 28 (.ld none (.t 27)) 24 false, oG 29 (.callv .no (.t 26) [(.t 28)]) 24 false, oG 30 (.un .not (.t 29)) 24 false, oO 31 (.pick (.t 24) (.c (.bool true)) (.t 30)), oV 32 31, oG 33 (.fa 3 (.t 4)) 32 false, oG 34 (.ld none (.t 33)) 32 false, oG 35 (.len false (.t 34)) 32 false, oG 36 (.fa 1 (.t 7)) 32 false, oG 37 (.ld none (.t 36)) 32 false, oG 38 (.bin .num .lss (.t 35) (.t 37)) 32 false, oO 39 (.pick (.t 32) (.c (.bool true)) (.t 38)), oV 40 39, oG 41 (.fa 3 (.t 4)) 40 false, oG 42 (.ld none (.t 41)) 40 false, oG 43 (.len false (.t 42)) 40 false, oG 44 (.fa 2 (.t 7)) 40 false, oG 45 (.ld none (.t 44)) 40 false, oG 46 (.bin .num .gtr (.t 43) (.t 45)) 40 false, oO 47 (.pick (.t 40) (.c (.bool true)) (.t 46))])
 (.cond (.t 47) (.seq (.reg [oO 6 (.mv (.c (.bool false)))])
 (.ret)) (.skip)))
 (.seq (.seq (.reg [oF 48 2 4, oL 49 48, oO 50 (.bin .num .neq (.t 49) (.c (.int .i64 0))), oV 51 50, oG 52 (.fa 0 (.t 4)) 51 true, oG 53 (.ld none (.t 52)) 51 true, oG 54 (.bin .num .neq (.t 53) (.c (.int .i64 2))) 51 true, oG 55 (.mv (.t 54)) 51 true, oG 56 (.fa 2 (.t 4)) 55 false, oG 57 (.ld none (.t 56)) 55 false, oG 58 (.bin .num .lss (.t 57) (.c (.int .i64 0))) 55 false, oG 59 (.pick (.t 55) (.c (.bool true)) (.t 58)) 51 true, oG 60 (.mv (.t 59)) 51 true, oG 61 (.fa 2 (.t 4)) 60 false, oG 62 (.ld none (.t 61)) 60 false, oG 63 (.bin .num .gtr (.t 62) (.c (.int .i64 999999999999999))) 60 false, oG 64 (.pick (.t 60) (.c (.bool true)) (.t 63)) 51 true, oO 65 (.pick (.t 51) (.t 64) (.c (.bool false)))])
 (.cond (.t 65) (.seq (.reg [oO 6 (.mv (.c (.bool false)))])
 (.ret)) (.skip)))
 (.seq (.seq (.reg [oF 66 3 4, oL 67 66, oO 68 (.len false (.t 67)), oO 69 (.mv (.c (.int .i64 0)))])
 (.block 0 (.loop (.seq (.reg [oO 70 (.bin .num .lss (.t 69) (.t 68))])
 (.seq (.cond (.t 70) (.skip) (.exit 0))
 (.seq (.block 1 (.seq (.reg [oV 71 69, oO 72 (.ia 5 (.t 67) (.t 69)), oO 73 (.ld (some 5) (.t 72)), oO 10 (.alloc 24 [(.int .i64 0), (.str ⟨#[]⟩), (.int .i64 0), .nils, (.int .i64 0)]), oV 9 71, oS (.st 5 (.t 10) (.t 73))])
 (.seq (.dreg [(oO 74 (.ld (some 5) (.t 4)), 0), (oV 75 9, 0), (oO 76 (.call .no 93 [(.t 74), (.t 75)]), 3), (oF 77 0 10, 0), (oL 78 77, 8), (oO 79 (.callv .quiet (.t 76) [(.t 78)]), 31), (oO 80 (.un .not (.t 79)), 63), (oV 81 80, 127), (oG 82 (.mv (.t 0)) 81 false, 255), (oG 83 (.ld (some 5) (.t 10)) 81 false, 255), (oG 84 (.mv (.t 2)) 81 false, 255), (oG 85 (.bin .num .sub (.t 84) (.c (.int .i64 1))) 81 false, 1279), (oG 86 (.call .full 58 [(.t 82), (.t 83), (.t 85)]) 81 false, 4095), (oG 87 (.un .not (.t 86)) 81 false, 8191), (oO 88 (.pick (.t 81) (.c (.bool true)) (.t 87)), 16383)])
 (.cond (.t 88) (.seq (.reg [oO 6 (.mv (.c (.bool false)))])
 (.ret)) (.skip)))))
 (.reg [oO 89 (.bin .num .add (.t 69) (.c (.int .i64 1))), oV 69 89])))))))
 (.seq (.reg [oO 6 (.mv (.c (.bool true)))])
 (.ret))))))⟩
def a60 : AFn := ⟨47, [.tmp 2],
 .seq (.reg [oO 2 (.mv (.c .nili))])
 (.seq (.reg [oO 3 (.mv (.c (.int .i64 0)))])
 (.seq (.seq (.reg [oV 9 0, oO 10 (.len false (.t 9)), oO 11 (.mv (.c (.int .i64 0)))])
 (.block 0 (.loop (.seq (.reg [oO 12 (.bin .num .lss (.t 11) (.t 10))])
 (.seq (.cond (.t 12) (.skip) (.exit 0))
 (.seq (.block 1 (.seq (.reg [oO 13 (.ia 1 (.t 9) (.t 11)), oL 14 13, oV 5 14])
 (.seq (.reg [oV 15 5, oO 16 (.bin .ifc .neq (.t 15) (.c .nili))])
 (.cond (.t 16) (.reg [oV 17 3, oO 18 (.bin .num .add (.t 17) (.c (.int .i64 1))), oV 3 18]) (.skip)))))
 (.reg [oO 19 (.bin .num .add (.t 11) (.c (.int .i64 1))), oV 11 19])))))))
 (.seq (.seq (.reg [oV 20 3, oO 21 (.bin .num .eql (.t 20) (.c (.int .i64 0)))])
 (.cond (.t 21) (.seq (.reg [oO 2 (.mv (.c .nili))])
 (.ret)) (.skip)))
 (.seq (.reg [oV 22 3, oO 23 (.mks 1 16 [.nili] (.c (.int .i64 0)) (.t 22)), oO 24 (.build [.nils] [(0, 1, (.t 23))]), oO 25 (.box 153 (.t 24)), oV 6 25])
 (.seq (.seq (.reg [oV 26 0, oO 27 (.len false (.t 26)), oO 28 (.mv (.c (.int .i64 0)))])
 (.block 2 (.loop (.seq (.reg [oO 29 (.bin .num .lss (.t 28) (.t 27))])
 (.seq (.cond (.t 29) (.skip) (.exit 2))
 (.seq (.block 3 (.seq (.reg [oO 30 (.ia 1 (.t 26) (.t 28)), oL 31 30, oV 8 31])
 (.seq (.reg [oV 32 8, oO 33 (.bin .ifc .neq (.t 32) (.c .nili))])
 (.cond (.t 33) (.reg [oV 34 6, oV 35 6, oN 36 35, oF 37 0 36, oL 38 37, oV 39 8, oO 40 (.bsl true 1 1 [.nili] [(0, 1, (.t 39))]), oO 41 (.app 1 16 (.t 38) (.t 40)), oN 42 34, oF 43 0 42, oS (.st 1 (.t 43) (.t 41))]) (.skip)))))
 (.reg [oO 44 (.bin .num .add (.t 28) (.c (.int .i64 1))), oV 28 44])))))))
 (.seq (.reg [oV 45 6, oO 46 (.mki 151 (.t 45)), oV 2 46])
 (.ret)))))))⟩
def a61 : AFn := ⟨41, [.tmp 6],
 .seq (.reg [oO 6 (.mv (.c (.int .i64 0)))])
 (.seq (.seq (.reg [oV 7 0, oN 8 7, oF 9 0 8, oL 10 9, oO 11 (.len false (.t 10)), oO 12 (.bin .num .eql (.t 11) (.c (.int .i64 500))), oV 13 12, oG 14 (.mv (.t 1)) 13 false, oG 15 (.nck (.t 14)) 13 false, oG 16 (.fa 0 (.t 15)) 13 false, oG 17 (.fa 3 (.t 16)) 13 false, oG 18 (.ld none (.t 17)) 13 false, oG 19 (.len false (.t 18)) 13 false, oG 20 (.bin .num .gtr (.t 19) (.c (.int .i64 200))) 13 false, oO 21 (.pick (.t 13) (.c (.bool true)) (.t 20))])
 (.cond (.t 21) (.reg [oV 22 2, oO 23 (.build [(.int .i64 0), (.int .i64 0)] [(0, 1, (.c (.int .i64 52))), (1, 1, (.t 22))]), oO 24 (.mki 65 (.t 23)), oS (.pan (.t 24))]) (.skip)))
 (.seq (.reg [oV 25 0, oV 26 0, oN 27 26, oF 28 0 27, oL 29 28, oV 30 1, oO 31 (.bsl true 1 1 [.nilp] [(0, 1, (.t 30))]), oO 32 (.app 1 8 (.t 29) (.t 31)), oN 33 25, oF 34 0 33, oS (.st 1 (.t 34) (.t 32))])
 (.seq (.reg [oV 35 0, oN 36 35, oF 37 0 36, oL 38 37, oO 39 (.len false (.t 38)), oO 40 (.bin .num .sub (.t 39) (.c (.int .i64 1))), oV 6 40])
 (.ret))))⟩
def a62 : AFn := ⟨58, [.tmp 8],
 .seq (.reg [oO 4 (.box 43 (.t 0)), oO 7 (.box 24 (.t 3)), oO 8 (.mv (.c .nilp))])
 (.seq (.reg [oO 13 (.ld (some 5) (.t 4)), oO 14 (.mkm), oO 15 (.build [(.int .i64 0), (.str ⟨#[]⟩), (.int .i64 0), .nils, (.int .i64 0), .nilm] [(0, 5, (.t 13)), (5, 1, (.t 14))]), oO 16 (.box 108 (.t 15)), oO 9 (.alloc 104 [.nilp]), oS (.st 1 (.t 9) (.t 16))])
 (.seq (.seq (.reg [oV 17 1, oO 18 (.len false (.t 17)), oO 19 (.mv (.c (.int .i64 0)))])
 (.block 0 (.loop (.seq (.reg [oO 20 (.bin .num .lss (.t 19) (.t 18))])
 (.seq (.cond (.t 20) (.skip) (.exit 0))
 (.seq (.block 1 (.seq (.reg [oO 21 (.ia 5 (.t 17) (.t 19)), oO 22 (.ld (some 5) (.t 21)), oO 11 (.alloc 24 [(.int .i64 0), (.str ⟨#[]⟩), (.int .i64 0), .nils, (.int .i64 0)]), oS (.st 5 (.t 11) (.t 22))])
 (.reg [oL 23 9, oF 24 1 11, oL 25 24, oO 26 (.call .no 94 [(.t 23), (.t 25)])])))
 (.reg [oO 27 (.bin .num .add (.t 19) (.c (.int .i64 1))), oV 19 27])))))))
 (.seq (.dreg [(oL 28 9, 0), (oL 29 9, 0), (oN 30 29, 2), (oF 31 0 30, 6), (oF 32 3 31, 14), (oL 33 32, 30), (oO 34 (.len false (.t 33)), 62), (oN 35 28, 127), (oF 36 0 35, 255), (oF 37 2 36, 511), (oS (.st 1 (.t 37) (.t 34)), 1023)])
 (.seq (.seq (.reg [oV 38 2, oO 39 (.bin .str .neq (.t 38) (.c (.str ⟨#[]⟩)))])
 (.cond (.t 39) (.reg [oL 40 9, oV 41 2, oO 42 (.call .no 94 [(.t 40), (.t 41)])]) (.skip)))
 (.seq (.seq (.reg [oO 43 (.ld (some 5) (.t 7)), oO 44 (.call .no 95 [(.t 43)])])
 (.block 2 (.rf (.t 44) [45] (.reg [oO 12 (.alloc 24 [(.int .i64 0), (.str ⟨#[]⟩), (.int .i64 0), .nils, (.int .i64 0)]), oS (.st 5 (.t 12) (.t 45))]) (.block 3 (.seq (.reg [oF 46 0 12, oL 47 46])
 (.block 4 (.seq (.seq (.reg [oO 49 (.bin .num .eql (.t 47) (.c (.int .i64 30))), oV 48 49])
 (.cond (.t 48) (.skip) (.seq (.reg [oO 50 (.bin .num .eql (.t 47) (.c (.int .i64 35))), oV 48 50])
 (.cond (.t 48) (.skip) (.seq (.reg [oO 51 (.bin .num .eql (.t 47) (.c (.int .i64 38))), oV 48 51])
 (.cond (.t 48) (.skip) (.reg [oO 52 (.bin .num .eql (.t 47) (.c (.int .i64 41))), oV 48 52])))))))
 (.cond (.t 48) (.reg [oL 53 9, oF 54 1 12, oL 55 54, oO 56 (.call .no 94 [(.t 53), (.t 55)])]) (.skip)))))))))
 (.seq (.reg [oL 57 9, oV 8 57])
 (.ret)))))))⟩
def a63 : AFn := ⟨93, [.cell 8 (some 5)],
 .seq (.reg [oO 5 (.box 24 (.t 1)), oO 8 (.alloc 24 [(.int .i64 0), (.str ⟨#[]⟩), (.int .i64 0), .nils, (.int .i64 0)])])
 (.seq (.seq (.reg [oO 13 (.ld (some 5) (.t 5)), oO 14 (.call .full 96 [(.t 13)])])
 (.cond (.t 14) (.seq (.reg [oV 15 0, oO 16 (.ld (some 5) (.t 5)), oV 17 2, oO 18 (.call .no 97 [(.t 15), (.t 16), (.t 17)]), oS (.st 5 (.t 8) (.t 18))])
 (.ret)) (.skip)))
 (.seq (.reg [oO 9 (.mv (.c (.int .i64 0)))])
 (.seq (.seq (.reg [oF 19 0 5, oL 20 19])
 (.block 0 (.seq (.reg [oO 22 (.bin .num .eql (.t 20) (.c (.int .i64 1))), oV 21 22])
 (.cond (.t 21) (.seq (.reg [oV 23 0, oV 24 2, oF 25 1 5, oL 26 25, oO 27 (.call .full 98 [(.t 23), (.t 24), (.t 26)]), oF 28 2 5, oS (.st 1 (.t 28) (.t 27))])
 (.seq (.reg [oF 29 2 5, oL 30 29, oO 31 (.bin .num .lss (.t 30) (.c (.int .i64 0)))])
 (.cond (.t 31) (.reg [oO 9 (.mv (.c (.int .i64 50)))]) (.skip)))) (.seq (.reg [oO 33 (.bin .num .eql (.t 20) (.c (.int .i64 35))), oV 32 33])
 (.cond (.t 32) (.seq (.reg [oO 3 (.mv (.c (.bool true)))])
 (.reg [oV 34 0, oV 35 2, oF 36 1 5, oL 37 36, oO 38 (.call .full 98 [(.t 34), (.t 35), (.t 37)]), oF 39 2 5, oS (.st 1 (.t 39) (.t 38))])) (.seq (.seq (.reg [oO 41 (.bin .num .eql (.t 20) (.c (.int .i64 30))), oV 40 41])
 (.cond (.t 40) (.skip) (.reg [oO 42 (.bin .num .eql (.t 20) (.c (.int .i64 38))), oV 40 42])))
 (.cond (.t 40) (.reg [oV 43 0, oV 44 2, oF 45 1 5, oL 46 45, oO 47 (.call .full 98 [(.t 43), (.t 44), (.t 46)]), oF 48 2 5, oS (.st 1 (.t 48) (.t 47))]) (.seq (.seq (.reg [oO 50 (.bin .num .eql (.t 20) (.c (.int .i64 11))), oV 49 50])
 (.cond (.t 49) (.skip) (.seq (.reg [oO 51 (.bin .num .eql (.t 20) (.c (.int .i64 16))), oV 49 51])
 (.cond (.t 49) (.skip) (.reg [oO 52 (.bin .num .eql (.t 20) (.c (.int .i64 15))), oV 49 52])))))
 (.cond (.t 49) (.reg [oV 53 0, oO 54 (.call .keep 99 [(.t 53), (.c (.int .i64 1))]), oF 55 2 5, oS (.st 1 (.t 55) (.t 54))]) (.seq (.reg [oO 57 (.bin .num .eql (.t 20) (.c (.int .i64 34))), oV 56 57])
 (.cond (.t 56) (.reg [oO 3 (.mv (.c (.bool true)))]) (.seq (.reg [oO 59 (.bin .num .eql (.t 20) (.c (.int .i64 36))), oV 58 59])
 (.cond (.t 58) (.seq (.reg [oV 60 2, oO 61 (.bin .num .eql (.t 60) (.c (.int .i64 0)))])
 (.cond (.t 61) (.reg [oO 9 (.mv (.c (.int .i64 51)))]) (.skip))) (.seq (.seq (.reg [oO 63 (.bin .num .eql (.t 20) (.c (.int .i64 39))), oV 62 63])
 (.cond (.t 62) (.skip) (.reg [oO 64 (.bin .num .eql (.t 20) (.c (.int .i64 40))), oV 62 64])))
 (.cond (.t 62) (.seq (.reg [oV 65 3, oO 66 (.un .not (.t 65))])
 (.cond (.t 66) (.reg [oO 9 (.mv (.c (.int .i64 51)))]) (.skip))) (.skip)))))))))))))))))
 (.seq (.seq (.reg [oV 67 9, oO 68 (.bin .num .neq (.t 67) (.c (.int .i64 0)))])
 (.cond (.t 68) (.reg [oV 69 9, oF 70 4 5, oL 71 70, oO 72 (.build [(.int .i64 0), (.int .i64 0)] [(0, 1, (.t 69)), (1, 1, (.t 71))]), oO 73 (.mki 65 (.t 72)), oS (.pan (.t 73))]) (.skip)))
 (.seq (.reg [oO 10 (.mv (.c .nils))])
 (.seq (.seq (.reg [oF 74 3 5, oL 75 74, oO 76 (.len false (.t 75)), oO 77 (.mv (.c (.int .i64 0)))])
 (.block 1 (.loop (.seq (.reg [oO 78 (.bin .num .lss (.t 77) (.t 76))])
 (.seq (.cond (.t 78) (.skip) (.exit 1))
 (.seq (.block 2 (.seq (.reg [oO 79 (.ia 5 (.t 75) (.t 77)), oO 80 (.ld (some 5) (.t 79)), oO 12 (.alloc 24 [(.int .i64 0), (.str ⟨#[]⟩), (.int .i64 0), .nils, (.int .i64 0)]), oS (.st 5 (.t 12) (.t 80))])
 (.reg [oV 81 10, oV 82 0, oO 83 (.ld (some 5) (.t 12)), oV 84 2, oV 85 3, oO 86 (.call .no 63 [(.t 82), (.t 83), (.t 84), (.t 85)]), oO 87 (.bsl true 5 1 [(.int .i64 0), (.str ⟨#[]⟩), (.int .i64 0), .nils, (.int .i64 0)] [(0, 5, (.t 86))]), oO 88 (.app 5 64 (.t 81) (.t 87)), oV 10 88])))
 (.reg [oO 89 (.bin .num .add (.t 77) (.c (.int .i64 1))), oV 77 89])))))))
 (.seq (.reg [oV 90 10, oF 91 3 5, oS (.st 1 (.t 91) (.t 90))])
 (.seq (.reg [oO 92 (.ld (some 5) (.t 5)), oS (.st 5 (.t 8) (.t 92))])
 (.ret)))))))))⟩
def a73 : AFn := ⟨29, [.tmp 2],
 .seq (.reg [qo 2 (.mv (.c .nils))])
 (.seq (.reg [qo 3 (.mv (.c .nils))])
 (.seq (.block 0 (.loop (.seq (.seq (.reg [qv 6 0, qn 7 6, qf 8 2 7, ql 9 8, qo 10 (.bin .num .eql (.t 9) (qi 0)), qv 11 10, qg 12 (.mv (.t 0)) 11 true, qg 13 (.call .no 103 [(.t 12), (qi 0)]) 11 true, qg 14 (.fld 0 none (.t 13)) 11 true, qg 15 (.bin .num .neq (.t 14) (qi 0)) 11 true, qo 16 (.pick (.t 11) (.t 15) (.c (.bool false)))])
 (.cond (.t 16) (.skip) (.exit 0)))
 (.block 1 (.seq (.reg [qv 17 0, qo 18 (.call .no 104 [(.t 17), (qs #[125])]), qv 4 18])
 (.seq (.seq (.reg [qv 19 4])
 (.cond (.t 19) (.exit 0) (.skip)))
 (.seq (.reg [qv 20 0, qo 21 (.call .no 105 [(.t 20), (qs #[59])]), qv 5 21])
 (.seq (.seq (.reg [qv 22 5])
 (.cond (.t 22) (.exit 1) (.skip)))
 (.reg [qv 23 3, qv 24 0, qo 25 (.call .no 106 [(.t 24)]), qo 26 (.bsl true 5 1 z5 [(0, 5, (.t 25))]), qo 27 (.app 5 64 (.t 23) (.t 26)), qv 3 27])))))))))
 (.seq (.reg [qv 28 3, qv 2 28])
 (.ret))))⟩
def a74 : AFn := ⟨54, [.cell 4 (some 5)],
 .seq (.reg [qo 4 (.alloc 24 z5)])
 (.seq (.reg [qv 6 0, qo 7 (.call .no 103 [(.t 6), (qi 0)]), qo 5 (.alloc 130 z6), ⟨none, .st 5 (.t 5) (.t 7), none⟩])
 (.seq (.seq (.reg [qf 8 0 5, ql 9 8, qo 10 (.bin .num .eql (.t 9) (qi 2)), qv 11 10, qg 12 (.fa 1 (.t 5)) 11 true, qg 13 (.ld none (.t 12)) 11 true, qg 14 (.bin .str .eql (.t 13) (qs #[119, 105, 116, 104])) 11 true, qo 15 (.pick (.t 11) (.t 14) (.c (.bool false)))])
 (.cond (.t 15) (.reg [qv 16 0, qo 17 (.call .no 107 [(.t 16), (qi 42)])]) (.seq (.reg [qf 18 0 5, ql 19 18, qo 20 (.bin .num .eql (.t 19) (qi 5)), qv 21 20, qg 22 (.fa 1 (.t 5)) 21 true, qg 23 (.ld none (.t 22)) 21 true, qg 24 (.bin .str .eql (.t 23) (qs #[47])) 21 true, qo 25 (.pick (.t 21) (.t 24) (.c (.bool false))), qv 26 25, qg 27 (.mv (.t 1)) 26 true, qo 28 (.pick (.t 26) (.t 27) (.c (.bool false)))])
 (.cond (.t 28) (.reg [qv 29 0, qo 30 (.call .no 107 [(.t 29), (qi 44)])]) (.seq (.reg [qf 31 0 5, ql 32 31, qo 33 (.bin .num .eql (.t 32) (qi 5)), qv 34 33, qg 35 (.fa 1 (.t 5)) 34 true, qg 36 (.ld none (.t 35)) 34 true, qg 37 (.bin .str .eql (.t 36) (qs #[47])) 34 true, qo 38 (.pick (.t 34) (.t 37) (.c (.bool false))), qv 39 38, qg 40 (.fa 0 (.t 5)) 39 false, qg 41 (.ld none (.t 40)) 39 false, qg 42 (.bin .num .eql (.t 41) (qi 2)) 39 false, qg 43 (.mv (.t 42)) 39 false, qg 44 (.fa 1 (.t 5)) 43 true, qg 45 (.ld none (.t 44)) 43 true, qg 46 (.call .no 108 [(.t 45)]) 43 true, qg 47 (.pick (.t 43) (.t 46) (.c (.bool false))) 39 false, qo 48 (.pick (.t 39) (.c (.bool true)) (.t 47))])
 (.cond (.t 48) (.reg [qv 49 0, qo 50 (.call .no 107 [(.t 49), (qi 47)])]) (.reg [qv 51 0, qo 52 (.call .no 107 [(.t 51), (qi 40)])])))))))
 (.seq (.reg [qo 53 (.build z5 []), ⟨none, .st 5 (.t 4) (.t 53), none⟩])
 (.ret))))⟩
def a75 : AFn := ⟨75, [.tmp 2, .tmp 3, .tmp 4],
 .seq (.reg [qo 2 (.mv (.c .nils)), qo 3 (.mv (qi 0)), qo 4 (.mv (qi 0))])
 (.seq (.seq (.reg [qv 14 0, qo 15 (.len true (.t 14)), qo 16 (.bin .num .gtr (.t 15) (qi 65536))])
 (.cond (.t 16) (.seq (.reg [qo 2 (.mv (.c .nils)), qo 3 (.mv (qi 0)), qo 4 (.mv (qi 20))])
 (.ret)) (.skip)))
 (.seq (.reg [qo 5 (.mv (.c .nils))])
 (.seq (.reg [qo 6 (.mv (qi 1))])
 (.seq (.reg [qo 7 (.mv (.c (.bool false)))])
 (.seq (.reg [qo 8 (.mv (qi 0))])
 (.seq (.block 0 (.loop (.seq (.seq (.reg [qv 17 8, qv 18 0, qo 19 (.len true (.t 18)), qo 20 (.bin .num .lss (.t 17) (.t 19))])
 (.cond (.t 20) (.skip) (.exit 0)))
 (.block 1 (.seq (.reg [qv 21 0, qv 22 8, qo 23 (.slc none (.t 21) (some (.t 22)) none), qo 24 (.call .full 109 [(.t 23)]), qv 9 24])
 (.seq (.seq (.reg [qv 25 9, qo 26 (.bin .num .lss (.t 25) (qi 0))])
 (.cond (.t 26) (.seq (.reg [qv 27 6, qo 2 (.mv (.c .nils)), qv 3 27, qo 4 (.mv (qi 23))])
 (.ret)) (.skip)))
 (.seq (.seq (.reg [qv 28 8, qv 10 28])
 (.block 2 (.loop (.seq (.seq (.reg [qv 29 10, qv 30 8, qv 31 9, qo 32 (.bin .num .add (.t 30) (.t 31)), qo 33 (.bin .num .lss (.t 29) (.t 32))])
 (.cond (.t 33) (.skip) (.exit 2)))
 (.seq (.block 3 (.seq (.reg [qv 36 0, qv 37 10, qo 38 (.ixs (.t 36) (.t 37)), qo 39 (.bin .num .eql (.t 38) (.c (.int .u8 10)))])
 (.cond (.t 39) (.seq (.reg [qv 40 6, qo 41 (.bin .num .add (.t 40) (qi 1)), qv 6 41])
 (.reg [qo 7 (.mv (.c (.bool true)))])) (.skip))))
 (.reg [qv 34 10, qo 35 (.bin .num .add (.t 34) (qi 1)), qv 10 35]))))))
 (.seq (.seq (.reg [qv 42 9, qo 43 (.bin .num .gtr (.t 42) (qi 0))])
 (.cond (.t 43) (.seq (.reg [qv 44 8, qv 45 9, qo 46 (.bin .num .add (.t 44) (.t 45)), qv 8 46])
 (.exit 1)) (.skip)))
 (.seq (.reg [qv 48 0, qv 49 8, qo 50 (.slc none (.t 48) (some (.t 49)) none), qo 51 (.call .full 110 [(.t 50)]), qv 47 51, qo 52 (.ext 0 (.t 47)), qo 53 (.ext 1 (.t 47)), qo 54 (.ext 2 (.t 47)), qo 11 (.alloc 130 z6), ⟨none, .st 5 (.t 11) (.t 52), none⟩, qv 12 53, qv 13 54])
 (.seq (.seq (.reg [qv 55 13, qo 56 (.bin .num .neq (.t 55) (qi 0))])
 (.cond (.t 56) (.seq (.reg [qv 57 6, qv 58 13, qo 2 (.mv (.c .nils)), qv 3 57, qv 4 58])
 (.ret)) (.skip)))
 (.seq (.seq (.reg [qv 59 5, qo 60 (.len false (.t 59)), qo 61 (.bin .num .eql (.t 60) (qi 20000))])
 (.cond (.t 61) (.seq (.reg [qv 62 6, qo 2 (.mv (.c .nils)), qv 3 62, qo 4 (.mv (qi 20))])
 (.ret)) (.skip)))
 (.seq (.reg [qv 63 6, qf 64 3 11, ⟨none, .st 1 (.t 64) (.t 63), none⟩])
 (.seq (.reg [qv 65 7, qf 66 4 11, ⟨none, .st 1 (.t 66) (.t 65), none⟩])
 (.seq (.reg [qv 67 5, qo 68 (.ld (some 5) (.t 11)), qo 69 (.bsl true 5 1 z6 [(0, 5, (.t 68))]), qo 70 (.app 5 48 (.t 67) (.t 69)), qv 5 70])
 (.seq (.reg [qo 7 (.mv (.c (.bool false)))])
 (.reg [qv 71 8, qv 72 12, qo 73 (.bin .num .add (.t 71) (.t 72)), qv 8 73]))))))))))))))))
 (.seq (.reg [qv 74 5, qv 2 74, qo 3 (.mv (qi 0)), qo 4 (.mv (qi 0))])
 (.ret))))))))⟩
def a76 : AFn := ⟨220, [.tmp 4],
 .seq (.reg [oO 2 (.box 24 (.t 0)), oO 4 (.mv (.c (.bool false)))])
 (.seq (.seq (.reg [oV 9 1, oO 10 (.bin .num .lss (.t 9) (.c (.int .i64 1))), oV 11 10, oG 12 (.fa 2 (.t 2)) 11 false, oG 13 (.ld none (.t 12)) 11 false, oG 14 (.bin .num .neq (.t 13) (.c (.int .i64 0))) 11 false, oO 15 (.pick (.t 11) (.c (.bool true)) (.t 14))])
 (.cond (.t 15) (.seq (.reg [oO 4 (.mv (.c (.bool false)))])
 (.ret)) (.skip)))
 (.seq (.reg [oF 16 1 2, oL 17 16, oO 18 (.call .full 111 [(.t 17)]), oV 5 18])
 (.seq (.reg [oF 19 3 2, oL 20 19, oO 21 (.len false (.t 20)), oV 6 21])
 (.seq (.reg [oF 22 1 2, oL 23 22, oO 24 (.bin .str .eql (.t 23) (.c (.str ⟨#[]⟩))), oV 7 24])
 (.seq (.seq (.reg [oF 25 0 2, oL 26 25])
 (.block 0 (.seq (.reg [oO 28 (.bin .num .eql (.t 26) (.c (.int .i64 30))), oV 27 28])
 (.cond (.t 27) (.seq (.reg [oV 29 5, oV 30 29, oG 31 (.mv (.t 6)) 30 true, oG 32 (.bin .num .leq (.t 31) (.c (.int .i64 1))) 30 true, oO 33 (.pick (.t 30) (.t 32) (.c (.bool false))), oV 34 33, oG 35 (.fa 3 (.t 2)) 34 true, oG 36 (.ld none (.t 35)) 34 true, oG 37 (.mv (.t 1)) 34 true, oG 38 (.bin .num .sub (.t 37) (.c (.int .i64 1))) 34 true, oG 39 (.call .full 112 [(.t 36), (.t 38)]) 34 true, oO 40 (.pick (.t 34) (.t 39) (.c (.bool false))), oV 4 40])
 (.ret)) (.seq (.seq (.reg [oO 42 (.bin .num .eql (.t 26) (.c (.int .i64 31))), oV 41 42])
 (.cond (.t 41) (.skip) (.reg [oO 43 (.bin .num .eql (.t 26) (.c (.int .i64 37))), oV 41 43])))
 (.cond (.t 41) (.seq (.reg [oV 44 7, oV 45 44, oG 46 (.mv (.t 6)) 45 true, oG 47 (.bin .num .eql (.t 46) (.c (.int .i64 1))) 45 true, oO 48 (.pick (.t 45) (.t 47) (.c (.bool false))), oV 49 48, oG 50 (.fa 3 (.t 2)) 49 true, oG 51 (.ld none (.t 50)) 49 true, oG 52 (.mv (.t 1)) 49 true, oG 53 (.bin .num .sub (.t 52) (.c (.int .i64 1))) 49 true, oG 54 (.call .full 112 [(.t 51), (.t 53)]) 49 true, oO 55 (.pick (.t 49) (.t 54) (.c (.bool false))), oV 4 55])
 (.ret)) (.seq (.reg [oO 57 (.bin .num .eql (.t 26) (.c (.int .i64 36))), oV 56 57])
 (.cond (.t 56) (.seq (.reg [oV 58 7, oV 59 58, oG 60 (.mv (.t 6)) 59 true, oG 61 (.bin .num .leq (.t 60) (.c (.int .i64 1))) 59 true, oO 62 (.pick (.t 59) (.t 61) (.c (.bool false))), oV 63 62, oG 64 (.fa 3 (.t 2)) 63 true, oG 65 (.ld none (.t 64)) 63 true, oG 66 (.mv (.t 1)) 63 true, oG 67 (.bin .num .sub (.t 66) (.c (.int .i64 1))) 63 true, oG 68 (.call .full 112 [(.t 65), (.t 67)]) 63 true, oO 69 (.pick (.t 63) (.t 68) (.c (.bool false))), oV 4 69])
 (.ret)) (.seq (.seq (.reg [oO 71 (.bin .num .eql (.t 26) (.c (.int .i64 39))), oV 70 71])
 (.cond (.t 70) (.skip) (.reg [oO 72 (.bin .num .eql (.t 26) (.c (.int .i64 40))), oV 70 72])))
 (.cond (.t 70) (.seq (.reg [oV 73 7, oV 74 73, oG 75 (.mv (.t 6)) 74 true, oG 76 (.bin .num .eql (.t 75) (.c (.int .i64 0))) 74 true, oO 77 (.pick (.t 74) (.t 76) (.c (.bool false))), oV 4 77])
 (.ret)) (.seq (.reg [oO 79 (.bin .num .eql (.t 26) (.c (.int .i64 32))), oV 78 79])
 (.cond (.t 78) (.seq (.seq (.reg [oO 8 (.mv (.c (.int .i64 0)))])
 (.block 1 (.loop (.seq (.seq (.reg [oV 80 8, oV 81 6, oO 82 (.bin .num .lss (.t 80) (.t 81))])
 (.cond (.t 82) (.skip) (.exit 1)))
 (.seq (.block 2 (.seq (.reg [oF 85 3 2, oL 86 85, oV 87 8, oO 88 (.ia 5 (.t 86) (.t 87)), oO 89 (.ld (some 5) (.t 88)), oV 90 1, oO 91 (.bin .num .sub (.t 90) (.c (.int .i64 1))), oO 92 (.call .full 76 [(.t 89), (.t 91)]), oO 93 (.un .not (.t 92))])
 (.cond (.t 93) (.seq (.reg [oO 4 (.mv (.c (.bool false)))])
 (.ret)) (.skip))))
 (.reg [oV 83 8, oO 84 (.bin .num .add (.t 83) (.c (.int .i64 1))), oV 8 84]))))))
 (.seq (.reg [oV 94 7, oV 4 94])
 (.ret))) (.seq (.reg [oO 96 (.bin .num .eql (.t 26) (.c (.int .i64 33))), oV 95 96])
 (.cond (.t 95) (.seq (.reg [oV 97 7, oV 98 97, oG 99 (.mv (.t 6)) 98 true, oG 100 (.bin .num .eql (.t 99) (.c (.int .i64 2))) 98 true, oG 101 (.mv (.t 100)) 98 true, oG 102 (.mv (.t 6)) 101 false, oG 103 (.bin .num .eql (.t 102) (.c (.int .i64 3))) 101 false, oG 104 (.pick (.t 101) (.c (.bool true)) (.t 103)) 98 true, oO 105 (.pick (.t 98) (.t 104) (.c (.bool false))), oV 106 105, oG 107 (.fa 3 (.t 2)) 106 true, oG 108 (.ld none (.t 107)) 106 true, oG 109 (.ia 5 (.t 108) (.c (.int .i64 0))) 106 true, oG 110 (.ld (some 5) (.t 109)) 106 true, oG 111 (.mv (.t 1)) 106 true, oG 112 (.bin .num .sub (.t 111) (.c (.int .i64 1))) 106 true, oG 113 (.call .full 113 [(.t 110), (.t 112)]) 106 true, oO 114 (.pick (.t 106) (.t 113) (.c (.bool false))), oV 115 114, oG 116 (.fa 3 (.t 2)) 115 true, oG 117 (.ld none (.t 116)) 115 true, oG 118 (.ia 5 (.t 117) (.c (.int .i64 1))) 115 true, oG 119 (.ld (some 5) (.t 118)) 115 true, oG 120 (.mv (.t 1)) 115 true, oG 121 (.bin .num .sub (.t 120) (.c (.int .i64 1))) 115 true, oG 122 (.call .full 48 [(.t 119), (.t 121)]) 115 true, oO 123 (.pick (.t 115) (.t 122) (.c (.bool false))), oV 124 123, oG 125 (.fa 3 (.t 2)) 124 true, oG 126 (.ld none (.t 125)) 124 true, oG 127 (.mv (.t 6)) 124 true, oG 128 (.bin .num .sub (.t 127) (.c (.int .i64 1))) 124 true, oG 129 (.ia 5 (.t 126) (.t 128)) 124 true, oG 130 (.ld (some 5) (.t 129)) 124 true, oG 131 (.mv (.t 1)) 124 true, oG 132 (.bin .num .sub (.t 131) (.c (.int .i64 1))) 124 true, oG 133 (.call .full 48 [(.t 130), (.t 132)]) 124 true, oO 134 (.pick (.t 124) (.t 133) (.c (.bool false))), oV 4 134])
 (.ret)) (.seq (.reg [oO 136 (.bin .num .eql (.t 26) (.c (.int .i64 34))), oV 135 136])
 (.cond (.t 135) (.seq (.reg [oV 137 7, oV 138 137, oG 139 (.mv (.t 6)) 138 true, oG 140 (.bin .num .eql (.t 139) (.c (.int .i64 2))) 138 true, oO 141 (.pick (.t 138) (.t 140) (.c (.bool false))), oV 142 141, oG 143 (.fa 3 (.t 2)) 142 true, oG 144 (.ld none (.t 143)) 142 true, oG 145 (.ia 5 (.t 144) (.c (.int .i64 0))) 142 true, oG 146 (.ld (some 5) (.t 145)) 142 true, oG 147 (.mv (.t 1)) 142 true, oG 148 (.bin .num .sub (.t 147) (.c (.int .i64 1))) 142 true, oG 149 (.call .full 113 [(.t 146), (.t 148)]) 142 true, oO 150 (.pick (.t 142) (.t 149) (.c (.bool false))), oV 151 150, oG 152 (.fa 3 (.t 2)) 151 true, oG 153 (.ld none (.t 152)) 151 true, oG 154 (.ia 5 (.t 153) (.c (.int .i64 1))) 151 true, oG 155 (.ld (some 5) (.t 154)) 151 true, oG 156 (.mv (.t 1)) 151 true, oG 157 (.bin .num .sub (.t 156) (.c (.int .i64 1))) 151 true, oG 158 (.call .full 48 [(.t 155), (.t 157)]) 151 true, oO 159 (.pick (.t 151) (.t 158) (.c (.bool false))), oV 4 159])
 (.ret)) (.seq (.reg [oO 161 (.bin .num .eql (.t 26) (.c (.int .i64 35))), oV 160 161])
 (.cond (.t 160) (.seq (.reg [oV 162 5, oV 163 162, oG 164 (.mv (.t 6)) 163 true, oG 165 (.bin .num .eql (.t 164) (.c (.int .i64 2))) 163 true, oO 166 (.pick (.t 163) (.t 165) (.c (.bool false))), oV 167 166, oG 168 (.fa 3 (.t 2)) 167 true, oG 169 (.ld none (.t 168)) 167 true, oG 170 (.ia 5 (.t 169) (.c (.int .i64 0))) 167 true, oG 171 (.ld (some 5) (.t 170)) 167 true, oG 172 (.mv (.t 1)) 167 true, oG 173 (.bin .num .sub (.t 172) (.c (.int .i64 1))) 167 true, oG 174 (.call .full 113 [(.t 171), (.t 173)]) 167 true, oO 175 (.pick (.t 167) (.t 174) (.c (.bool false))), oV 176 175, oG 177 (.fa 3 (.t 2)) 176 true, oG 178 (.ld none (.t 177)) 176 true, oG 179 (.ia 5 (.t 178) (.c (.int .i64 1))) 176 true, oG 180 (.ld (some 5) (.t 179)) 176 true, oG 181 (.mv (.t 1)) 176 true, oG 182 (.bin .num .sub (.t 181) (.c (.int .i64 1))) 176 true, oG 183 (.call .full 48 [(.t 180), (.t 182)]) 176 true, oO 184 (.pick (.t 176) (.t 183) (.c (.bool false))), oV 4 184])
 (.ret)) (.seq (.reg [oO 186 (.bin .num .eql (.t 26) (.c (.int .i64 38))), oV 185 186])
 (.cond (.t 185) (.seq (.reg [oV 187 5, oV 188 187, oG 189 (.mv (.t 6)) 188 true, oG 190 (.bin .num .eql (.t 189) (.c (.int .i64 2))) 188 true, oO 191 (.pick (.t 188) (.t 190) (.c (.bool false))), oV 192 191, oG 193 (.fa 3 (.t 2)) 192 true, oG 194 (.ld none (.t 193)) 192 true, oG 195 (.ia 5 (.t 194) (.c (.int .i64 0))) 192 true, oG 196 (.ld (some 5) (.t 195)) 192 true, oG 197 (.mv (.t 1)) 192 true, oG 198 (.bin .num .sub (.t 197) (.c (.int .i64 1))) 192 true, oG 199 (.call .full 48 [(.t 196), (.t 198)]) 192 true, oO 200 (.pick (.t 192) (.t 199) (.c (.bool false))), oV 201 200, oG 202 (.fa 3 (.t 2)) 201 true, oG 203 (.ld none (.t 202)) 201 true, oG 204 (.ia 5 (.t 203) (.c (.int .i64 1))) 201 true, oG 205 (.ld (some 5) (.t 204)) 201 true, oG 206 (.mv (.t 1)) 201 true, oG 207 (.bin .num .sub (.t 206) (.c (.int .i64 1))) 201 true, oG 208 (.call .full 48 [(.t 205), (.t 207)]) 201 true, oO 209 (.pick (.t 201) (.t 208) (.c (.bool false))), oV 4 209])
 (.ret)) (.seq (.reg [oO 211 (.bin .num .eql (.t 26) (.c (.int .i64 41))), oV 210 211])
 (.cond (.t 210) (.seq (.reg [oV 212 5, oV 213 212, oG 214 (.fa 3 (.t 2)) 213 true, oG 215 (.ld none (.t 214)) 213 true, oG 216 (.mv (.t 1)) 213 true, oG 217 (.bin .num .sub (.t 216) (.c (.int .i64 1))) 213 true, oG 218 (.call .full 114 [(.t 215), (.t 217)]) 213 true, oO 219 (.pick (.t 213) (.t 218) (.c (.bool false))), oV 4 219])
 (.ret)) (.skip)))))))))))))))))))))))
 (.seq (.reg [oO 4 (.mv (.c (.bool false)))])
 (.ret)))))))⟩
def a77 : AFn := ⟨12, [],
 .seq (.reg [oO 2 (.box 24 (.t 0)), oO 3 (.box 33 (.t 1))])
 (.scope (.seq (.skip)
 (.seq (.reg [oO 5 (.ld (some 5) (.t 2)), oO 6 (.call .no 115 [(.t 5)])])
 (.block 0 (.rf (.t 6) [7] (.reg [oO 4 (.alloc 24 [(.int .i64 0), (.str ⟨#[]⟩), (.int .i64 0), .nils, (.int .i64 0)]), oS (.st 5 (.t 4) (.t 7))]) (.block 1 (.seq (.reg [oL 8 3, oO 9 (.ld (some 5) (.t 4)), oO 10 (.callv .no (.t 8) [(.t 9)]), oO 11 (.un .not (.t 10))])
 (.cond (.t 11) (.exit 0) (.skip)))))))))⟩
def a78 : AFn := ⟨6, [.tmp 3],
 .seq (.reg [oO 2 (.box 24 (.t 0)), oO 3 (.mv (.c (.bool false)))])
 (.seq (.reg [oL 4 1, oO 5 (.bin .num .add (.t 4) (.c (.int .i64 1))), oS (.st 1 (.t 1) (.t 5))])
 (.seq (.reg [oO 3 (.mv (.c (.bool true)))])
 (.ret)))⟩
def asg79 : ACode := (.seq (.reg [oV 13 106])
 (.reg [oO 14 (.alloc 24 [(.int .i64 0), (.str ⟨#[]⟩), (.int .i64 0), .nils, (.int .i64 0)]), oS (.st 5 (.t 14) (.t 107))]))
def body79 : ACode := (.block 1 (.seq (.seq (.reg [oF 108 0 14, oL 109 108, oO 110 (.bin .num .neq (.t 109) (.c (.int .i64 32)))])
 (.cond (.t 110) (.exit 1) (.skip)))
 (.reg [oL 111 3, oO 112 (.ld (some 5) (.t 14)), oV 113 13, oL 114 6, oL 115 12, oO 116 (.build [(.int .i64 0), (.int .i64 0), (.int .i64 0)] [(0, 1, (.t 113)), (1, 1, (.t 114)), (2, 1, (.t 115))]), oO 117 (.call .no 52 [(.t 111), (.t 112), (.t 116), (.c (.bool true))])])))
def y79c : ACode := (.seq (.reg [oL 96 3, oL 97 6, oO 98 (.call .no 51 [(.t 96), (.t 97)]), oV 95 98, oO 99 (.ext 0 (.t 95)), oO 100 (.ext 1 (.t 95)), oO 101 (.ext 2 (.t 95)), oO 12 (.alloc 3 [(.int .i64 0)]), oV 10 99, oV 11 100, oS (.st 1 (.t 12) (.t 101))])
 (.seq (.skip)
 (.seq (.reg [oO 102 (.ld (some 5) (.t 4)), oF 103 0 5, oL 104 103, oO 105 (.call .no 80 [(.t 102), (.t 104)])])
 (.block 0 (.rf (.t 105) [106, 107] asg79 body79)))))
def y79b : ACode := (.seq (.seq (.reg [oV 60 7, oF 61 1 4, oL 62 61, oO 63 (.call .full 116 [(.t 60), (.t 62)]), oV 9 63])
 (.seq (.dreg [(oF 64 0 4, 0), (oL 65 64, 1), (oO 66 (.bin .num .eql (.t 65) (.c (.int .i64 10))), 3), (oV 67 66, 7), (oG 68 (.mv (.t 9)) 67 true, 15), (oG 69 (.ld none (.t 3)) 67 true, 15), (oG 70 (.nck (.t 69)) 67 true, 47), (oG 71 (.fa 0 (.t 70)) 67 true, 111), (oG 72 (.ld none (.t 71)) 67 true, 239), (oG 73 (.ld none (.t 6)) 67 true, 15), (oG 74 (.ia 5 (.t 72) (.t 73)) 67 true, 1007), (oG 75 (.fa 2 (.t 74)) 67 true, 2031), (oG 76 (.ld none (.t 75)) 67 true, 4079), (oG 77 (.bin .num .geq (.t 68) (.t 76)) 67 true, 8191), (oO 78 (.pick (.t 67) (.t 77) (.c (.bool false))), 16383)])
 (.cond (.t 78) (.seq (.dreg [(oL 79 3, 0), (oN 80 79, 1), (oF 81 1 80, 3), (oL 82 81, 7), (oL 83 6, 0), (oO 84 (.ia 1 (.t 82) (.t 83)), 31), (oL 85 84, 63), (oV 86 9, 0), (oO 87 (.bin .num .add (.t 85) (.t 86)), 255), (oF 88 2 8, 511), (oS (.st 1 (.t 88) (.t 87)), 1023)])
 (.reg [oL 89 3, oF 90 1 5, oL 91 90, oO 92 (.ld (some 9) (.t 8)), oO 93 (.bsl true 9 1 [(.int .i64 0), (.int .i64 0), (.int .i64 0), (.int .i64 0), (.int .i64 0), (.int .i64 0), (.int .i64 0), (.str ⟨#[]⟩), .nils] [(0, 9, (.t 92))]), oO 94 (.call .no 117 [(.t 89), (.t 91), (.t 93)])])) (.skip))))
 y79c)
def y79a : ACode := .seq (.reg [oO 3 (.box 78 (.t 0)), oO 4 (.box 24 (.t 1)), oO 5 (.box 87 (.t 2))])
 (.scope (.seq (.reg [oF 15 2 4, oL 16 15, oO 6 (.alloc 3 [(.int .i64 0)]), oS (.st 1 (.t 6) (.t 16))])
 (.seq (.dreg [(oL 17 3, 0), (oN 18 17, 1), (oF 19 0 18, 3), (oL 20 19, 7), (oL 21 6, 0), (oO 22 (.ia 5 (.t 20) (.t 21)), 31), (oF 23 3 22, 63), (oL 24 23, 127), (oV 7 24, 255)])
 (.seq (.reg [oF 25 0 5, oL 26 25, oL 27 6, oO 28 (.build [(.int .i64 0), (.int .i64 0), (.int .i64 0), (.int .i64 0), (.int .i64 0), (.int .i64 0), (.int .i64 0), (.str ⟨#[]⟩), .nils] [(0, 1, (.c (.int .i64 2))), (2, 1, (.t 26)), (5, 1, (.t 27))]), oO 8 (.alloc 55 [(.int .i64 0), (.int .i64 0), (.int .i64 0), (.int .i64 0), (.int .i64 0), (.int .i64 0), (.int .i64 0), (.str ⟨#[]⟩), .nils]), oS (.st 9 (.t 8) (.t 28))])
 (.seq (.seq (.reg [oF 29 0 4, oL 30 29, oO 31 (.bin .num .eql (.t 30) (.c (.int .i64 41)))])
 (.cond (.t 31) (.dreg [(oL 32 3, 0), (oN 33 32, 1), (oF 34 1 33, 3), (oL 35 34, 7), (oF 36 1 5, 0), (oL 37 36, 16), (oO 38 (.ia 1 (.t 35) (.t 37)), 63), (oL 39 38, 127), (oL 40 3, 0), (oN 41 40, 256), (oF 42 0 41, 768), (oL 43 42, 1792), (oF 44 1 5, 0), (oL 45 44, 4096), (oO 46 (.ia 5 (.t 43) (.t 45)), 16128), (oF 47 3 46, 32512), (oL 48 47, 65280), (oF 49 1 4, 0), (oL 50 49, 131072), (oO 51 (.call .full 116 [(.t 48), (.t 50)]), 524032), (oO 52 (.bin .num .add (.t 39) (.t 51)), 1048575), (oF 53 2 8, 2097151), (oS (.st 1 (.t 53) (.t 52)), 4194303)]) (.skip)))
 (.seq (.reg [oL 54 3, oF 55 1 5, oL 56 55, oO 57 (.ld (some 9) (.t 8)), oO 58 (.bsl true 9 1 [(.int .i64 0), (.int .i64 0), (.int .i64 0), (.int .i64 0), (.int .i64 0), (.int .i64 0), (.int .i64 0), (.str ⟨#[]⟩), .nils] [(0, 9, (.t 57))]), oO 59 (.call .no 117 [(.t 54), (.t 56), (.t 58)])])
 y79b))))))
def a79 : AFn := ⟨118, [], y79a⟩
def a80 : AFn := ⟨6, [.tmp 4],
 .seq (.reg [oO 2 (.box 24 (.t 0)), oO 3 (.box 3 (.t 1)), oO 4 (.mv (.c .nilf))])
 (.seq (.reg [oO 5 (.mkf 118 [] [(.t 3), (.t 2)]), oV 4 5])
 (.ret))⟩
def a81 : AFn := ⟨33, [.tmp 2],
 .seq (.reg [oO 2 (.mv (.c .nilm))])
 (.seq (.reg [oO 3 (.mkm), oV 4 0, oO 5 (.mkf 119 [(.t 4)] []), oS (.upd false (.t 3) (.c (.int .i64 1)) (.t 5)), oV 6 0, oO 7 (.mkf 120 [(.t 6)] []), oS (.upd false (.t 3) (.c (.int .i64 8)) (.t 7)), oV 8 0, oO 9 (.mkf 121 [(.t 8)] []), oS (.upd false (.t 3) (.c (.int .i64 11)) (.t 9)), oV 10 0, oO 11 (.mkf 122 [(.t 10)] []), oS (.upd false (.t 3) (.c (.int .i64 13)) (.t 11)), oV 12 0, oO 13 (.mkf 122 [(.t 12)] []), oS (.upd false (.t 3) (.c (.int .i64 14)) (.t 13)), oV 14 0, oO 15 (.mkf 123 [(.t 14)] []), oS (.upd false (.t 3) (.c (.int .i64 17)) (.t 15)), oV 16 0, oO 17 (.mkf 124 [(.t 16)] []), oS (.upd false (.t 3) (.c (.int .i64 21)) (.t 17)), oV 18 0, oO 19 (.mkf 124 [(.t 18)] []), oS (.upd false (.t 3) (.c (.int .i64 22)) (.t 19)), oV 20 0, oO 21 (.mkf 124 [(.t 20)] []), oS (.upd false (.t 3) (.c (.int .i64 23)) (.t 21)), oV 22 0, oO 23 (.mkf 125 [(.t 22)] []), oS (.upd false (.t 3) (.c (.int .i64 15)) (.t 23)), oV 24 0, oO 25 (.mkf 125 [(.t 24)] []), oS (.upd false (.t 3) (.c (.int .i64 16)) (.t 25)), oV 26 0, oO 27 (.mkf 126 [(.t 26)] []), oS (.upd false (.t 3) (.c (.int .i64 30)) (.t 27)), oV 28 0, oO 29 (.mkf 127 [(.t 28)] []), oS (.upd false (.t 3) (.c (.int .i64 36)) (.t 29)), oV 30 0, oO 31 (.mkf 127 [(.t 30)] []), oS (.upd false (.t 3) (.c (.int .i64 37)) (.t 31)), oV 32 3, oV 2 32])
 (.ret))⟩
def a82 : AFn := ⟨16, [.tmp 4],
 .seq (.reg [oO 4 (.mv (.c (.int .i64 0)))])
 (.seq (.reg [oV 5 0, oN 6 5, oF 7 1 6, oL 8 7, oV 9 1, oO 10 (.bin .num .quo (.t 9) (.c (.int .i64 1000))), oO 11 (.ia 1 (.t 8) (.t 10)), oL 12 11, oV 13 1, oO 14 (.bin .num .rem (.t 13) (.c (.int .i64 1000))), oO 15 (.bin .num .add (.t 12) (.t 14)), oV 4 15])
 (.ret))⟩
def a87 : AFn := ⟨22, [.tmp 2],
 .seq (.reg [oO 2 (.mv (.c (.bool false)))])
 (.seq (.reg [oV 3 0, oO 4 (.bin .str .neq (.t 3) (.c (.str ⟨#[]⟩))), oV 5 4, oG 6 (.mv (.t 0)) 5 true, oG 7 (.ixs (.t 6) (.c (.int .i64 0))) 5 true, oG 8 (.call .full 131 [(.t 7)]) 5 true, oO 9 (.pick (.t 5) (.t 8) (.c (.bool false))), oV 10 9, oG 11 (.mv (.t 0)) 10 true, oG 12 (.call .full 132 [(.t 11)]) 10 true, oG 13 (.mv (.t 0)) 10 true, oG 14 (.len true (.t 13)) 10 true, oG 15 (.bin .num .eql (.t 12) (.t 14)) 10 true, oO 16 (.pick (.t 10) (.t 15) (.c (.bool false))), oV 17 16, oG 18 (.mv (.t 0)) 17 true, oG 19 (.call .full 133 [(.t 18)]) 17 true, oG 20 (.un .not (.t 19)) 17 true, oO 21 (.pick (.t 17) (.t 20) (.c (.bool false))), oV 2 21])
 (.ret))⟩
def a88 : AFn := ⟨5, [.tmp 2],
 .seq (.reg [oO 2 (.mv (.c (.bool false)))])
 (.seq (.reg [oV 3 0, oO 4 (.bin .str .eql (.t 3) (.c (.str ⟨#[]⟩))), oV 2 4])
 (.ret))⟩
def a89 : AFn := ⟨3, [.tmp 2],
 .seq (.reg [oO 2 (.mv (.c (.bool false)))])
 (.seq (.reg [oO 2 (.mv (.c (.bool true)))])
 (.ret))⟩
def a90 : AFn := ⟨9, [.tmp 2],
 .seq (.reg [oO 2 (.mv (.c (.bool false)))])
 (.seq (.reg [oV 3 0, oO 4 (.bin .str .eql (.t 3) (.c (.str ⟨#[]⟩))), oV 5 4, oG 6 (.mv (.t 0)) 5 false, oG 7 (.call .full 87 [(.t 6)]) 5 false, oO 8 (.pick (.t 5) (.c (.bool true)) (.t 7)), oV 2 8])
 (.ret))⟩
def a91 : AFn := ⟨9, [.tmp 2],
 .seq (.reg [oO 2 (.mv (.c (.bool false)))])
 (.seq (.reg [oV 3 0, oO 4 (.call .full 87 [(.t 3)]), oV 5 4, oG 6 (.mv (.t 0)) 5 false, oG 7 (.call .full 133 [(.t 6)]) 5 false, oO 8 (.pick (.t 5) (.c (.bool true)) (.t 7)), oV 2 8])
 (.ret))⟩
def a92 : AFn := ⟨10, [.tmp 2],
 .seq (.reg [oO 2 (.mv (.c (.bool false)))])
 (.seq (.reg [oV 3 0, oO 4 (.bin .str .neq (.t 3) (.c (.str ⟨#[]⟩))), oV 5 4, oG 6 (.call .full 135 [(.c (.str ⟨#[43, 32, 45, 32, 42, 32, 60, 32, 60, 61, 32, 61, 61, 61, 32, 33, 61, 61]⟩))]) 5 true, oG 7 (.mv (.t 0)) 5 true, oG 8 (.call .full 134 [(.t 6), (.t 7)]) 5 true, oO 9 (.pick (.t 5) (.t 8) (.c (.bool false))), oV 2 9])
 (.ret))⟩
def a93 : AFn := ⟨38, [.tmp 4],
 .seq (.reg [oO 2 (.box 24 (.t 0)), oO 4 (.mv (.c .nilf))])
 (.seq (.reg [oO 5 (.mv (.c (.fn 136 [] [])))])
 (.seq (.reg [oO 6 (.mv (.c (.fn 137 [] [])))])
 (.seq (.seq (.reg [oF 7 0 2, oL 8 7])
 (.block 0 (.seq (.seq (.reg [oO 10 (.bin .num .eql (.t 8) (.c (.int .i64 10))), oV 9 10])
 (.cond (.t 9) (.skip) (.reg [oO 11 (.bin .num .eql (.t 8) (.c (.int .i64 41))), oV 9 11])))
 (.cond (.t 9) (.seq (.seq (.reg [oV 12 1, oF 13 3 2, oL 14 13, oO 15 (.len false (.t 14)), oO 16 (.bin .num .sub (.t 15) (.c (.int .i64 1))), oO 17 (.bin .num .eql (.t 12) (.t 16))])
 (.cond (.t 17) (.seq (.reg [oV 18 5, oV 4 18])
 (.ret)) (.skip)))
 (.seq (.reg [oO 4 (.mv (.c (.fn 139 [] [])))])
 (.ret))) (.seq (.reg [oO 20 (.bin .num .eql (.t 8) (.c (.int .i64 11))), oV 19 20])
 (.cond (.t 19) (.seq (.reg [oO 4 (.mv (.c (.fn 140 [] [])))])
 (.ret)) (.seq (.reg [oO 22 (.bin .num .eql (.t 8) (.c (.int .i64 32))), oV 21 22])
 (.cond (.t 21) (.seq (.reg [oO 4 (.mv (.c (.fn 141 [] [])))])
 (.ret)) (.seq (.reg [oO 24 (.bin .num .eql (.t 8) (.c (.int .i64 17))), oV 23 24])
 (.cond (.t 23) (.seq (.reg [oV 25 1, oO 26 (.bin .num .eql (.t 25) (.c (.int .i64 0)))])
 (.cond (.t 26) (.seq (.reg [oO 4 (.mv (.c (.fn 142 [] [])))])
 (.ret)) (.skip))) (.seq (.reg [oO 28 (.bin .num .eql (.t 8) (.c (.int .i64 38))), oV 27 28])
 (.cond (.t 27) (.seq (.reg [oV 29 5, oV 4 29])
 (.ret)) (.seq (.seq (.reg [oO 31 (.bin .num .eql (.t 8) (.c (.int .i64 33))), oV 30 31])
 (.cond (.t 30) (.skip) (.seq (.reg [oO 32 (.bin .num .eql (.t 8) (.c (.int .i64 34))), oV 30 32])
 (.cond (.t 30) (.skip) (.reg [oO 33 (.bin .num .eql (.t 8) (.c (.int .i64 35))), oV 30 33])))))
 (.cond (.t 30) (.seq (.reg [oV 34 1, oO 35 (.bin .num .gtr (.t 34) (.c (.int .i64 0)))])
 (.cond (.t 35) (.seq (.reg [oV 36 5, oV 4 36])
 (.ret)) (.skip))) (.skip)))))))))))))))
 (.seq (.reg [oV 37 6, oV 4 37])
 (.ret)))))⟩
def a94 : AFn := ⟨40, [],
 .seq (.reg [oV 7 0, oN 8 7, oF 9 5 8, oL 10 9, oV 11 1, oO 12 (.lkp true (.int .i64 0) true (.t 10) (.t 11)), oV 6 12, oO 13 (.ext 0 (.t 6)), oO 14 (.ext 1 (.t 6)), oV 4 13, oV 5 14])
 (.seq (.reg [oV 15 5, oO 16 (.un .not (.t 15))])
 (.cond (.t 16) (.seq (.dreg [(oV 17 0, 0), (oN 18 17, 1), (oF 19 5 18, 3), (oL 20 19, 7), (oV 21 1, 0), (oV 22 0, 0), (oN 23 22, 32), (oF 24 0 23, 96), (oF 25 3 24, 224), (oL 26 25, 480), (oO 27 (.len false (.t 26)), 992), (oS (.upd true (.t 20) (.t 21) (.t 27)), 2047)])
 (.reg [oV 28 0, oV 29 0, oN 30 29, oF 31 0 30, oF 32 3 31, oL 33 32, oV 34 1, oO 35 (.bsl true 1 1 [(.str ⟨#[]⟩)] [(0, 1, (.t 34))]), oO 36 (.app 1 16 (.t 33) (.t 35)), oN 37 28, oF 38 0 37, oF 39 3 38, oS (.st 1 (.t 39) (.t 36))])) (.skip)))⟩
def a95 : AFn := ⟨4, [.tmp 2],
 .seq (.reg [oO 1 (.box 24 (.t 0)), oO 2 (.mv (.c .nilf))])
 (.seq (.reg [oO 3 (.mkf 143 [] [(.t 1)]), oV 2 3])
 (.ret))⟩
def a96 : AFn := ⟨11, [.tmp 2],
 .seq (.reg [oO 1 (.box 24 (.t 0)), oO 2 (.mv (.c (.bool false)))])
 (.seq (.reg [oF 3 0 1, oL 4 3, oO 5 (.bin .num .eql (.t 4) (.c (.int .i64 41))), oV 6 5, oG 7 (.fa 0 (.t 1)) 6 false, oG 8 (.ld none (.t 7)) 6 false, oG 9 (.bin .num .eql (.t 8) (.c (.int .i64 10))) 6 false, oO 10 (.pick (.t 6) (.c (.bool true)) (.t 9)), oV 2 10])
 (.ret))⟩
def a97 : AFn := ⟨77, [.cell 6 (some 5)],
 .seq (.reg [oO 4 (.box 24 (.t 1)), oO 6 (.alloc 24 [(.int .i64 0), (.str ⟨#[]⟩), (.int .i64 0), .nils, (.int .i64 0)])])
 (.seq (.reg [oF 12 3 4, oL 13 12, oO 14 (.len false (.t 13)), oO 15 (.bin .num .sub (.t 14) (.c (.int .i64 1))), oV 7 15])
 (.seq (.reg [oO 8 (.mv (.c (.str ⟨#[]⟩)))])
 (.seq (.seq (.reg [oF 16 0 4, oL 17 16, oO 18 (.bin .num .eql (.t 17) (.c (.int .i64 10)))])
 (.cond (.t 18) (.reg [oF 19 1 4, oL 20 19, oV 8 20]) (.skip)))
 (.seq (.dreg [(oV 21 0, 0), (oV 22 2, 0), (oF 23 1 4, 0), (oL 24 23, 4), (oV 25 0, 0), (oO 26 (.call .keep 99 [(.t 25), (.c (.int .i64 2))]), 16), (oO 27 (.build [(.int .i64 0), (.str ⟨#[]⟩), (.int .i64 0), .nils, (.int .i64 0)] [(0, 1, (.t 22)), (1, 1, (.t 24)), (4, 1, (.t 26))]), 62), (oF 28 3 4, 0), (oL 29 28, 128), (oV 30 7, 0), (oO 31 (.slc (some 5) (.t 29) none (some (.t 30))), 896), (oV 32 8, 0), (oF 33 3 4, 0), (oL 34 33, 4096), (oV 35 7, 0), (oO 36 (.ia 5 (.t 34) (.t 35)), 28672), (oO 37 (.ld (some 5) (.t 36)), 61440), (oO 38 (.call .no 62 [(.t 27), (.t 31), (.t 32), (.t 37)]), 131070), (oF 39 4 4, 0), (oL 40 39, 262144), (oO 41 (.call .no 61 [(.t 21), (.t 38), (.t 40)]), 1048575), (oV 9 41, 2097151)])
 (.seq (.reg [oV 42 9, oF 43 2 4, oS (.st 1 (.t 43) (.t 42))])
 (.seq (.reg [oF 44 3 4, oL 45 44, oO 46 (.call .no 144 [(.t 45)]), oV 10 46])
 (.seq (.seq (.reg [oV 47 7, oO 48 (.mv (.c (.int .i64 0)))])
 (.block 0 (.loop (.seq (.reg [oO 49 (.bin .num .lss (.t 48) (.t 47))])
 (.seq (.cond (.t 49) (.skip) (.exit 0))
 (.seq (.block 1 (.seq (.reg [oV 50 48, oV 11 50])
 (.reg [oV 51 10, oV 52 11, oV 53 0, oV 54 9, oV 55 10, oV 56 11, oO 57 (.ia 5 (.t 55) (.t 56)), oF 58 1 57, oL 59 58, oO 60 (.call .full 98 [(.t 53), (.t 54), (.t 59)]), oO 61 (.ia 5 (.t 51) (.t 52)), oF 62 2 61, oS (.st 1 (.t 62) (.t 60))])))
 (.reg [oO 63 (.bin .num .add (.t 48) (.c (.int .i64 1))), oV 48 63])))))))
 (.seq (.reg [oV 64 10, oV 65 7, oV 66 0, oV 67 10, oV 68 7, oO 69 (.ia 5 (.t 67) (.t 68)), oO 70 (.ld (some 5) (.t 69)), oV 71 9, oO 72 (.call .no 63 [(.t 66), (.t 70), (.t 71), (.c (.bool false))]), oO 73 (.ia 5 (.t 64) (.t 65)), oS (.st 5 (.t 73) (.t 72))])
 (.seq (.reg [oO 74 (.frz (.t 10)), oF 75 3 4, oS (.st 1 (.t 75) (.t 74))])
 (.seq (.reg [oO 76 (.ld (some 5) (.t 4)), oS (.st 5 (.t 6) (.t 76))])
 (.ret)))))))))))⟩
def a98 : AFn := ⟨44, [.tmp 6],
 .seq (.reg [oO 6 (.mv (.c (.int .i64 0)))])
 (.scope (.seq (.reg [oO 7 (.mv (.c (.int .i64 (-1))))])
 (.seq (.skip)
 (.seq (.block 0 (.loop (.seq (.seq (.reg [oV 10 1, oO 11 (.bin .num .geq (.t 10) (.c (.int .i64 0)))])
 (.cond (.t 11) (.skip) (.exit 0)))
 (.seq (.block 1 (.seq (.reg [oV 24 0, oN 25 24, oF 26 0 25, oL 27 26, oV 28 1, oO 29 (.ia 1 (.t 27) (.t 28)), oL 30 29, oN 31 30, oF 32 5 31, oL 33 32, oV 34 2, oO 35 (.lkp true (.int .i64 0) true (.t 33) (.t 34)), oV 23 35, oO 36 (.ext 0 (.t 23)), oO 37 (.ext 1 (.t 23)), oV 8 36, oV 9 37])
 (.seq (.reg [oV 38 9])
 (.cond (.t 38) (.seq (.reg [oV 39 1, oO 40 (.bin .num .mul (.t 39) (.c (.int .i64 1000))), oV 41 8, oO 42 (.bin .num .add (.t 40) (.t 41)), oV 7 42])
 (.exit 0)) (.skip)))))
 (.reg [oV 12 0, oN 13 12, oF 14 0 13, oL 15 14, oV 16 1, oO 17 (.ia 1 (.t 15) (.t 16)), oL 18 17, oN 19 18, oF 20 0 19, oF 21 0 20, oL 22 21, oV 1 22])))))
 (.seq (.reg [oV 43 7, oV 6 43])
 (.ret))))))⟩
def a99 : AFn := ⟨19, [.tmp 4],
 .seq (.reg [oO 4 (.mv (.c (.int .i64 0)))])
 (.seq (.reg [oV 5 0, oN 6 5, oF 7 1 6, oL 8 7, oV 9 1, oO 10 (.bin .num .add (.t 8) (.t 9)), oN 11 5, oF 12 1 11, oS (.st 1 (.t 12) (.t 10))])
 (.seq (.reg [oV 13 0, oN 14 13, oF 15 1 14, oL 16 15, oV 17 1, oO 18 (.bin .num .sub (.t 16) (.t 17)), oV 4 18])
 (.ret)))⟩
def a103 : AFn := ⟨30, [.cell 4 (some 5)],
 .seq (.reg [qo 4 (.alloc 130 z6)])
 (.seq (.seq (.dreg [(qv 5 0, 0), (qn 6 5, 1), (qf 7 1 6, 3), (ql 8 7, 7), (qv 9 1, 0), (qo 10 (.bin .num .add (.t 8) (.t 9)), 31), (qv 11 0, 0), (qn 12 11, 64), (qf 13 0 12, 192), (ql 14 13, 448), (qo 15 (.len false (.t 14)), 960), (qo 16 (.bin .num .lss (.t 10) (.t 15)), 2047)])
 (.cond (.t 16) (.seq (.dreg [(qv 17 0, 0), (qn 18 17, 1), (qf 19 0 18, 3), (ql 20 19, 7), (qv 21 0, 0), (qn 22 21, 16), (qf 23 1 22, 48), (ql 24 23, 112), (qv 25 1, 0), (qo 26 (.bin .num .add (.t 24) (.t 25)), 496), (qo 27 (.ia 5 (.t 20) (.t 26)), 1023), (qo 28 (.ld (some 5) (.t 27)), 2047), (⟨none, .st 5 (.t 4) (.t 28), none⟩, 4095)])
 (.ret)) (.skip)))
 (.seq (.reg [qo 29 (.build z6 []), ⟨none, .st 5 (.t 4) (.t 29), none⟩])
 (.ret)))⟩
def a104 : AFn := ⟨29, [.tmp 4],
 .seq (.reg [qo 4 (.mv (.c (.bool false)))])
 (.seq (.reg [qv 6 0, qo 7 (.call .no 103 [(.t 6), (qi 0)]), qo 5 (.alloc 130 z6), ⟨none, .st 5 (.t 5) (.t 7), none⟩])
 (.seq (.reg [qv 8 0, qn 9 8, qf 10 2 9, ql 11 10, qo 12 (.bin .num .eql (.t 11) (qi 0)), qv 13 12, qg 14 (.fa 0 (.t 5)) 13 true, qg 15 (.ld none (.t 14)) 13 true, qg 16 (.bin .num .eql (.t 15) (qi 5)) 13 true, qg 17 (.mv (.t 16)) 13 true, qg 18 (.fa 0 (.t 5)) 17 false, qg 19 (.ld none (.t 18)) 17 false, qg 20 (.bin .num .eql (.t 19) (qi 2)) 17 false, qg 21 (.pick (.t 17) (.c (.bool true)) (.t 20)) 13 true, qo 22 (.pick (.t 13) (.t 21) (.c (.bool false))), qv 23 22, qg 24 (.fa 1 (.t 5)) 23 true, qg 25 (.ld none (.t 24)) 23 true, qg 26 (.mv (.t 1)) 23 true, qg 27 (.bin .str .eql (.t 25) (.t 26)) 23 true, qo 28 (.pick (.t 23) (.t 27) (.c (.bool false))), qv 4 28])
 (.ret)))⟩
def a105 : AFn := ⟨18, [.tmp 4],
 .seq (.reg [qo 4 (.mv (.c (.bool false)))])
 (.seq (.reg [qv 6 0, qv 7 1, qo 8 (.call .no 104 [(.t 6), (.t 7)]), qv 5 8])
 (.seq (.seq (.reg [qv 9 5])
 (.cond (.t 9) (.reg [qv 10 0, qn 11 10, qf 12 1 11, ql 13 12, qo 14 (.bin .num .add (.t 13) (qi 1)), qn 15 10, qf 16 1 15, ⟨none, .st 1 (.t 16) (.t 14), none⟩]) (.skip)))
 (.seq (.reg [qv 17 5, qv 4 17])
 (.ret))))⟩
def a106 : AFn := ⟨72, [.cell 2 (some 5)],
 .seq (.reg [qo 2 (.alloc 24 z5)])
 (.seq (.reg [qv 7 0, qo 8 (.call .no 103 [(.t 7), (qi 0)]), qo 3 (.alloc 130 z6), ⟨none, .st 5 (.t 3) (.t 8), none⟩])
 (.seq (.reg [qf 9 3 3, ql 10 9, qo 11 (.build z5 [(4, 1, (.t 10))]), qo 4 (.alloc 24 z5), ⟨none, .st 5 (.t 4) (.t 11), none⟩])
 (.seq (.seq (.reg [qf 12 0 3, ql 13 12, qo 14 (.bin .num .eql (.t 13) (qi 5)), qv 15 14, qg 16 (.fa 1 (.t 3)) 15 true, qg 17 (.ld none (.t 16)) 15 true, qg 18 (.bin .str .eql (.t 17) (qs #[123])) 15 true, qo 19 (.pick (.t 15) (.t 18) (.c (.bool false)))])
 (.cond (.t 19) (.seq (.reg [qv 20 0, qo 21 (.call .no 145 [(.t 20)]), ⟨none, .st 5 (.t 2) (.t 21), none⟩])
 (.ret)) (.skip)))
 (.seq (.seq (.reg [qf 22 0 3, ql 23 22, qo 24 (.bin .num .eql (.t 23) (qi 2))])
 (.cond (.t 24) (.seq (.reg [qv 25 0, qf 26 1 3, ql 27 26, qo 28 (.call .no 146 [(.t 25), (.t 4), (.t 27)]), qv 5 28])
 (.seq (.reg [qv 29 5])
 (.cond (.t 29) (.seq (.reg [qo 30 (.ld (some 5) (.t 4)), ⟨none, .st 5 (.t 2) (.t 30), none⟩])
 (.ret)) (.skip)))) (.skip)))
 (.seq (.reg [qv 31 0, qo 32 (.call .no 103 [(.t 31), (qi 1)]), qo 6 (.alloc 130 z6), ⟨none, .st 5 (.t 6) (.t 32), none⟩])
 (.seq (.seq (.reg [qf 33 0 3, ql 34 33, qo 35 (.bin .num .eql (.t 34) (qi 1)), qv 36 35, qg 37 (.fa 0 (.t 6)) 36 true, qg 38 (.ld none (.t 37)) 36 true, qg 39 (.bin .num .eql (.t 38) (qi 5)) 36 true, qo 40 (.pick (.t 36) (.t 39) (.c (.bool false))), qv 41 40, qg 42 (.fa 1 (.t 6)) 41 true, qg 43 (.ld none (.t 42)) 41 true, qg 44 (.bin .str .eql (.t 43) (qs #[58])) 41 true, qo 45 (.pick (.t 41) (.t 44) (.c (.bool false)))])
 (.cond (.t 45) (.seq (.reg [qf 46 1 3, ql 47 46, qo 48 (.bin .str .neq (.t 47) (qs #[101, 118, 97, 108])), qv 49 48, qg 50 (.fa 1 (.t 3)) 49 true, qg 51 (.ld none (.t 50)) 49 true, qg 52 (.bin .str .neq (.t 51) (qs #[97, 114, 103, 117, 109, 101, 110, 116, 115])) 49 true, qo 53 (.pick (.t 49) (.t 52) (.c (.bool false)))])
 (.cond (.t 53) (.seq (.reg [qv 54 0, qn 55 54, qf 56 1 55, ql 57 56, qo 58 (.bin .num .add (.t 57) (qi 1)), qn 59 54, qf 60 1 59, ⟨none, .st 1 (.t 60) (.t 58), none⟩])
 (.seq (.reg [qv 61 0, qo 62 (.call .no 107 [(.t 61), (qi 45)])])
 (.seq (.reg [qo 63 (.ld (some 5) (.t 4)), ⟨none, .st 5 (.t 2) (.t 63), none⟩])
 (.ret)))) (.skip))) (.skip)))
 (.seq (.reg [qf 64 0 4, ⟨none, .st 1 (.t 64) (qi 31), none⟩])
 (.seq (.reg [qv 65 0, qo 66 (.call .no 147 [(.t 65)]), qo 67 (.bsl true 5 1 z5 [(0, 5, (.t 66))]), qf 68 3 4, ⟨none, .st 1 (.t 68) (.t 67), none⟩])
 (.seq (.reg [qv 69 0, qo 70 (.call .no 148 [(.t 69)])])
 (.seq (.reg [qo 71 (.ld (some 5) (.t 4)), ⟨none, .st 5 (.t 2) (.t 71), none⟩])
 (.ret)))))))))))⟩
def a107 : AFn := ⟨59, [],
 .seq (.seq (.reg [qv 4 0, qn 5 4, qf 6 2 5, ql 7 6, qo 8 (.bin .num .neq (.t 7) (qi 0))])
 (.cond (.t 8) (.ret) (.skip)))
 (.seq (.reg [qv 9 0, qv 10 1, qn 11 9, qf 12 2 11, ⟨none, .st 1 (.t 12) (.t 10), none⟩])
 (.seq (.dreg [(qv 13 0, 0), (qn 14 13, 1), (qf 15 1 14, 3), (ql 16 15, 7), (qv 17 0, 0), (qn 18 17, 16), (qf 19 0 18, 48), (ql 20 19, 112), (qo 21 (.len false (.t 20)), 240), (qo 22 (.bin .num .lss (.t 16) (.t 21)), 511)])
 (.cond (.t 22) (.dreg [(qv 23 0, 0), (qv 24 0, 0), (qn 25 24, 2), (qf 26 0 25, 6), (ql 27 26, 14), (qv 28 0, 0), (qn 29 28, 32), (qf 30 1 29, 96), (ql 31 30, 224), (qo 32 (.ia 5 (.t 27) (.t 31)), 510), (qf 33 3 32, 1022), (ql 34 33, 2046), (qn 35 23, 4095), (qf 36 3 35, 8191), (⟨none, .st 1 (.t 36) (.t 34), none⟩, 16383)]) (.seq (.reg [qv 37 0, qn 38 37, qf 39 0 38, ql 40 39, qo 41 (.len false (.t 40)), qo 42 (.bin .num .gtr (.t 41) (qi 0))])
 (.cond (.t 42) (.dreg [(qv 43 0, 0), (qv 44 0, 0), (qn 45 44, 2), (qf 46 0 45, 6), (ql 47 46, 14), (qv 48 0, 0), (qn 49 48, 32), (qf 50 0 49, 96), (ql 51 50, 224), (qo 52 (.len false (.t 51)), 480), (qo 53 (.bin .num .sub (.t 52) (qi 1)), 992), (qo 54 (.ia 5 (.t 47) (.t 53)), 2046), (qf 55 3 54, 4094), (ql 56 55, 8190), (qn 57 43, 16383), (qf 58 3 57, 32767), (⟨none, .st 1 (.t 58) (.t 56), none⟩, 65535)]) (.skip))))))⟩
def a108 : AFn := ⟨15, [.tmp 2],
 .seq (.reg [qo 2 (.mv (.c (.bool false)))])
 (.seq (.seq (.reg [qv 3 0])
 (.block 0 (.seq (.seq (.reg [qo 5 (.bin .str .eql (.t 3) (qs #[99, 97, 115, 101])), qv 4 5])
 (.cond (.t 4) (.skip) (.seq (.reg [qo 6 (.bin .str .eql (.t 3) (qs #[100, 101, 98, 117, 103, 103, 101, 114])), qv 4 6])
 (.cond (.t 4) (.skip) (.seq (.reg [qo 7 (.bin .str .eql (.t 3) (qs #[100, 101, 102, 97, 117, 108, 116])), qv 4 7])
 (.cond (.t 4) (.skip) (.seq (.reg [qo 8 (.bin .str .eql (.t 3) (qs #[100, 101, 108, 101, 116, 101])), qv 4 8])
 (.cond (.t 4) (.skip) (.seq (.reg [qo 9 (.bin .str .eql (.t 3) (qs #[100, 111])), qv 4 9])
 (.cond (.t 4) (.skip) (.seq (.reg [qo 10 (.bin .str .eql (.t 3) (qs #[102, 105, 110, 97, 108, 108, 121])), qv 4 10])
 (.cond (.t 4) (.skip) (.seq (.reg [qo 11 (.bin .str .eql (.t 3) (qs #[105, 110, 115, 116, 97, 110, 99, 101, 111, 102])), qv 4 11])
 (.cond (.t 4) (.skip) (.seq (.reg [qo 12 (.bin .str .eql (.t 3) (qs #[115, 119, 105, 116, 99, 104])), qv 4 12])
 (.cond (.t 4) (.skip) (.seq (.reg [qo 13 (.bin .str .eql (.t 3) (qs #[116, 121, 112, 101, 111, 102])), qv 4 13])
 (.cond (.t 4) (.skip) (.reg [qo 14 (.bin .str .eql (.t 3) (qs #[118, 111, 105, 100])), qv 4 14])))))))))))))))))))
 (.cond (.t 4) (.seq (.reg [qo 2 (.mv (.c (.bool true)))])
 (.ret)) (.skip)))))
 (.seq (.reg [qo 2 (.mv (.c (.bool false)))])
 (.ret)))⟩
def a109 : AFn := ⟨86, [.tmp 2],
 .seq (.reg [qo 2 (.mv (qi 0))])
 (.seq (.seq (.reg [qv 4 0, qo 5 (.ixs (.t 4) (qi 0)), qo 6 (.bin .num .eql (.t 5) (.c (.int .u8 32))), qv 7 6, qg 8 (.mv (.t 0)) 7 false, qg 9 (.ixs (.t 8) (qi 0)) 7 false, qg 10 (.bin .num .eql (.t 9) (.c (.int .u8 9))) 7 false, qo 11 (.pick (.t 7) (.c (.bool true)) (.t 10)), qv 12 11, qg 13 (.mv (.t 0)) 12 false, qg 14 (.ixs (.t 13) (qi 0)) 12 false, qg 15 (.bin .num .eql (.t 14) (.c (.int .u8 13))) 12 false, qo 16 (.pick (.t 12) (.c (.bool true)) (.t 15)), qv 17 16, qg 18 (.mv (.t 0)) 17 false, qg 19 (.ixs (.t 18) (qi 0)) 17 false, qg 20 (.bin .num .eql (.t 19) (.c (.int .u8 10))) 17 false, qo 21 (.pick (.t 17) (.c (.bool true)) (.t 20))])
 (.cond (.t 21) (.seq (.reg [qo 2 (.mv (qi 1))])
 (.ret)) (.skip)))
 (.seq (.seq (.reg [qv 22 0, qo 23 (.len true (.t 22)), qo 24 (.bin .num .lss (.t 23) (qi 2)), qv 25 24, qg 26 (.mv (.t 0)) 25 false, qg 27 (.ixs (.t 26) (qi 0)) 25 false, qg 28 (.bin .num .neq (.t 27) (.c (.int .u8 47))) 25 false, qo 29 (.pick (.t 25) (.c (.bool true)) (.t 28)), qv 30 29, qg 31 (.mv (.t 0)) 30 false, qg 32 (.ixs (.t 31) (qi 1)) 30 false, qg 33 (.bin .num .neq (.t 32) (.c (.int .u8 47))) 30 false, qg 34 (.mv (.t 33)) 30 false, qg 35 (.mv (.t 0)) 34 true, qg 36 (.ixs (.t 35) (qi 1)) 34 true, qg 37 (.bin .num .neq (.t 36) (.c (.int .u8 42))) 34 true, qg 38 (.pick (.t 34) (.t 37) (.c (.bool false))) 30 false, qo 39 (.pick (.t 30) (.c (.bool true)) (.t 38))])
 (.cond (.t 39) (.seq (.reg [qo 2 (.mv (qi 0))])
 (.ret)) (.skip)))
 (.seq (.seq (.reg [qo 3 (.mv (qi 2))])
 (.block 0 (.loop (.seq (.seq (.reg [qv 40 3, qv 41 0, qo 42 (.len true (.t 41)), qo 43 (.bin .num .lss (.t 40) (.t 42))])
 (.cond (.t 43) (.skip) (.exit 0)))
 (.seq (.block 1 (.seq (.seq (.reg [qv 46 0, qo 47 (.ixs (.t 46) (qi 1)), qo 48 (.bin .num .eql (.t 47) (.c (.int .u8 47))), qv 49 48, qg 50 (.mv (.t 0)) 49 true, qg 51 (.mv (.t 3)) 49 true, qg 52 (.ixs (.t 50) (.t 51)) 49 true, qg 53 (.bin .num .eql (.t 52) (.c (.int .u8 10))) 49 true, qo 54 (.pick (.t 49) (.t 53) (.c (.bool false)))])
 (.cond (.t 54) (.seq (.reg [qv 55 3, qv 2 55])
 (.ret)) (.skip)))
 (.seq (.reg [qv 56 0, qo 57 (.ixs (.t 56) (qi 1)), qo 58 (.bin .num .eql (.t 57) (.c (.int .u8 42))), qv 59 58, qg 60 (.mv (.t 3)) 59 true, qg 61 (.bin .num .add (.t 60) (qi 1)) 59 true, qg 62 (.mv (.t 0)) 59 true, qg 63 (.len true (.t 62)) 59 true, qg 64 (.bin .num .lss (.t 61) (.t 63)) 59 true, qo 65 (.pick (.t 59) (.t 64) (.c (.bool false))), qv 66 65, qg 67 (.mv (.t 0)) 66 true, qg 68 (.mv (.t 3)) 66 true, qg 69 (.ixs (.t 67) (.t 68)) 66 true, qg 70 (.bin .num .eql (.t 69) (.c (.int .u8 42))) 66 true, qo 71 (.pick (.t 66) (.t 70) (.c (.bool false))), qv 72 71, qg 73 (.mv (.t 0)) 72 true, qg 74 (.mv (.t 3)) 72 true, qg 75 (.bin .num .add (.t 74) (qi 1)) 72 true, qg 76 (.ixs (.t 73) (.t 75)) 72 true, qg 77 (.bin .num .eql (.t 76) (.c (.int .u8 47))) 72 true, qo 78 (.pick (.t 72) (.t 77) (.c (.bool false)))])
 (.cond (.t 78) (.seq (.reg [qv 79 3, qo 80 (.bin .num .add (.t 79) (qi 2)), qv 2 80])
 (.ret)) (.skip)))))
 (.reg [qv 44 3, qo 45 (.bin .num .add (.t 44) (qi 1)), qv 3 45]))))))
 (.seq (.seq (.reg [qv 81 0, qo 82 (.ixs (.t 81) (qi 1)), qo 83 (.bin .num .eql (.t 82) (.c (.int .u8 47)))])
 (.cond (.t 83) (.seq (.reg [qv 84 0, qo 85 (.len true (.t 84)), qv 2 85])
 (.ret)) (.skip)))
 (.seq (.reg [qo 2 (.mv (.c (.int .i64 (-1))))])
 (.ret))))))⟩
def a110 : AFn := ⟨94, [.cell 2 (some 5), .tmp 3, .tmp 4],
 .seq (.reg [qo 2 (.alloc 130 z6), qo 3 (.mv (qi 0)), qo 4 (.mv (qi 0))])
 (.seq (.seq (.reg [qv 14 0, qo 15 (.ixs (.t 14) (qi 0)), qo 16 (.call .full 149 [(.t 15)])])
 (.cond (.t 16) (.seq (.reg [qv 17 0, qo 18 (.call .full 150 [(.t 17), (.c (.bool true))]), qv 5 18])
 (.seq (.reg [qo 6 (.mv (qi 1))])
 (.seq (.reg [qv 19 0, qv 20 5, qo 21 (.slc none (.t 19) none (some (.t 20))), qo 22 (.call .full 151 [(.t 21)]), qv 7 22])
 (.seq (.seq (.reg [qv 23 7])
 (.cond (.t 23) (.reg [qo 6 (.mv (qi 2))]) (.skip)))
 (.seq (.reg [qv 24 6, qv 25 0, qv 26 5, qo 27 (.slc none (.t 25) none (some (.t 26))), qo 28 (.build z6 [(0, 1, (.t 24)), (1, 1, (.t 27))]), qv 29 5, ⟨none, .st 5 (.t 2) (.t 28), none⟩, qv 3 29, qo 4 (.mv (qi 0))])
 (.ret)))))) (.skip)))
 (.seq (.seq (.reg [qv 30 0, qo 31 (.ixs (.t 30) (qi 0)), qo 32 (.call .full 152 [(.t 31)])])
 (.cond (.t 32) (.seq (.reg [qv 33 0, qo 34 (.call .full 150 [(.t 33), (.c (.bool false))]), qv 8 34])
 (.seq (.seq (.reg [qv 35 8, qv 36 0, qo 37 (.len true (.t 36)), qo 38 (.bin .num .lss (.t 35) (.t 37)), qv 39 38, qg 40 (.mv (.t 0)) 39 true, qg 41 (.mv (.t 8)) 39 true, qg 42 (.ixs (.t 40) (.t 41)) 39 true, qg 43 (.bin .num .eql (.t 42) (.c (.int .u8 46))) 39 true, qo 44 (.pick (.t 39) (.t 43) (.c (.bool false)))])
 (.cond (.t 44) (.seq (.reg [qo 45 (.build z6 []), ⟨none, .st 5 (.t 2) (.t 45), none⟩, qo 3 (.mv (qi 0)), qo 4 (.mv (qi 25))])
 (.ret)) (.skip)))
 (.seq (.reg [qv 47 0, qv 48 8, qo 49 (.slc none (.t 47) none (some (.t 48))), qo 50 (.call .full 153 [(.t 49)]), qv 46 50, qo 51 (.ext 0 (.t 46)), qo 52 (.ext 1 (.t 46)), qv 9 51, qv 10 52])
 (.seq (.seq (.reg [qv 53 10, qo 54 (.un .not (.t 53)), qv 55 54, qg 56 (.mv (.t 0)) 55 false, qg 57 (.call .full 150 [(.t 56), (.c (.bool true))]) 55 false, qg 58 (.mv (.t 8)) 55 false, qg 59 (.bin .num .neq (.t 57) (.t 58)) 55 false, qo 60 (.pick (.t 55) (.c (.bool true)) (.t 59))])
 (.cond (.t 60) (.seq (.reg [qo 61 (.build z6 []), ⟨none, .st 5 (.t 2) (.t 61), none⟩, qo 3 (.mv (qi 0)), qo 4 (.mv (qi 24))])
 (.ret)) (.skip)))
 (.seq (.reg [qv 62 9, qo 63 (.build z6 [(0, 1, (qi 3)), (2, 1, (.t 62))]), qv 64 8, ⟨none, .st 5 (.t 2) (.t 63), none⟩, qv 3 64, qo 4 (.mv (qi 0))])
 (.ret)))))) (.skip)))
 (.seq (.seq (.reg [qv 65 0, qo 66 (.ixs (.t 65) (qi 0)), qo 67 (.bin .num .eql (.t 66) (.c (.int .u8 34))), qv 68 67, qg 69 (.mv (.t 0)) 68 false, qg 70 (.ixs (.t 69) (qi 0)) 68 false, qg 71 (.bin .num .eql (.t 70) (.c (.int .u8 39))) 68 false, qo 72 (.pick (.t 68) (.c (.bool true)) (.t 71))])
 (.cond (.t 72) (.seq (.reg [qv 74 0, qo 75 (.call .full 154 [(.t 74)]), qv 73 75, qo 76 (.ext 0 (.t 73)), qo 77 (.ext 1 (.t 73)), qv 11 76, qv 12 77])
 (.seq (.seq (.reg [qv 78 12, qo 79 (.bin .num .eql (.t 78) (qi 0))])
 (.cond (.t 79) (.seq (.reg [qo 80 (.build z6 []), ⟨none, .st 5 (.t 2) (.t 80), none⟩, qo 3 (.mv (qi 0)), qo 4 (.mv (qi 22))])
 (.ret)) (.skip)))
 (.seq (.reg [qv 81 11, qo 82 (.build z6 [(0, 1, (qi 4)), (1, 1, (.t 81))]), qv 83 12, ⟨none, .st 5 (.t 2) (.t 82), none⟩, qv 3 83, qo 4 (.mv (qi 0))])
 (.ret)))) (.skip)))
 (.seq (.reg [qv 84 0, qo 85 (.call .full 155 [(.t 84)]), qv 13 85])
 (.seq (.seq (.reg [qv 86 13, qo 87 (.bin .num .eql (.t 86) (qi 0))])
 (.cond (.t 87) (.seq (.reg [qo 88 (.build z6 []), ⟨none, .st 5 (.t 2) (.t 88), none⟩, qo 3 (.mv (qi 0)), qo 4 (.mv (qi 21))])
 (.ret)) (.skip)))
 (.seq (.reg [qv 89 0, qv 90 13, qo 91 (.slc none (.t 89) none (some (.t 90))), qo 92 (.build z6 [(0, 1, (qi 5)), (1, 1, (.t 91))]), qv 93 13, ⟨none, .st 5 (.t 2) (.t 92), none⟩, qv 3 93, qo 4 (.mv (qi 0))])
 (.ret)))))))⟩
def a111 : AFn := ⟨35, [.tmp 2],
 .seq (.reg [oO 2 (.mv (.c (.bool false)))])
 (.seq (.seq (.reg [oV 5 0, oO 6 (.bin .str .eql (.t 5) (.c (.str ⟨#[]⟩))), oV 7 6, oG 8 (.mv (.t 0)) 7 false, oG 9 (.ixs (.t 8) (.c (.int .i64 0))) 7 false, oG 10 (.call .full 149 [(.t 9)]) 7 false, oG 11 (.un .not (.t 10)) 7 false, oO 12 (.pick (.t 7) (.c (.bool true)) (.t 11))])
 (.cond (.t 12) (.seq (.reg [oO 2 (.mv (.c (.bool false)))])
 (.ret)) (.skip)))
 (.seq (.seq (.reg [oO 3 (.mv (.c (.int .i64 1)))])
 (.block 0 (.loop (.seq (.seq (.reg [oV 13 3, oV 14 0, oO 15 (.len true (.t 14)), oO 16 (.bin .num .lss (.t 13) (.t 15))])
 (.cond (.t 16) (.skip) (.exit 0)))
 (.seq (.block 1 (.seq (.reg [oV 19 0, oV 20 3, oO 21 (.ixs (.t 19) (.t 20)), oO 22 (.call .full 149 [(.t 21)]), oO 23 (.un .not (.t 22)), oV 24 23, oG 25 (.mv (.t 0)) 24 true, oG 26 (.mv (.t 3)) 24 true, oG 27 (.ixs (.t 25) (.t 26)) 24 true, oG 28 (.call .full 152 [(.t 27)]) 24 true, oG 29 (.un .not (.t 28)) 24 true, oO 30 (.pick (.t 24) (.t 29) (.c (.bool false)))])
 (.cond (.t 30) (.seq (.reg [oO 2 (.mv (.c (.bool false)))])
 (.ret)) (.skip))))
 (.reg [oV 17 3, oO 18 (.bin .num .add (.t 17) (.c (.int .i64 1))), oV 3 18]))))))
 (.seq (.reg [oV 31 0, oO 32 (.call .full 151 [(.t 31)]), oV 4 32])
 (.seq (.reg [oV 33 4, oO 34 (.un .not (.t 33)), oV 2 34])
 (.ret)))))⟩
def a112 : AFn := ⟨19, [.tmp 4],
 .seq (.reg [oO 4 (.mv (.c (.bool false)))])
 (.seq (.seq (.reg [oO 5 (.mv (.c (.int .i64 0)))])
 (.block 0 (.loop (.seq (.seq (.reg [oV 6 5, oV 7 0, oO 8 (.len false (.t 7)), oO 9 (.bin .num .lss (.t 6) (.t 8))])
 (.cond (.t 9) (.skip) (.exit 0)))
 (.seq (.block 1 (.seq (.reg [oV 12 0, oV 13 5, oO 14 (.ia 5 (.t 12) (.t 13)), oO 15 (.ld (some 5) (.t 14)), oV 16 1, oO 17 (.call .full 113 [(.t 15), (.t 16)]), oO 18 (.un .not (.t 17))])
 (.cond (.t 18) (.seq (.reg [oO 4 (.mv (.c (.bool false)))])
 (.ret)) (.skip))))
 (.reg [oV 10 5, oO 11 (.bin .num .add (.t 10) (.c (.int .i64 1))), oV 5 11]))))))
 (.seq (.reg [oO 4 (.mv (.c (.bool true)))])
 (.ret)))⟩
def a113 : AFn := ⟨295, [.tmp 4],
 .seq (.reg [oO 2 (.box 24 (.t 0)), oO 4 (.mv (.c (.bool false)))])
 (.seq (.seq (.reg [oV 11 1, oO 12 (.bin .num .lss (.t 11) (.c (.int .i64 1)))])
 (.cond (.t 12) (.seq (.reg [oO 4 (.mv (.c (.bool false)))])
 (.ret)) (.skip)))
 (.seq (.reg [oF 13 1 2, oL 14 13, oO 15 (.call .full 111 [(.t 14)]), oV 5 15])
 (.seq (.reg [oF 16 1 2, oL 17 16, oO 18 (.call .full 151 [(.t 17)]), oV 6 18])
 (.seq (.reg [oF 19 3 2, oL 20 19, oO 21 (.len false (.t 20)), oV 7 21])
 (.seq (.reg [oF 22 1 2, oL 23 22, oO 24 (.bin .str .eql (.t 23) (.c (.str ⟨#[]⟩))), oV 25 24, oG 26 (.fa 2 (.t 2)) 25 true, oG 27 (.ld none (.t 26)) 25 true, oG 28 (.bin .num .eql (.t 27) (.c (.int .i64 0))) 25 true, oO 29 (.pick (.t 25) (.t 28) (.c (.bool false))), oV 8 29])
 (.seq (.seq (.reg [oF 30 0 2, oL 31 30])
 (.block 0 (.seq (.reg [oO 33 (.bin .num .eql (.t 31) (.c (.int .i64 1))), oV 32 33])
 (.cond (.t 32) (.seq (.reg [oV 34 5, oV 35 34, oG 36 (.fa 2 (.t 2)) 35 true, oG 37 (.ld none (.t 36)) 35 true, oG 38 (.bin .num .eql (.t 37) (.c (.int .i64 0))) 35 true, oO 39 (.pick (.t 35) (.t 38) (.c (.bool false))), oV 40 39, oG 41 (.mv (.t 7)) 40 true, oG 42 (.bin .num .eql (.t 41) (.c (.int .i64 0))) 40 true, oO 43 (.pick (.t 40) (.t 42) (.c (.bool false))), oV 4 43])
 (.ret)) (.seq (.reg [oO 45 (.bin .num .eql (.t 31) (.c (.int .i64 2))), oV 44 45])
 (.cond (.t 44) (.seq (.reg [oF 46 1 2, oL 47 46, oO 48 (.bin .str .eql (.t 47) (.c (.str ⟨#[]⟩))), oV 49 48, oG 50 (.fa 2 (.t 2)) 49 true, oG 51 (.ld none (.t 50)) 49 true, oG 52 (.bin .num .geq (.t 51) (.c (.int .i64 0))) 49 true, oO 53 (.pick (.t 49) (.t 52) (.c (.bool false))), oV 54 53, oG 55 (.fa 2 (.t 2)) 54 true, oG 56 (.ld none (.t 55)) 54 true, oG 57 (.bin .num .leq (.t 56) (.c (.int .i64 999999999999999))) 54 true, oO 58 (.pick (.t 54) (.t 57) (.c (.bool false))), oV 59 58, oG 60 (.mv (.t 7)) 59 true, oG 61 (.bin .num .eql (.t 60) (.c (.int .i64 0))) 59 true, oO 62 (.pick (.t 59) (.t 61) (.c (.bool false))), oV 4 62])
 (.ret)) (.seq (.reg [oO 64 (.bin .num .eql (.t 31) (.c (.int .i64 3))), oV 63 64])
 (.cond (.t 63) (.seq (.reg [oF 65 2 2, oL 66 65, oO 67 (.bin .num .eql (.t 66) (.c (.int .i64 0))), oV 68 67, oG 69 (.mv (.t 7)) 68 true, oG 70 (.bin .num .eql (.t 69) (.c (.int .i64 0))) 68 true, oO 71 (.pick (.t 68) (.t 70) (.c (.bool false))), oV 4 71])
 (.ret)) (.seq (.seq (.reg [oO 73 (.bin .num .eql (.t 31) (.c (.int .i64 4))), oV 72 73])
 (.cond (.t 72) (.skip) (.seq (.reg [oO 74 (.bin .num .eql (.t 31) (.c (.int .i64 5))), oV 72 74])
 (.cond (.t 72) (.skip) (.seq (.reg [oO 75 (.bin .num .eql (.t 31) (.c (.int .i64 6))), oV 72 75])
 (.cond (.t 72) (.skip) (.seq (.reg [oO 76 (.bin .num .eql (.t 31) (.c (.int .i64 7))), oV 72 76])
 (.cond (.t 72) (.skip) (.seq (.reg [oO 77 (.bin .num .eql (.t 31) (.c (.int .i64 8))), oV 72 77])
 (.cond (.t 72) (.skip) (.reg [oO 78 (.bin .num .eql (.t 31) (.c (.int .i64 9))), oV 72 78])))))))))))
 (.cond (.t 72) (.seq (.reg [oV 79 8, oV 80 79, oG 81 (.mv (.t 7)) 80 true, oG 82 (.bin .num .eql (.t 81) (.c (.int .i64 0))) 80 true, oO 83 (.pick (.t 80) (.t 82) (.c (.bool false))), oV 4 83])
 (.ret)) (.seq (.reg [oO 85 (.bin .num .eql (.t 31) (.c (.int .i64 10))), oV 84 85])
 (.cond (.t 84) (.seq (.reg [oF 86 1 2, oL 87 86, oO 88 (.bin .str .eql (.t 87) (.c (.str ⟨#[]⟩))), oV 89 88, oG 90 (.mv (.t 5)) 89 false, oO 91 (.pick (.t 89) (.c (.bool true)) (.t 90)), oV 92 91, oG 93 (.fa 2 (.t 2)) 92 true, oG 94 (.ld none (.t 93)) 92 true, oG 95 (.bin .num .eql (.t 94) (.c (.int .i64 0))) 92 true, oO 96 (.pick (.t 92) (.t 95) (.c (.bool false))), oV 97 96, oG 98 (.fa 3 (.t 2)) 97 true, oG 99 (.ld none (.t 98)) 97 true, oG 100 (.mv (.t 1)) 97 true, oG 101 (.bin .num .sub (.t 100) (.c (.int .i64 1))) 97 true, oG 102 (.call .full 114 [(.t 99), (.t 101)]) 97 true, oO 103 (.pick (.t 97) (.t 102) (.c (.bool false))), oV 4 103])
 (.ret)) (.seq (.reg [oO 105 (.bin .num .eql (.t 31) (.c (.int .i64 11))), oV 104 105])
 (.cond (.t 104) (.seq (.seq (.reg [oV 106 8, oO 107 (.un .not (.t 106)), oV 108 107, oG 109 (.mv (.t 7)) 108 false, oG 110 (.bin .num .gtr (.t 109) (.c (.int .i64 200))) 108 false, oO 111 (.pick (.t 108) (.c (.bool true)) (.t 110))])
 (.cond (.t 111) (.seq (.reg [oO 4 (.mv (.c (.bool false)))])
 (.ret)) (.skip)))
 (.seq (.seq (.reg [oO 9 (.mv (.c (.int .i64 0)))])
 (.block 1 (.loop (.seq (.seq (.reg [oV 112 9, oV 113 7, oO 114 (.bin .num .lss (.t 112) (.t 113))])
 (.cond (.t 114) (.skip) (.exit 1)))
 (.seq (.block 2 (.seq (.reg [oF 117 3 2, oL 118 117, oV 119 9, oO 120 (.ia 5 (.t 118) (.t 119)), oO 121 (.ld (some 5) (.t 120)), oO 10 (.alloc 24 [(.int .i64 0), (.str ⟨#[]⟩), (.int .i64 0), .nils, (.int .i64 0)]), oS (.st 5 (.t 10) (.t 121))])
 (.seq (.reg [oV 122 1, oO 123 (.bin .num .lss (.t 122) (.c (.int .i64 2))), oV 124 123, oG 125 (.fa 0 (.t 10)) 124 false, oG 126 (.ld none (.t 125)) 124 false, oG 127 (.bin .num .neq (.t 126) (.c (.int .i64 12))) 124 false, oO 128 (.pick (.t 124) (.c (.bool true)) (.t 127)), oV 129 128, oG 130 (.fa 2 (.t 10)) 129 false, oG 131 (.ld none (.t 130)) 129 false, oG 132 (.bin .num .neq (.t 131) (.c (.int .i64 0))) 129 false, oO 133 (.pick (.t 129) (.c (.bool true)) (.t 132)), oV 134 133, oG 135 (.fa 3 (.t 10)) 134 false, oG 136 (.ld none (.t 135)) 134 false, oG 137 (.len false (.t 136)) 134 false, oG 138 (.bin .num .neq (.t 137) (.c (.int .i64 1))) 134 false, oO 139 (.pick (.t 134) (.c (.bool true)) (.t 138)), oV 140 139, oG 141 (.fa 3 (.t 10)) 140 false, oG 142 (.ld none (.t 141)) 140 false, oG 143 (.ia 5 (.t 142) (.c (.int .i64 0))) 140 false, oG 144 (.ld (some 5) (.t 143)) 140 false, oG 145 (.mv (.t 1)) 140 false, oG 146 (.bin .num .sub (.t 145) (.c (.int .i64 2))) 140 false, oG 147 (.call .full 113 [(.t 144), (.t 146)]) 140 false, oG 148 (.un .not (.t 147)) 140 false, oO 149 (.pick (.t 140) (.c (.bool true)) (.t 148))])
 (.cond (.t 149) (.seq (.reg [oO 4 (.mv (.c (.bool false)))])
 (.ret)) (.skip)))))
 (.reg [oV 115 9, oO 116 (.bin .num .add (.t 115) (.c (.int .i64 1))), oV 9 116]))))))
 (.seq (.reg [oO 4 (.mv (.c (.bool true)))])
 (.ret)))) (.seq (.reg [oO 151 (.bin .num .eql (.t 31) (.c (.int .i64 13))), oV 150 151])
 (.cond (.t 150) (.seq (.reg [oV 152 5, oV 153 152, oG 154 (.mv (.t 6)) 153 false, oO 155 (.pick (.t 153) (.c (.bool true)) (.t 154)), oV 156 155, oG 157 (.fa 2 (.t 2)) 156 true, oG 158 (.ld none (.t 157)) 156 true, oG 159 (.bin .num .eql (.t 158) (.c (.int .i64 0))) 156 true, oO 160 (.pick (.t 156) (.t 159) (.c (.bool false))), oV 161 160, oG 162 (.mv (.t 7)) 161 true, oG 163 (.bin .num .eql (.t 162) (.c (.int .i64 1))) 161 true, oO 164 (.pick (.t 161) (.t 163) (.c (.bool false))), oV 165 164, oG 166 (.fa 3 (.t 2)) 165 true, oG 167 (.ld none (.t 166)) 165 true, oG 168 (.mv (.t 1)) 165 true, oG 169 (.bin .num .sub (.t 168) (.c (.int .i64 1))) 165 true, oG 170 (.call .full 112 [(.t 167), (.t 169)]) 165 true, oO 171 (.pick (.t 165) (.t 170) (.c (.bool false))), oV 4 171])
 (.ret)) (.seq (.seq (.reg [oO 173 (.bin .num .eql (.t 31) (.c (.int .i64 14))), oV 172 173])
 (.cond (.t 172) (.skip) (.seq (.reg [oO 174 (.bin .num .eql (.t 31) (.c (.int .i64 21))), oV 172 174])
 (.cond (.t 172) (.skip) (.reg [oO 175 (.bin .num .eql (.t 31) (.c (.int .i64 22))), oV 172 175])))))
 (.cond (.t 172) (.seq (.reg [oV 176 8, oV 177 176, oG 178 (.mv (.t 7)) 177 true, oG 179 (.bin .num .eql (.t 178) (.c (.int .i64 2))) 177 true, oO 180 (.pick (.t 177) (.t 179) (.c (.bool false))), oV 181 180, oG 182 (.fa 3 (.t 2)) 181 true, oG 183 (.ld none (.t 182)) 181 true, oG 184 (.mv (.t 1)) 181 true, oG 185 (.bin .num .sub (.t 184) (.c (.int .i64 1))) 181 true, oG 186 (.call .full 112 [(.t 183), (.t 185)]) 181 true, oO 187 (.pick (.t 181) (.t 186) (.c (.bool false))), oV 4 187])
 (.ret)) (.seq (.seq (.reg [oO 189 (.bin .num .eql (.t 31) (.c (.int .i64 15))), oV 188 189])
 (.cond (.t 188) (.skip) (.reg [oO 190 (.bin .num .eql (.t 31) (.c (.int .i64 16))), oV 188 190])))
 (.cond (.t 188) (.seq (.reg [oV 191 8, oV 192 191, oG 193 (.mv (.t 7)) 192 true, oG 194 (.bin .num .geq (.t 193) (.c (.int .i64 1))) 192 true, oO 195 (.pick (.t 192) (.t 194) (.c (.bool false))), oV 196 195, oG 197 (.mv (.t 7)) 196 true, oG 198 (.bin .num .leq (.t 197) (.c (.int .i64 200))) 196 true, oO 199 (.pick (.t 196) (.t 198) (.c (.bool false))), oV 200 199, oG 201 (.fa 3 (.t 2)) 200 true, oG 202 (.ld none (.t 201)) 200 true, oG 203 (.mv (.t 1)) 200 true, oG 204 (.bin .num .sub (.t 203) (.c (.int .i64 1))) 200 true, oG 205 (.call .full 112 [(.t 202), (.t 204)]) 200 true, oO 206 (.pick (.t 200) (.t 205) (.c (.bool false))), oV 4 206])
 (.ret)) (.seq (.reg [oO 208 (.bin .num .eql (.t 31) (.c (.int .i64 17))), oV 207 208])
 (.cond (.t 207) (.seq (.reg [oV 209 8, oV 210 209, oG 211 (.mv (.t 7)) 210 true, oG 212 (.bin .num .eql (.t 211) (.c (.int .i64 2))) 210 true, oO 213 (.pick (.t 210) (.t 212) (.c (.bool false))), oV 214 213, oG 215 (.fa 3 (.t 2)) 214 true, oG 216 (.ld none (.t 215)) 214 true, oG 217 (.mv (.t 1)) 214 true, oG 218 (.bin .num .sub (.t 217) (.c (.int .i64 1))) 214 true, oG 219 (.call .full 112 [(.t 216), (.t 218)]) 214 true, oO 220 (.pick (.t 214) (.t 219) (.c (.bool false))), oV 221 220, oG 222 (.fa 3 (.t 2)) 221 true, oG 223 (.ld none (.t 222)) 221 true, oG 224 (.ia 5 (.t 223) (.c (.int .i64 0))) 221 true, oG 225 (.fa 0 (.t 224)) 221 true, oG 226 (.ld none (.t 225)) 221 true, oG 227 (.bin .num .eql (.t 226) (.c (.int .i64 1))) 221 true, oG 228 (.mv (.t 227)) 221 true, oG 229 (.fa 3 (.t 2)) 228 false, oG 230 (.ld none (.t 229)) 228 false, oG 231 (.ia 5 (.t 230) (.c (.int .i64 0))) 228 false, oG 232 (.fa 0 (.t 231)) 228 false, oG 233 (.ld none (.t 232)) 228 false, oG 234 (.bin .num .eql (.t 233) (.c (.int .i64 13))) 228 false, oG 235 (.pick (.t 228) (.c (.bool true)) (.t 234)) 221 true, oG 236 (.mv (.t 235)) 221 true, oG 237 (.fa 3 (.t 2)) 236 false, oG 238 (.ld none (.t 237)) 236 false, oG 239 (.ia 5 (.t 238) (.c (.int .i64 0))) 236 false, oG 240 (.fa 0 (.t 239)) 236 false, oG 241 (.ld none (.t 240)) 236 false, oG 242 (.bin .num .eql (.t 241) (.c (.int .i64 14))) 236 false, oG 243 (.pick (.t 236) (.c (.bool true)) (.t 242)) 221 true, oO 244 (.pick (.t 221) (.t 243) (.c (.bool false))), oV 4 244])
 (.ret)) (.seq (.reg [oO 246 (.bin .num .eql (.t 31) (.c (.int .i64 18))), oV 245 246])
 (.cond (.t 245) (.seq (.reg [oF 247 1 2, oL 248 247, oO 249 (.call .full 156 [(.t 248)]), oV 250 249, oG 251 (.fa 2 (.t 2)) 250 true, oG 252 (.ld none (.t 251)) 250 true, oG 253 (.bin .num .eql (.t 252) (.c (.int .i64 0))) 250 true, oO 254 (.pick (.t 250) (.t 253) (.c (.bool false))), oV 255 254, oG 256 (.mv (.t 7)) 255 true, oG 257 (.bin .num .eql (.t 256) (.c (.int .i64 2))) 255 true, oO 258 (.pick (.t 255) (.t 257) (.c (.bool false))), oV 259 258, oG 260 (.fa 3 (.t 2)) 259 true, oG 261 (.ld none (.t 260)) 259 true, oG 262 (.mv (.t 1)) 259 true, oG 263 (.bin .num .sub (.t 262) (.c (.int .i64 1))) 259 true, oG 264 (.call .full 112 [(.t 261), (.t 263)]) 259 true, oO 265 (.pick (.t 259) (.t 264) (.c (.bool false))), oV 4 265])
 (.ret)) (.seq (.seq (.reg [oO 267 (.bin .num .eql (.t 31) (.c (.int .i64 19))), oV 266 267])
 (.cond (.t 266) (.skip) (.reg [oO 268 (.bin .num .eql (.t 31) (.c (.int .i64 20))), oV 266 268])))
 (.cond (.t 266) (.seq (.reg [oV 269 8, oV 270 269, oG 271 (.mv (.t 7)) 270 true, oG 272 (.bin .num .eql (.t 271) (.c (.int .i64 1))) 270 true, oO 273 (.pick (.t 270) (.t 272) (.c (.bool false))), oV 274 273, oG 275 (.fa 3 (.t 2)) 274 true, oG 276 (.ld none (.t 275)) 274 true, oG 277 (.mv (.t 1)) 274 true, oG 278 (.bin .num .sub (.t 277) (.c (.int .i64 1))) 274 true, oG 279 (.call .full 112 [(.t 276), (.t 278)]) 274 true, oO 280 (.pick (.t 274) (.t 279) (.c (.bool false))), oV 4 280])
 (.ret)) (.seq (.reg [oO 282 (.bin .num .eql (.t 31) (.c (.int .i64 23))), oV 281 282])
 (.cond (.t 281) (.seq (.reg [oV 283 8, oV 284 283, oG 285 (.mv (.t 7)) 284 true, oG 286 (.bin .num .eql (.t 285) (.c (.int .i64 3))) 284 true, oO 287 (.pick (.t 284) (.t 286) (.c (.bool false))), oV 288 287, oG 289 (.fa 3 (.t 2)) 288 true, oG 290 (.ld none (.t 289)) 288 true, oG 291 (.mv (.t 1)) 288 true, oG 292 (.bin .num .sub (.t 291) (.c (.int .i64 1))) 288 true, oG 293 (.call .full 112 [(.t 290), (.t 292)]) 288 true, oO 294 (.pick (.t 288) (.t 293) (.c (.bool false))), oV 4 294])
 (.ret)) (.skip)))))))))))))))))))))))))))))
 (.seq (.reg [oO 4 (.mv (.c (.bool false)))])
 (.ret))))))))⟩
def a114 : AFn := ⟨44, [.tmp 4],
 .seq (.reg [oO 4 (.mv (.c (.bool false)))])
 (.seq (.seq (.reg [oV 6 0, oO 7 (.len false (.t 6)), oO 8 (.bin .num .lss (.t 7) (.c (.int .i64 1))), oV 9 8, oG 10 (.mv (.t 0)) 9 false, oG 11 (.len false (.t 10)) 9 false, oG 12 (.bin .num .gtr (.t 11) (.c (.int .i64 201))) 9 false, oO 13 (.pick (.t 9) (.c (.bool true)) (.t 12))])
 (.cond (.t 13) (.seq (.reg [oO 4 (.mv (.c (.bool false)))])
 (.ret)) (.skip)))
 (.seq (.seq (.reg [oO 5 (.mv (.c (.int .i64 0)))])
 (.block 0 (.loop (.seq (.seq (.reg [oV 14 5, oV 15 0, oO 16 (.len false (.t 15)), oO 17 (.bin .num .sub (.t 16) (.c (.int .i64 1))), oO 18 (.bin .num .lss (.t 14) (.t 17))])
 (.cond (.t 18) (.skip) (.exit 0)))
 (.seq (.block 1 (.seq (.reg [oV 21 0, oV 22 5, oO 23 (.ia 5 (.t 21) (.t 22)), oF 24 0 23, oL 25 24, oO 26 (.bin .num .neq (.t 25) (.c (.int .i64 1))), oV 27 26, oG 28 (.mv (.t 0)) 27 false, oG 29 (.mv (.t 5)) 27 false, oG 30 (.ia 5 (.t 28) (.t 29)) 27 false, oG 31 (.ld (some 5) (.t 30)) 27 false, oG 32 (.mv (.t 1)) 27 false, oG 33 (.call .full 113 [(.t 31), (.t 32)]) 27 false, oG 34 (.un .not (.t 33)) 27 false, oO 35 (.pick (.t 27) (.c (.bool true)) (.t 34))])
 (.cond (.t 35) (.seq (.reg [oO 4 (.mv (.c (.bool false)))])
 (.ret)) (.skip))))
 (.reg [oV 19 5, oO 20 (.bin .num .add (.t 19) (.c (.int .i64 1))), oV 5 20]))))))
 (.seq (.reg [oV 36 0, oV 37 0, oO 38 (.len false (.t 37)), oO 39 (.bin .num .sub (.t 38) (.c (.int .i64 1))), oO 40 (.ia 5 (.t 36) (.t 39)), oO 41 (.ld (some 5) (.t 40)), oV 42 1, oO 43 (.call .full 48 [(.t 41), (.t 42)]), oV 4 43])
 (.ret))))⟩
def a115 : AFn := ⟨4, [.tmp 2],
 .seq (.reg [oO 1 (.box 24 (.t 0)), oO 2 (.mv (.c .nilf))])
 (.seq (.reg [oO 3 (.mkf 157 [] [(.t 1)]), oV 2 3])
 (.ret))⟩
def a116 : AFn := ⟨19, [.tmp 4],
 .seq (.reg [oO 4 (.mv (.c (.int .i64 0)))])
 (.seq (.seq (.reg [oV 6 0, oO 7 (.len false (.t 6)), oO 8 (.mv (.c (.int .i64 0)))])
 (.block 0 (.loop (.seq (.reg [oO 9 (.bin .num .lss (.t 8) (.t 7))])
 (.seq (.cond (.t 9) (.skip) (.exit 0))
 (.seq (.block 1 (.seq (.reg [oV 10 8, oV 5 10])
 (.seq (.reg [oV 11 1, oV 12 0, oV 13 5, oO 14 (.ia 1 (.t 12) (.t 13)), oL 15 14, oO 16 (.bin .str .eql (.t 11) (.t 15))])
 (.cond (.t 16) (.seq (.reg [oV 17 5, oV 4 17])
 (.ret)) (.skip)))))
 (.reg [oO 18 (.bin .num .add (.t 8) (.c (.int .i64 1))), oV 8 18])))))))
 (.seq (.reg [oO 4 (.mv (.c (.int .i64 (-1))))])
 (.ret)))⟩
def a117 : AFn := ⟨27, [],
 .seq (.reg [oV 8 2, oO 9 (.len false (.t 8)), oO 10 (.mv (.c (.int .i64 0)))])
 (.block 0 (.loop (.seq (.reg [oO 11 (.bin .num .lss (.t 10) (.t 9))])
 (.seq (.cond (.t 11) (.skip) (.exit 0))
 (.seq (.block 1 (.seq (.reg [oO 12 (.ia 9 (.t 8) (.t 10)), oO 13 (.ld (some 9) (.t 12)), oO 7 (.alloc 55 [(.int .i64 0), (.int .i64 0), (.int .i64 0), (.int .i64 0), (.int .i64 0), (.int .i64 0), (.int .i64 0), (.str ⟨#[]⟩), .nils]), oS (.st 9 (.t 7) (.t 13))])
 (.seq (.reg [oV 14 1, oF 15 1 7, oS (.st 1 (.t 15) (.t 14))])
 (.dreg [(oV 16 0, 0), (oV 17 0, 0), (oN 18 17, 2), (oF 19 2 18, 6), (oL 20 19, 14), (oO 21 (.ld (some 9) (.t 7)), 0), (oO 22 (.bsl true 9 1 [(.int .i64 0), (.int .i64 0), (.int .i64 0), (.int .i64 0), (.int .i64 0), (.int .i64 0), (.int .i64 0), (.str ⟨#[]⟩), .nils] [(0, 9, (.t 21))]), 32), (oO 23 (.app 9 96 (.t 20) (.t 22)), 126), (oN 24 16, 255), (oF 25 2 24, 511), (oS (.st 1 (.t 25) (.t 23)), 1023)]))))
 (.reg [oO 26 (.bin .num .add (.t 10) (.c (.int .i64 1))), oV 10 26]))))))⟩
def a118 : AFn := ⟨26, [],
 .seq (.reg [oL 7 1, oO 8 (.bin .num .add (.t 7) (.c (.int .i64 1))), oV 4 8])
 (.seq (.reg [oF 9 3 2, oL 10 9, oO 11 (.len false (.t 10)), oO 12 (.mv (.c (.int .i64 0)))])
 (.block 0 (.loop (.seq (.reg [oO 13 (.bin .num .lss (.t 12) (.t 11))])
 (.seq (.cond (.t 13) (.skip) (.exit 0))
 (.seq (.block 1 (.seq (.reg [oO 14 (.ia 5 (.t 10) (.t 12)), oO 15 (.ld (some 5) (.t 14)), oO 6 (.alloc 24 [(.int .i64 0), (.str ⟨#[]⟩), (.int .i64 0), .nils, (.int .i64 0)]), oS (.st 5 (.t 6) (.t 15))])
 (.seq (.seq (.reg [oV 16 0, oV 17 4, oO 18 (.ld (some 5) (.t 6)), oO 19 (.callv .no (.t 16) [(.t 17), (.t 18)]), oO 20 (.un .not (.t 19))])
 (.cond (.t 20) (.ret) (.skip)))
 (.reg [oV 21 4, oO 22 (.ld (some 5) (.t 6)), oO 23 (.call .full 50 [(.t 22)]), oO 24 (.bin .num .add (.t 21) (.t 23)), oV 4 24]))))
 (.reg [oO 25 (.bin .num .add (.t 12) (.c (.int .i64 1))), oV 12 25])))))))⟩
def a119 : AFn := ⟨20, [],
 .seq (.reg [oO 5 (.box 24 (.t 1)), oO 6 (.box 87 (.t 2))])
 (.dreg [(oV 8 0, 0), (oF 9 1 6, 0), (oL 10 9, 2), (oV 11 0, 0), (oF 12 2 5, 0), (oL 13 12, 16), (oO 14 (.call .no 82 [(.t 11), (.t 13)]), 56), (oF 15 0 6, 0), (oL 16 15, 128), (oO 17 (.call .full 158 [(.t 14), (.t 16)]), 504), (oO 18 (.bsl true 9 1 [(.int .i64 0), (.int .i64 0), (.int .i64 0), (.int .i64 0), (.int .i64 0), (.int .i64 0), (.int .i64 0), (.str ⟨#[]⟩), .nils] [(0, 9, (.t 17))]), 1016), (oO 19 (.call .no 117 [(.t 8), (.t 10), (.t 18)]), 2047)])⟩
def a120 : AFn := ⟨28, [],
 .seq (.reg [oO 5 (.box 24 (.t 1)), oO 6 (.box 87 (.t 2))])
 (.seq (.reg [oV 12 0, oF 13 1 6, oL 14 13, oO 15 (.call .no 51 [(.t 12), (.t 14)]), oV 11 15, oO 16 (.ext 0 (.t 11)), oO 17 (.ext 1 (.t 11)), oO 18 (.ext 2 (.t 11)), oV 8 16, oV 9 17, oV 10 18])
 (.dreg [(oV 19 0, 0), (oF 20 1 6, 0), (oL 21 20, 2), (oV 22 8, 0), (oF 23 0 6, 0), (oL 24 23, 16), (oO 25 (.call .full 158 [(.t 22), (.t 24)]), 56), (oO 26 (.bsl true 9 1 [(.int .i64 0), (.int .i64 0), (.int .i64 0), (.int .i64 0), (.int .i64 0), (.int .i64 0), (.int .i64 0), (.str ⟨#[]⟩), .nils] [(0, 9, (.t 25))]), 120), (oO 27 (.call .no 117 [(.t 19), (.t 21), (.t 26)]), 255)]))⟩
def a121 : AFn := ⟨44, [],
 .seq (.reg [oO 5 (.box 24 (.t 1)), oO 6 (.box 87 (.t 2))])
 (.seq (.reg [oV 10 0, oF 11 1 6, oL 12 11, oF 13 0 6, oL 14 13, oF 15 2 5, oL 16 15, oO 17 (.build [(.int .i64 0), (.int .i64 0), (.int .i64 0), (.int .i64 0), (.int .i64 0), (.int .i64 0), (.int .i64 0), (.str ⟨#[]⟩), .nils] [(0, 1, (.c (.int .i64 1))), (2, 1, (.t 14)), (6, 1, (.t 16))]), oO 18 (.bsl true 9 1 [(.int .i64 0), (.int .i64 0), (.int .i64 0), (.int .i64 0), (.int .i64 0), (.int .i64 0), (.int .i64 0), (.str ⟨#[]⟩), .nils] [(0, 9, (.t 17))]), oO 19 (.call .no 117 [(.t 10), (.t 12), (.t 18)])])
 (.seq (.reg [oF 20 3 5, oL 21 20, oO 22 (.len false (.t 21)), oO 23 (.mv (.c (.int .i64 0)))])
 (.block 0 (.loop (.seq (.reg [oO 24 (.bin .num .lss (.t 23) (.t 22))])
 (.seq (.cond (.t 24) (.skip) (.exit 0))
 (.seq (.block 1 (.seq (.reg [oV 25 23, oO 26 (.ia 5 (.t 21) (.t 23)), oO 27 (.ld (some 5) (.t 26)), oO 9 (.alloc 24 [(.int .i64 0), (.str ⟨#[]⟩), (.int .i64 0), .nils, (.int .i64 0)]), oV 8 25, oS (.st 5 (.t 9) (.t 27))])
 (.dreg [(oV 28 0, 0), (oF 29 1 6, 0), (oL 30 29, 2), (oF 31 0 6, 0), (oL 32 31, 8), (oF 33 1 9, 0), (oL 34 33, 32), (oV 35 3, 0), (oV 36 8, 0), (oO 37 (.ia 1 (.t 35) (.t 36)), 384), (oL 38 37, 896), (oO 39 (.bin .num .add (.t 38) (.c (.int .i64 1))), 1920), (oO 40 (.build [(.int .i64 0), (.int .i64 0), (.int .i64 0), (.int .i64 0), (.int .i64 0), (.int .i64 0), (.int .i64 0), (.str ⟨#[]⟩), .nils] [(0, 1, (.c (.int .i64 6))), (2, 1, (.t 32)), (7, 1, (.t 34)), (3, 1, (.t 39))]), 4088), (oO 41 (.bsl true 9 1 [(.int .i64 0), (.int .i64 0), (.int .i64 0), (.int .i64 0), (.int .i64 0), (.int .i64 0), (.int .i64 0), (.str ⟨#[]⟩), .nils] [(0, 9, (.t 40))]), 8184), (oO 42 (.call .no 117 [(.t 28), (.t 30), (.t 41)]), 16383)])))
 (.reg [oO 43 (.bin .num .add (.t 23) (.c (.int .i64 1))), oV 23 43]))))))))⟩
def a122 : AFn := ⟨28, [],
 .seq (.reg [oO 5 (.box 24 (.t 1)), oO 6 (.box 87 (.t 2))])
 (.seq (.dreg [(oV 9 3, 0), (oO 10 (.ia 1 (.t 9) (.c (.int .i64 0))), 1), (oL 11 10, 3), (oF 12 0 6, 0), (oL 13 12, 8), (oO 14 (.build [(.int .i64 0), (.int .i64 0), (.int .i64 0), (.int .i64 0), (.int .i64 0), (.int .i64 0), (.int .i64 0), (.str ⟨#[]⟩), .nils] [(0, 1, (.c (.int .i64 5))), (2, 1, (.t 11)), (3, 1, (.t 13))]), 31), (oO 8 (.alloc 55 [(.int .i64 0), (.int .i64 0), (.int .i64 0), (.int .i64 0), (.int .i64 0), (.int .i64 0), (.int .i64 0), (.str ⟨#[]⟩), .nils]), 0), (oS (.st 9 (.t 8) (.t 14)), 127)])
 (.seq (.seq (.reg [oF 15 0 5, oL 16 15, oO 17 (.bin .num .eql (.t 16) (.c (.int .i64 13)))])
 (.cond (.t 17) (.dreg [(oF 18 1 5, 0), (oL 19 18, 1), (oF 20 0 8, 0), (oS (.st 1 (.t 20) (.c (.int .i64 4))), 4), (oF 21 7 8, 15), (oS (.st 1 (.t 21) (.t 19)), 31)]) (.skip)))
 (.reg [oV 22 0, oF 23 1 6, oL 24 23, oO 25 (.ld (some 9) (.t 8)), oO 26 (.bsl true 9 1 [(.int .i64 0), (.int .i64 0), (.int .i64 0), (.int .i64 0), (.int .i64 0), (.int .i64 0), (.int .i64 0), (.str ⟨#[]⟩), .nils] [(0, 9, (.t 25))]), oO 27 (.call .no 117 [(.t 22), (.t 24), (.t 26)])])))⟩
def a123 : AFn := ⟨52, [],
 .seq (.reg [oO 5 (.box 24 (.t 1)), oO 6 (.box 87 (.t 2))])
 (.seq (.dreg [(oV 10 3, 0), (oO 11 (.ia 1 (.t 10) (.c (.int .i64 0))), 1), (oL 12 11, 3), (oO 13 (.bin .num .add (.t 12) (.c (.int .i64 1))), 7), (oV 14 3, 0), (oO 15 (.ia 1 (.t 14) (.c (.int .i64 1))), 16), (oL 16 15, 48), (oO 17 (.build [(.int .i64 0), (.int .i64 0), (.int .i64 0), (.int .i64 0), (.int .i64 0), (.int .i64 0), (.int .i64 0), (.str ⟨#[]⟩), .nils] [(0, 1, (.c (.int .i64 7))), (2, 1, (.t 13)), (3, 1, (.t 16))]), 127), (oO 8 (.alloc 55 [(.int .i64 0), (.int .i64 0), (.int .i64 0), (.int .i64 0), (.int .i64 0), (.int .i64 0), (.int .i64 0), (.str ⟨#[]⟩), .nils]), 0), (oS (.st 9 (.t 8) (.t 17)), 511)])
 (.seq (.seq (.reg [oF 18 3 5, oL 19 18, oO 20 (.ia 5 (.t 19) (.c (.int .i64 0))), oO 21 (.ld (some 5) (.t 20)), oO 9 (.alloc 24 [(.int .i64 0), (.str ⟨#[]⟩), (.int .i64 0), .nils, (.int .i64 0)]), oS (.st 5 (.t 9) (.t 21))])
 (.seq (.reg [oF 22 0 9, oL 23 22])
 (.block 0 (.seq (.reg [oO 25 (.bin .num .eql (.t 23) (.c (.int .i64 1))), oV 24 25])
 (.cond (.t 24) (.dreg [(oV 26 3, 0), (oO 27 (.ia 1 (.t 26) (.c (.int .i64 1))), 1), (oL 28 27, 3), (oV 29 0, 0), (oF 30 2 9, 0), (oL 31 30, 16), (oO 32 (.call .no 82 [(.t 29), (.t 31)]), 56), (oO 33 (.call .full 158 [(.t 28), (.t 32)]), 127), (oS (.st 9 (.t 8) (.t 33)), 255)]) (.seq (.reg [oO 35 (.bin .num .eql (.t 23) (.c (.int .i64 13))), oV 34 35])
 (.cond (.t 34) (.dreg [(oF 36 1 9, 0), (oL 37 36, 1), (oF 38 0 8, 0), (oS (.st 1 (.t 38) (.c (.int .i64 6))), 4), (oF 39 7 8, 15), (oS (.st 1 (.t 39) (.t 37)), 31)]) (.skip))))))))
 (.dreg [(oV 40 0, 0), (oF 41 1 6, 0), (oL 42 41, 2), (oO 43 (.ld (some 9) (.t 8)), 0), (oV 44 3, 0), (oO 45 (.ia 1 (.t 44) (.c (.int .i64 1))), 16), (oL 46 45, 48), (oF 47 0 6, 0), (oL 48 47, 128), (oO 49 (.call .full 158 [(.t 46), (.t 48)]), 496), (oO 50 (.bsl true 9 2 [(.int .i64 0), (.int .i64 0), (.int .i64 0), (.int .i64 0), (.int .i64 0), (.int .i64 0), (.int .i64 0), (.str ⟨#[]⟩), .nils, (.int .i64 0), (.int .i64 0), (.int .i64 0), (.int .i64 0), (.int .i64 0), (.int .i64 0), (.int .i64 0), (.str ⟨#[]⟩), .nils] [(0, 9, (.t 43)), (9, 9, (.t 49))]), 1016), (oO 51 (.call .no 117 [(.t 40), (.t 42), (.t 50)]), 2047)])))⟩
def a124 : AFn := ⟨55, [],
 .seq (.reg [oO 5 (.box 24 (.t 1)), oO 6 (.box 87 (.t 2))])
 (.seq (.reg [oF 8 0 5, oL 9 8])
 (.block 0 (.seq (.block 3 (.seq (.block 2 (.seq (.block 1 (.seq (.seq (.seq (.reg [oO 11 (.bin .num .eql (.t 9) (.c (.int .i64 22))), oV 10 11])
 (.cond (.t 10) (.exit 1) (.skip)))
 (.seq (.seq (.reg [oO 13 (.bin .num .eql (.t 9) (.c (.int .i64 21))), oV 12 13])
 (.cond (.t 12) (.exit 2) (.skip)))
 (.seq (.reg [oO 15 (.bin .num .eql (.t 9) (.c (.int .i64 23))), oV 14 15])
 (.cond (.t 14) (.exit 3) (.skip)))))
 (.exit 0)))
 (.dreg [(oV 16 0, 0), (oF 17 1 6, 0), (oL 18 17, 2), (oV 19 3, 0), (oO 20 (.ia 1 (.t 19) (.c (.int .i64 0))), 8), (oL 21 20, 24), (oF 22 0 6, 0), (oL 23 22, 64), (oO 24 (.call .full 158 [(.t 21), (.t 23)]), 248), (oO 25 (.bsl true 9 1 [(.int .i64 0), (.int .i64 0), (.int .i64 0), (.int .i64 0), (.int .i64 0), (.int .i64 0), (.int .i64 0), (.str ⟨#[]⟩), .nils] [(0, 9, (.t 24))]), 504), (oO 26 (.call .no 117 [(.t 16), (.t 18), (.t 25)]), 1023)])))
 (.seq (.dreg [(oV 27 0, 0), (oF 28 1 6, 0), (oL 29 28, 2), (oV 30 3, 0), (oO 31 (.ia 1 (.t 30) (.c (.int .i64 1))), 8), (oL 32 31, 24), (oF 33 0 6, 0), (oL 34 33, 64), (oO 35 (.call .full 158 [(.t 32), (.t 34)]), 248), (oO 36 (.bsl true 9 1 [(.int .i64 0), (.int .i64 0), (.int .i64 0), (.int .i64 0), (.int .i64 0), (.int .i64 0), (.int .i64 0), (.str ⟨#[]⟩), .nils] [(0, 9, (.t 35))]), 504), (oO 37 (.call .no 117 [(.t 27), (.t 29), (.t 36)]), 1023)])
 (.exit 0))))
 (.seq (.dreg [(oV 38 0, 0), (oF 39 1 6, 0), (oL 40 39, 2), (oV 41 3, 0), (oO 42 (.ia 1 (.t 41) (.c (.int .i64 1))), 8), (oL 43 42, 24), (oF 44 0 6, 0), (oL 45 44, 64), (oO 46 (.call .full 158 [(.t 43), (.t 45)]), 248), (oV 47 3, 0), (oO 48 (.ia 1 (.t 47) (.c (.int .i64 2))), 512), (oL 49 48, 1536), (oF 50 0 6, 0), (oL 51 50, 4096), (oO 52 (.call .full 158 [(.t 49), (.t 51)]), 16376), (oO 53 (.bsl true 9 2 [(.int .i64 0), (.int .i64 0), (.int .i64 0), (.int .i64 0), (.int .i64 0), (.int .i64 0), (.int .i64 0), (.str ⟨#[]⟩), .nils, (.int .i64 0), (.int .i64 0), (.int .i64 0), (.int .i64 0), (.int .i64 0), (.int .i64 0), (.int .i64 0), (.str ⟨#[]⟩), .nils] [(0, 9, (.t 46)), (9, 9, (.t 52))]), 32760), (oO 54 (.call .no 117 [(.t 38), (.t 40), (.t 53)]), 65535)])
 (.exit 0)))))⟩
def a125 : AFn := ⟨50, [],
 .seq (.reg [oO 5 (.box 24 (.t 1)), oO 6 (.box 87 (.t 2))])
 (.seq (.dreg [(oV 10 3, 0), (oO 11 (.ia 1 (.t 10) (.c (.int .i64 0))), 1), (oL 12 11, 3), (oV 13 3, 0), (oO 14 (.slc (some 1) (.t 13) (some (.c (.int .i64 1))) none), 8), (oF 15 0 6, 0), (oL 16 15, 32), (oF 17 2 6, 0), (oL 18 17, 128), (oF 19 2 5, 0), (oL 20 19, 512), (oO 21 (.build [(.int .i64 0), (.int .i64 0), (.int .i64 0), (.int .i64 0), (.int .i64 0), (.int .i64 0), (.int .i64 0), (.str ⟨#[]⟩), .nils] [(0, 1, (.c (.int .i64 9))), (2, 1, (.t 12)), (8, 1, (.t 14)), (3, 1, (.t 16)), (5, 1, (.t 18)), (6, 1, (.t 20))]), 2047), (oO 8 (.alloc 55 [(.int .i64 0), (.int .i64 0), (.int .i64 0), (.int .i64 0), (.int .i64 0), (.int .i64 0), (.int .i64 0), (.str ⟨#[]⟩), .nils]), 0), (oS (.st 9 (.t 8) (.t 21)), 8191)])
 (.seq (.seq (.reg [oF 22 0 5, oL 23 22, oO 24 (.bin .num .eql (.t 23) (.c (.int .i64 15)))])
 (.cond (.t 24) (.seq (.reg [oF 25 0 8, oS (.st 1 (.t 25) (.c (.int .i64 8))), oF 26 4 8, oS (.st 1 (.t 26) (.c (.int .i64 (-1))))])
 (.seq (.reg [oF 27 3 5, oL 28 27, oO 29 (.ia 5 (.t 28) (.c (.int .i64 0))), oO 30 (.ld (some 5) (.t 29)), oO 9 (.alloc 24 [(.int .i64 0), (.str ⟨#[]⟩), (.int .i64 0), .nils, (.int .i64 0)]), oS (.st 5 (.t 9) (.t 30))])
 (.seq (.reg [oF 31 0 9, oL 32 31, oO 33 (.bin .num .eql (.t 32) (.c (.int .i64 13))), oV 34 33, oG 35 (.fa 0 (.t 9)) 34 false, oG 36 (.ld none (.t 35)) 34 false, oG 37 (.bin .num .eql (.t 36) (.c (.int .i64 14))) 34 false, oO 38 (.pick (.t 34) (.c (.bool true)) (.t 37))])
 (.cond (.t 38) (.reg [oV 39 3, oO 40 (.ia 1 (.t 39) (.c (.int .i64 0))), oL 41 40, oO 42 (.bin .num .add (.t 41) (.c (.int .i64 1))), oF 43 4 8, oS (.st 1 (.t 43) (.t 42))]) (.skip))))) (.skip)))
 (.reg [oV 44 0, oF 45 1 6, oL 46 45, oO 47 (.ld (some 9) (.t 8)), oO 48 (.bsl true 9 1 [(.int .i64 0), (.int .i64 0), (.int .i64 0), (.int .i64 0), (.int .i64 0), (.int .i64 0), (.int .i64 0), (.str ⟨#[]⟩), .nils] [(0, 9, (.t 47))]), oO 49 (.call .no 117 [(.t 44), (.t 46), (.t 48)])])))⟩
def a126 : AFn := ⟨24, [],
 .seq (.reg [oO 5 (.box 24 (.t 1)), oO 6 (.box 87 (.t 2))])
 (.seq (.reg [oV 8 3, oO 9 (.len false (.t 8)), oO 10 (.bin .num .gtr (.t 9) (.c (.int .i64 0)))])
 (.cond (.t 10) (.dreg [(oV 11 0, 0), (oF 12 1 6, 0), (oL 13 12, 2), (oV 14 3, 0), (oO 15 (.ia 1 (.t 14) (.c (.int .i64 0))), 8), (oL 16 15, 24), (oV 17 0, 0), (oF 18 2 5, 0), (oL 19 18, 128), (oO 20 (.call .no 82 [(.t 17), (.t 19)]), 448), (oO 21 (.call .full 158 [(.t 16), (.t 20)]), 1016), (oO 22 (.bsl true 9 1 [(.int .i64 0), (.int .i64 0), (.int .i64 0), (.int .i64 0), (.int .i64 0), (.int .i64 0), (.int .i64 0), (.str ⟨#[]⟩), .nils] [(0, 9, (.t 21))]), 2040), (oO 23 (.call .no 117 [(.t 11), (.t 13), (.t 22)]), 4095)]) (.skip)))⟩
def a127 : AFn := ⟨37, [],
 .seq (.reg [oO 5 (.box 24 (.t 1)), oO 6 (.box 87 (.t 2))])
 (.seq (.seq (.reg [oV 11 3, oO 12 (.len false (.t 11)), oO 13 (.bin .num .eql (.t 12) (.c (.int .i64 0)))])
 (.cond (.t 13) (.ret) (.skip)))
 (.seq (.reg [oV 15 0, oF 16 1 6, oL 17 16, oO 18 (.call .no 51 [(.t 15), (.t 17)]), oV 14 18, oO 19 (.ext 0 (.t 14)), oO 20 (.ext 1 (.t 14)), oO 21 (.ext 2 (.t 14)), oV 8 19, oV 9 20, oV 10 21])
 (.seq (.seq (.reg [oF 22 0 5, oL 23 22, oO 24 (.bin .num .eql (.t 23) (.c (.int .i64 37)))])
 (.cond (.t 24) (.reg [oF 25 2 6, oL 26 25, oV 9 26]) (.skip)))
 (.dreg [(oV 27 0, 0), (oF 28 1 6, 0), (oL 29 28, 2), (oV 30 3, 0), (oO 31 (.ia 1 (.t 30) (.c (.int .i64 0))), 8), (oL 32 31, 24), (oV 33 9, 0), (oO 34 (.call .full 158 [(.t 32), (.t 33)]), 120), (oO 35 (.bsl true 9 1 [(.int .i64 0), (.int .i64 0), (.int .i64 0), (.int .i64 0), (.int .i64 0), (.int .i64 0), (.int .i64 0), (.str ⟨#[]⟩), .nils] [(0, 9, (.t 34))]), 248), (oO 36 (.call .no 117 [(.t 27), (.t 29), (.t 35)]), 511)]))))⟩
def a131 : AFn := ⟨25, [.tmp 2],
 .seq (.reg [oO 2 (.mv (.c (.bool false)))])
 (.seq (.reg [oV 3 0, oO 4 (.bin .num .geq (.t 3) (.c (.int .u8 97))), oV 5 4, oG 6 (.mv (.t 0)) 5 true, oG 7 (.bin .num .leq (.t 6) (.c (.int .u8 122))) 5 true, oO 8 (.pick (.t 5) (.t 7) (.c (.bool false))), oV 9 8, oG 10 (.mv (.t 0)) 9 false, oG 11 (.bin .num .geq (.t 10) (.c (.int .u8 65))) 9 false, oG 12 (.mv (.t 11)) 9 false, oG 13 (.mv (.t 0)) 12 true, oG 14 (.bin .num .leq (.t 13) (.c (.int .u8 90))) 12 true, oG 15 (.pick (.t 12) (.t 14) (.c (.bool false))) 9 false, oO 16 (.pick (.t 9) (.c (.bool true)) (.t 15)), oV 17 16, oG 18 (.mv (.t 0)) 17 false, oG 19 (.bin .num .eql (.t 18) (.c (.int .u8 95))) 17 false, oO 20 (.pick (.t 17) (.c (.bool true)) (.t 19)), oV 21 20, oG 22 (.mv (.t 0)) 21 false, oG 23 (.bin .num .eql (.t 22) (.c (.int .u8 36))) 21 false, oO 24 (.pick (.t 21) (.c (.bool true)) (.t 23)), oV 2 24])
 (.ret))⟩
def a132 : AFn := ⟨23, [.tmp 2],
 .seq (.reg [oO 2 (.mv (.c (.int .i64 0)))])
 (.seq (.reg [oO 3 (.mv (.c (.int .i64 0)))])
 (.seq (.block 0 (.loop (.seq (.seq (.reg [oV 4 3, oV 5 0, oO 6 (.len true (.t 5)), oO 7 (.bin .num .lss (.t 4) (.t 6)), oV 8 7, oG 9 (.mv (.t 0)) 8 true, oG 10 (.mv (.t 3)) 8 true, oG 11 (.ixs (.t 9) (.t 10)) 8 true, oG 12 (.call .full 131 [(.t 11)]) 8 true, oG 13 (.mv (.t 12)) 8 true, oG 14 (.mv (.t 0)) 13 false, oG 15 (.mv (.t 3)) 13 false, oG 16 (.ixs (.t 14) (.t 15)) 13 false, oG 17 (.call .full 159 [(.t 16)]) 13 false, oG 18 (.pick (.t 13) (.c (.bool true)) (.t 17)) 8 true, oO 19 (.pick (.t 8) (.t 18) (.c (.bool false)))])
 (.cond (.t 19) (.skip) (.exit 0)))
 (.block 1 (.reg [oV 20 3, oO 21 (.bin .num .add (.t 20) (.c (.int .i64 1))), oV 3 21])))))
 (.seq (.reg [oV 22 3, oV 2 22])
 (.ret))))⟩
def a133 : AFn := ⟨6, [.tmp 2],
 .seq (.reg [oO 2 (.mv (.c (.bool false)))])
 (.seq (.reg [oO 3 (.call .no 160 []), oV 4 0, oO 5 (.lkp true (.bool false) false (.t 3) (.t 4)), oV 2 5])
 (.ret))⟩
def a134 : AFn := ⟨9, [.tmp 4],
 .seq (.reg [oO 4 (.mv (.c (.bool false)))])
 (.seq (.reg [oV 5 0, oV 6 1, oO 7 (.call .full 116 [(.t 5), (.t 6)]), oO 8 (.bin .num .geq (.t 7) (.c (.int .i64 0))), oV 4 8])
 (.ret))⟩
def a135 : AFn := ⟨106, [.tmp 2],
 .seq (.reg [oO 2 (.mv (.c .nils))])
 (.seq (.reg [oO 3 (.mv (.c (.int .i64 0)))])
 (.seq (.reg [oO 4 (.mv (.c (.int .i64 1)))])
 (.seq (.reg [oO 5 (.mv (.c (.int .u8 0)))])
 (.seq (.seq (.reg [oO 6 (.mv (.c (.int .i64 0)))])
 (.block 0 (.loop (.seq (.seq (.reg [oV 13 6, oV 14 0, oO 15 (.len true (.t 14)), oO 16 (.bin .num .lss (.t 13) (.t 15))])
 (.cond (.t 16) (.skip) (.exit 0)))
 (.seq (.block 1 (.seq (.reg [oV 19 0, oV 20 6, oO 21 (.ixs (.t 19) (.t 20)), oV 7 21])
 (.seq (.reg [oV 22 5, oV 23 7, oO 24 (.bin .num .or (.t 22) (.t 23)), oV 5 24])
 (.seq (.reg [oV 25 7, oO 26 (.iaa 256 1 (.g 1) (.t 25)), oL 27 26, oO 28 (.cvi .i64 (.t 27)), oV 8 28])
 (.seq (.reg [oV 29 3, oV 30 4, oV 31 8, oO 32 (.un .xor (.t 31)), oO 33 (.bin .num .and (.t 30) (.t 32)), oO 34 (.bin .num .add (.t 29) (.t 33)), oV 3 34])
 (.reg [oV 35 8, oV 4 35]))))))
 (.reg [oV 17 6, oO 18 (.bin .num .add (.t 17) (.c (.int .i64 1))), oV 6 18]))))))
 (.seq (.seq (.reg [oV 36 5, oO 37 (.bin .num .geq (.t 36) (.c (.int .u8 128)))])
 (.cond (.t 37) (.seq (.reg [oV 38 0, oO 39 (.call .full 161 [(.t 38), (.c (.fn 162 [] []))]), oV 2 39])
 (.ret)) (.skip)))
 (.seq (.reg [oV 40 3, oO 41 (.mkh 9 16 [(.str ⟨#[]⟩)] (.t 40) (.t 40)), oV 9 41])
 (.seq (.reg [oO 10 (.mv (.c (.int .i64 0)))])
 (.seq (.reg [oO 11 (.mv (.c (.int .i64 0)))])
 (.seq (.reg [oO 12 (.mv (.c (.int .i64 0)))])
 (.seq (.block 2 (.loop (.seq (.seq (.reg [oV 42 12, oV 43 0, oO 44 (.len true (.t 43)), oO 45 (.bin .num .lss (.t 42) (.t 44)), oV 46 45, oG 47 (.mv (.t 0)) 46 true, oG 48 (.mv (.t 12)) 46 true, oG 49 (.ixs (.t 47) (.t 48)) 46 true, oG 50 (.iaa 256 1 (.g 1) (.t 49)) 46 true, oG 51 (.ld none (.t 50)) 46 true, oG 52 (.bin .num .neq (.t 51) (.c (.int .u8 0))) 46 true, oO 53 (.pick (.t 46) (.t 52) (.c (.bool false)))])
 (.cond (.t 53) (.skip) (.exit 2)))
 (.block 3 (.reg [oV 54 12, oO 55 (.bin .num .add (.t 54) (.c (.int .i64 1))), oV 12 55])))))
 (.seq (.reg [oV 56 12, oV 11 56])
 (.seq (.block 4 (.loop (.seq (.seq (.reg [oV 57 12, oV 58 0, oO 59 (.len true (.t 58)), oO 60 (.bin .num .lss (.t 57) (.t 59))])
 (.cond (.t 60) (.skip) (.exit 4)))
 (.block 5 (.seq (.seq (.reg [oV 61 0, oV 62 12, oO 63 (.ixs (.t 61) (.t 62)), oO 64 (.iaa 256 1 (.g 1) (.t 63)), oL 65 64, oO 66 (.bin .num .eql (.t 65) (.c (.int .u8 0)))])
 (.cond (.t 66) (.seq (.reg [oV 67 12, oO 68 (.bin .num .add (.t 67) (.c (.int .i64 1))), oV 12 68])
 (.exit 5)) (.skip)))
 (.seq (.reg [oV 69 9, oV 70 10, oV 71 0, oV 72 11, oV 73 12, oO 74 (.slc none (.t 71) (some (.t 72)) (some (.t 73))), oO 75 (.ia 1 (.t 69) (.t 70)), oS (.st 1 (.t 75) (.t 74))])
 (.seq (.reg [oV 76 10, oO 77 (.bin .num .add (.t 76) (.c (.int .i64 1))), oV 10 77])
 (.seq (.reg [oV 78 12, oO 79 (.bin .num .add (.t 78) (.c (.int .i64 1))), oV 12 79])
 (.seq (.block 6 (.loop (.seq (.seq (.reg [oV 80 12, oV 81 0, oO 82 (.len true (.t 81)), oO 83 (.bin .num .lss (.t 80) (.t 82)), oV 84 83, oG 85 (.mv (.t 0)) 84 true, oG 86 (.mv (.t 12)) 84 true, oG 87 (.ixs (.t 85) (.t 86)) 84 true, oG 88 (.iaa 256 1 (.g 1) (.t 87)) 84 true, oG 89 (.ld none (.t 88)) 84 true, oG 90 (.bin .num .neq (.t 89) (.c (.int .u8 0))) 84 true, oO 91 (.pick (.t 84) (.t 90) (.c (.bool false)))])
 (.cond (.t 91) (.skip) (.exit 6)))
 (.block 7 (.reg [oV 92 12, oO 93 (.bin .num .add (.t 92) (.c (.int .i64 1))), oV 12 93])))))
 (.reg [oV 94 12, oV 11 94]))))))))))
 (.seq (.seq (.reg [oV 95 11, oV 96 0, oO 97 (.len true (.t 96)), oO 98 (.bin .num .lss (.t 95) (.t 97))])
 (.cond (.t 98) (.reg [oV 99 9, oV 100 10, oV 101 0, oV 102 11, oO 103 (.slc none (.t 101) (some (.t 102)) none), oO 104 (.ia 1 (.t 99) (.t 100)), oS (.st 1 (.t 104) (.t 103))]) (.skip)))
 (.seq (.reg [oO 105 (.frz (.t 9)), oV 2 105])
 (.ret)))))))))))))))⟩
def a136 : AFn := ⟨5, [.tmp 2],
 .seq (.reg [oO 2 (.mv (.c (.bool false)))])
 (.seq (.reg [oV 3 0, oO 4 (.bin .num .eql (.t 3) (.c (.int .i64 32))), oV 2 4])
 (.ret))⟩
def a137 : AFn := ⟨5, [.tmp 2],
 .seq (.reg [oO 2 (.mv (.c (.bool false)))])
 (.seq (.reg [oV 3 0, oO 4 (.call .full 138 [(.t 3)]), oV 2 4])
 (.ret))⟩
def a138 : AFn := ⟨13, [.tmp 2],
 .seq (.reg [oO 2 (.mv (.c (.bool false)))])
 (.seq (.reg [oV 3 0, oO 4 (.bin .num .geq (.t 3) (.c (.int .i64 1))), oV 5 4, oG 6 (.mv (.t 0)) 5 true, oG 7 (.bin .num .leq (.t 6) (.c (.int .i64 23))) 5 true, oO 8 (.pick (.t 5) (.t 7) (.c (.bool false))), oV 9 8, oG 10 (.mv (.t 0)) 9 true, oG 11 (.bin .num .neq (.t 10) (.c (.int .i64 12))) 9 true, oO 12 (.pick (.t 9) (.t 11) (.c (.bool false))), oV 2 12])
 (.ret))⟩
def a139 : AFn := ⟨5, [.tmp 2],
 .seq (.reg [oO 2 (.mv (.c (.bool false)))])
 (.seq (.reg [oV 3 0, oO 4 (.bin .num .eql (.t 3) (.c (.int .i64 1))), oV 2 4])
 (.ret))⟩
def a140 : AFn := ⟨5, [.tmp 2],
 .seq (.reg [oO 2 (.mv (.c (.bool false)))])
 (.seq (.reg [oV 3 0, oO 4 (.bin .num .eql (.t 3) (.c (.int .i64 12))), oV 2 4])
 (.ret))⟩
def a141 : AFn := ⟨9, [.tmp 2],
 .seq (.reg [oO 2 (.mv (.c (.bool false)))])
 (.seq (.reg [oV 3 0, oO 4 (.bin .num .geq (.t 3) (.c (.int .i64 30))), oV 5 4, oG 6 (.mv (.t 0)) 5 true, oG 7 (.bin .num .leq (.t 6) (.c (.int .i64 41))) 5 true, oO 8 (.pick (.t 5) (.t 7) (.c (.bool false))), oV 2 8])
 (.ret))⟩
def a142 : AFn := ⟨13, [.tmp 2],
 .seq (.reg [oO 2 (.mv (.c (.bool false)))])
 (.seq (.reg [oV 3 0, oO 4 (.bin .num .eql (.t 3) (.c (.int .i64 1))), oV 5 4, oG 6 (.mv (.t 0)) 5 false, oG 7 (.bin .num .eql (.t 6) (.c (.int .i64 13))) 5 false, oO 8 (.pick (.t 5) (.c (.bool true)) (.t 7)), oV 9 8, oG 10 (.mv (.t 0)) 9 false, oG 11 (.bin .num .eql (.t 10) (.c (.int .i64 14))) 9 false, oO 12 (.pick (.t 9) (.c (.bool true)) (.t 11)), oV 2 12])
 (.ret))⟩
def a143 : AFn := ⟨29, [],
 .seq (.reg [oO 2 (.box 33 (.t 0))])
 (.seq (.seq (.reg [oL 6 2, oO 7 (.ld (some 5) (.t 1)), oO 8 (.callv .no (.t 6) [(.t 7)]), oO 9 (.un .not (.t 8)), oV 10 9, oG 11 (.ld (some 5) (.t 1)) 10 false, oG 12 (.call .full 96 [(.t 11)]) 10 false, oO 13 (.pick (.t 10) (.c (.bool true)) (.t 12))])
 (.cond (.t 13) (.ret) (.skip)))
 (.seq (.reg [oF 14 3 1, oL 15 14, oO 16 (.len false (.t 15)), oO 17 (.mv (.c (.int .i64 0)))])
 (.block 0 (.loop (.seq (.reg [oO 18 (.bin .num .lss (.t 17) (.t 16))])
 (.seq (.cond (.t 18) (.skip) (.exit 0))
 (.seq (.block 1 (.seq (.reg [oO 19 (.ia 5 (.t 15) (.t 17)), oO 20 (.ld (some 5) (.t 19)), oO 4 (.alloc 24 [(.int .i64 0), (.str ⟨#[]⟩), (.int .i64 0), .nils, (.int .i64 0)]), oS (.st 5 (.t 4) (.t 20))])
 (.seq (.reg [oO 21 (.ld (some 5) (.t 4)), oO 22 (.call .no 95 [(.t 21)])])
 (.block 2 (.rf (.t 22) [23] (.reg [oO 5 (.alloc 24 [(.int .i64 0), (.str ⟨#[]⟩), (.int .i64 0), .nils, (.int .i64 0)]), oS (.st 5 (.t 5) (.t 23))]) (.block 3 (.seq (.reg [oL 24 2, oO 25 (.ld (some 5) (.t 5)), oO 26 (.callv .no (.t 24) [(.t 25)]), oO 27 (.un .not (.t 26))])
 (.cond (.t 27) (.ret) (.skip)))))))))
 (.reg [oO 28 (.bin .num .add (.t 17) (.c (.int .i64 1))), oV 17 28]))))))))⟩
def a144 : AFn := ⟨8, [.tmp 2],
 .seq (.reg [oO 2 (.mv (.c .nils))])
 (.seq (.seq (.reg [oV 3 0, oO 4 (.bin .sli .eql (.t 3) (.c .nils))])
 (.cond (.t 4) (.seq (.reg [oO 2 (.mv (.c .nils))])
 (.ret)) (.skip)))
 (.seq (.reg [oO 5 (.bsl true 5 0 [] []), oV 6 0, oO 7 (.app 5 64 (.t 5) (.t 6)), oV 2 7])
 (.ret)))⟩
def a145 : AFn := ⟨16, [.cell 2 (some 5)],
 .seq (.reg [qo 2 (.alloc 24 z5)])
 (.seq (.reg [qv 4 0, qo 5 (.call .no 103 [(.t 4), (qi 0)]), qo 6 (.fld 3 none (.t 5)), qo 7 (.build z5 [(0, 1, (qi 32)), (4, 1, (.t 6))]), qo 3 (.alloc 24 z5), ⟨none, .st 5 (.t 3) (.t 7), none⟩])
 (.seq (.reg [qv 8 0, qo 9 (.call .no 163 [(.t 8), (qs #[123])])])
 (.seq (.reg [qv 10 0, qo 11 (.call .no 73 [(.t 10)]), qf 12 3 3, ⟨none, .st 1 (.t 12) (.t 11), none⟩])
 (.seq (.reg [qv 13 0, qo 14 (.call .no 163 [(.t 13), (qs #[125])])])
 (.seq (.reg [qo 15 (.ld (some 5) (.t 3)), ⟨none, .st 5 (.t 2) (.t 15), none⟩])
 (.ret))))))⟩
def a146 : AFn := ⟨234, [.tmp 6],
 .seq (.reg [qo 6 (.mv (.c (.bool false)))])
 (.seq (.seq (.reg [qv 10 2])
 (.block 0 (.seq (.reg [qo 16 (.bin .str .eql (.t 10) (qs #[118, 97, 114])), qv 15 16])
 (.cond (.t 15) (.seq (.reg [qv 17 0, qn 18 17, qf 19 1 18, ql 20 19, qo 21 (.bin .num .add (.t 20) (qi 1)), qn 22 17, qf 23 1 22, ⟨none, .st 1 (.t 23) (.t 21), none⟩])
 (.seq (.reg [qv 24 1, qn 25 24, qf 26 0 25, ⟨none, .st 1 (.t 26) (qi 30), none⟩])
 (.seq (.reg [qv 27 1, qv 28 0, qo 29 (.call .no 164 [(.t 28)]), qn 30 27, qf 31 1 30, ⟨none, .st 1 (.t 31) (.t 29), none⟩])
 (.seq (.reg [qv 32 0, qo 33 (.call .no 105 [(.t 32), (qs #[61])]), qv 7 33])
 (.seq (.seq (.reg [qv 34 7])
 (.cond (.t 34) (.reg [qv 35 1, qv 36 0, qo 37 (.call .no 147 [(.t 36)]), qo 38 (.bsl true 5 1 z5 [(0, 5, (.t 37))]), qn 39 35, qf 40 3 39, ⟨none, .st 1 (.t 40) (.t 38), none⟩]) (.skip)))
 (.reg [qv 41 0, qo 42 (.call .no 148 [(.t 41)])])))))) (.seq (.reg [qo 44 (.bin .str .eql (.t 10) (qs #[105, 102])), qv 43 44])
 (.cond (.t 43) (.seq (.reg [qv 45 0, qn 46 45, qf 47 1 46, ql 48 47, qo 49 (.bin .num .add (.t 48) (qi 1)), qn 50 45, qf 51 1 50, ⟨none, .st 1 (.t 51) (.t 49), none⟩])
 (.seq (.reg [qv 52 1, qn 53 52, qf 54 0 53, ⟨none, .st 1 (.t 54) (qi 33), none⟩])
 (.seq (.reg [qv 55 1, qv 56 0, qo 57 (.call .no 165 [(.t 56)]), qo 58 (.bsl true 5 1 z5 [(0, 5, (.t 57))]), qn 59 55, qf 60 3 59, ⟨none, .st 1 (.t 60) (.t 58), none⟩])
 (.seq (.bad)
 (.seq (.reg [qv 73 0, qo 74 (.call .no 105 [(.t 73), (qs #[101, 108, 115, 101])]), qv 8 74])
 (.seq (.reg [qv 75 8])
 (.cond (.t 75) (.bad) (.skip)))))))) (.seq (.reg [qo 89 (.bin .str .eql (.t 10) (qs #[119, 104, 105, 108, 101])), qv 88 89])
 (.cond (.t 88) (.seq (.reg [qv 90 0, qn 91 90, qf 92 1 91, ql 93 92, qo 94 (.bin .num .add (.t 93) (qi 1)), qn 95 90, qf 96 1 95, ⟨none, .st 1 (.t 96) (.t 94), none⟩])
 (.seq (.reg [qv 97 1, qn 98 97, qf 99 0 98, ⟨none, .st 1 (.t 99) (qi 34), none⟩])
 (.seq (.reg [qv 100 1, qv 101 0, qo 102 (.call .no 165 [(.t 101)]), qo 103 (.bsl true 5 1 z5 [(0, 5, (.t 102))]), qn 104 100, qf 105 3 104, ⟨none, .st 1 (.t 105) (.t 103), none⟩])
 (.bad)))) (.seq (.reg [qo 119 (.bin .str .eql (.t 10) (qs #[102, 111, 114])), qv 118 119])
 (.cond (.t 118) (.seq (.reg [qv 120 0, qn 121 120, qf 122 1 121, ql 123 122, qo 124 (.bin .num .add (.t 123) (qi 1)), qn 125 120, qf 126 1 125, ⟨none, .st 1 (.t 126) (.t 124), none⟩])
 (.seq (.reg [qv 127 1, qn 128 127, qf 129 0 128, ⟨none, .st 1 (.t 129) (qi 35), none⟩])
 (.seq (.reg [qv 130 0, qo 131 (.call .no 163 [(.t 130), (qs #[40])])])
 (.seq (.reg [qv 132 0, qo 133 (.call .no 105 [(.t 132), (qs #[118, 97, 114])]), qv 9 133])
 (.seq (.seq (.reg [qv 134 9, qo 135 (.un .not (.t 134))])
 (.cond (.t 135) (.seq (.seq (.reg [qv 136 0, qo 137 (.call .no 103 [(.t 136), (qi 0)]), qo 138 (.fld 0 none (.t 137)), qo 139 (.bin .num .eql (.t 138) (qi 0))])
 (.cond (.t 139) (.reg [qv 140 0, qo 141 (.call .full 74 [(.t 140), (.c (.bool false))])]) (.skip)))
 (.reg [qv 142 0, qo 143 (.call .no 107 [(.t 142), (qi 47)])])) (.skip)))
 (.seq (.reg [qv 144 1, qv 145 0, qo 146 (.call .no 164 [(.t 145)]), qn 147 144, qf 148 1 147, ⟨none, .st 1 (.t 148) (.t 146), none⟩])
 (.seq (.reg [qv 149 0, qo 150 (.call .no 163 [(.t 149), (qs #[105, 110])])])
 (.seq (.reg [qv 151 1, qv 152 0, qo 153 (.call .no 147 [(.t 152)]), qo 154 (.bsl true 5 1 z5 [(0, 5, (.t 153))]), qn 155 151, qf 156 3 155, ⟨none, .st 1 (.t 156) (.t 154), none⟩])
 (.seq (.reg [qv 157 0, qo 158 (.call .no 163 [(.t 157), (qs #[41])])])
 (.bad)))))))))) (.seq (.reg [qo 172 (.bin .str .eql (.t 10) (qs #[116, 114, 121])), qv 171 172])
 (.cond (.t 171) (.seq (.reg [qv 173 0, qn 174 173, qf 175 1 174, ql 176 175, qo 177 (.bin .num .add (.t 176) (qi 1)), qn 178 173, qf 179 1 178, ⟨none, .st 1 (.t 179) (.t 177), none⟩])
 (.seq (.reg [qv 180 1, qn 181 180, qf 182 0 181, ⟨none, .st 1 (.t 182) (qi 38), none⟩])
 (.seq (.reg [qv 183 1, qv 184 0, qo 185 (.call .no 145 [(.t 184)]), qo 186 (.bsl true 5 1 z5 [(0, 5, (.t 185))]), qn 187 183, qf 188 3 187, ⟨none, .st 1 (.t 188) (.t 186), none⟩])
 (.seq (.reg [qv 189 0, qo 190 (.call .no 163 [(.t 189), (qs #[99, 97, 116, 99, 104])])])
 (.seq (.reg [qv 191 0, qo 192 (.call .no 163 [(.t 191), (qs #[40])])])
 (.seq (.reg [qv 193 1, qv 194 0, qo 195 (.call .no 164 [(.t 194)]), qn 196 193, qf 197 1 196, ⟨none, .st 1 (.t 197) (.t 195), none⟩])
 (.seq (.reg [qv 198 0, qo 199 (.call .no 163 [(.t 198), (qs #[41])])])
 (.bad)))))))) (.seq (.reg [qo 213 (.bin .str .eql (.t 10) (qs #[102, 117, 110, 99, 116, 105, 111, 110])), qv 212 213])
 (.cond (.t 212) (.seq (.reg [qv 214 0, qn 215 214, qf 216 1 215, ql 217 216, qo 218 (.bin .num .add (.t 217) (qi 1)), qn 219 214, qf 220 1 219, ⟨none, .st 1 (.t 220) (.t 218), none⟩])
 (.seq (.reg [qv 221 1, qn 222 221, qf 223 0 222, ⟨none, .st 1 (.t 223) (qi 41), none⟩])
 (.seq (.reg [qv 224 1, qv 225 0, qo 226 (.call .no 164 [(.t 225)]), qn 227 224, qf 228 1 227, ⟨none, .st 1 (.t 228) (.t 226), none⟩])
 (.reg [qv 229 1, qv 230 0, qo 231 (.call .no 167 [(.t 230)]), qn 232 229, qf 233 3 232, ⟨none, .st 1 (.t 233) (.t 231), none⟩])))) (.seq (.reg [qv 11 0, qv 12 1, qv 13 2, qo 14 (.call .no 168 [(.t 11), (.t 12), (.t 13)]), qv 6 14])
 (.ret))))))))))))))))
 (.seq (.reg [qo 6 (.mv (.c (.bool true)))])
 (.ret)))⟩
def a147 : AFn := ⟨52, [.cell 2 (some 5)],
 .seq (.reg [qo 2 (.alloc 24 z5)])
 (.seq (.reg [qv 8 0, qo 9 (.call .no 104 [(.t 8), (qs #[40])]), qo 10 (.un .not (.t 9)), qv 3 10])
 (.seq (.reg [qv 11 0, qn 12 11, qf 13 1 12, ql 14 13, qv 4 14])
 (.seq (.reg [qv 15 0, qo 16 (.call .no 169 [(.t 15)]), qo 5 (.alloc 24 z5), ⟨none, .st 5 (.t 5) (.t 16), none⟩])
 (.seq (.reg [qf 17 0 5, ql 18 17, qo 19 (.bin .num .eql (.t 18) (qi 1)), qv 20 19, qg 21 (.fa 0 (.t 5)) 20 false, qg 22 (.ld none (.t 21)) 20 false, qg 23 (.bin .num .eql (.t 22) (qi 13)) 20 false, qo 24 (.pick (.t 20) (.c (.bool true)) (.t 23)), qv 25 24, qg 26 (.fa 0 (.t 5)) 25 false, qg 27 (.ld none (.t 26)) 25 false, qg 28 (.bin .num .eql (.t 27) (qi 14)) 25 false, qo 29 (.pick (.t 25) (.c (.bool true)) (.t 28)), qv 6 29])
 (.seq (.seq (.reg [qv 30 3, qo 31 (.un .not (.t 30)), qv 32 31, qg 33 (.mv (.t 0)) 32 true, qg 34 (.mv (.t 4)) 32 true, qg 35 (.call .no 170 [(.t 33), (.t 34)]) 32 true, qo 36 (.pick (.t 32) (.t 35) (.c (.bool false)))])
 (.cond (.t 36) (.reg [qo 6 (.mv (.c (.bool false)))]) (.skip)))
 (.seq (.reg [qv 37 6, qv 38 37, qg 39 (.mv (.t 0)) 38 true, qg 40 (.call .no 105 [(.t 39), (qs #[61])]) 38 true, qo 41 (.pick (.t 38) (.t 40) (.c (.bool false))), qv 7 41])
 (.seq (.seq (.reg [qv 42 7, qo 43 (.un .not (.t 42))])
 (.cond (.t 43) (.seq (.reg [qo 44 (.ld (some 5) (.t 5)), ⟨none, .st 5 (.t 2) (.t 44), none⟩])
 (.ret)) (.skip)))
 (.seq (.dreg [(qf 45 4 5, 0), (ql 46 45, 1), (qo 47 (.ld (some 5) (.t 5)), 0), (qv 48 0, 0), (qo 49 (.call .no 147 [(.t 48)]), 8), (qo 50 (.bsl true 5 2 [(.int .i64 0), (.str ⟨#[]⟩), (.int .i64 0), .nils, (.int .i64 0), (.int .i64 0), (.str ⟨#[]⟩), (.int .i64 0), .nils, (.int .i64 0)] [(0, 5, (.t 47)), (5, 5, (.t 49))]), 28), (qo 51 (.build z5 [(0, 1, (qi 17)), (4, 1, (.t 46)), (3, 1, (.t 50))]), 63), (⟨none, .st 5 (.t 2) (.t 51), none⟩, 127)])
 (.ret)))))))))⟩
def a148 : AFn := ⟨37, [],
 .seq (.reg [qv 4 0, qo 5 (.call .no 103 [(.t 4), (qi 0)]), qo 2 (.alloc 130 z6), ⟨none, .st 5 (.t 2) (.t 5), none⟩])
 (.seq (.reg [qv 6 0, qo 7 (.call .no 105 [(.t 6), (qs #[59])]), qv 3 7])
 (.seq (.seq (.reg [qv 8 3, qv 9 8, qg 10 (.mv (.t 0)) 9 false, qg 11 (.nck (.t 10)) 9 false, qg 12 (.fa 2 (.t 11)) 9 false, qg 13 (.ld none (.t 12)) 9 false, qg 14 (.bin .num .neq (.t 13) (qi 0)) 9 false, qo 15 (.pick (.t 9) (.c (.bool true)) (.t 14)), qv 16 15, qg 17 (.fa 0 (.t 2)) 16 false, qg 18 (.ld none (.t 17)) 16 false, qg 19 (.bin .num .eql (.t 18) (qi 0)) 16 false, qo 20 (.pick (.t 16) (.c (.bool true)) (.t 19)), qv 21 20, qg 22 (.fa 4 (.t 2)) 21 false, qg 23 (.ld none (.t 22)) 21 false, qo 24 (.pick (.t 21) (.c (.bool true)) (.t 23)), qv 25 24, qg 26 (.fa 0 (.t 2)) 25 false, qg 27 (.ld none (.t 26)) 25 false, qg 28 (.bin .num .eql (.t 27) (qi 5)) 25 false, qg 29 (.mv (.t 28)) 25 false, qg 30 (.fa 1 (.t 2)) 29 true, qg 31 (.ld none (.t 30)) 29 true, qg 32 (.bin .str .eql (.t 31) (qs #[125])) 29 true, qg 33 (.pick (.t 29) (.t 32) (.c (.bool false))) 25 false, qo 34 (.pick (.t 25) (.c (.bool true)) (.t 33))])
 (.cond (.t 34) (.ret) (.skip)))
 (.reg [qv 35 0, qo 36 (.call .full 74 [(.t 35), (.c (.bool false))])])))⟩
def a149 : AFn := ⟨25, [.tmp 2],
 .seq (.reg [oO 2 (.mv (.c (.bool false)))])
 (.seq (.reg [oV 3 0, oO 4 (.bin .num .geq (.t 3) (.c (.int .u8 97))), oV 5 4, oG 6 (.mv (.t 0)) 5 true, oG 7 (.bin .num .leq (.t 6) (.c (.int .u8 122))) 5 true, oO 8 (.pick (.t 5) (.t 7) (.c (.bool false))), oV 9 8, oG 10 (.mv (.t 0)) 9 false, oG 11 (.bin .num .geq (.t 10) (.c (.int .u8 65))) 9 false, oG 12 (.mv (.t 11)) 9 false, oG 13 (.mv (.t 0)) 12 true, oG 14 (.bin .num .leq (.t 13) (.c (.int .u8 90))) 12 true, oG 15 (.pick (.t 12) (.t 14) (.c (.bool false))) 9 false, oO 16 (.pick (.t 9) (.c (.bool true)) (.t 15)), oV 17 16, oG 18 (.mv (.t 0)) 17 false, oG 19 (.bin .num .eql (.t 18) (.c (.int .u8 95))) 17 false, oO 20 (.pick (.t 17) (.c (.bool true)) (.t 19)), oV 21 20, oG 22 (.mv (.t 0)) 21 false, oG 23 (.bin .num .eql (.t 22) (.c (.int .u8 36))) 21 false, oO 24 (.pick (.t 21) (.c (.bool true)) (.t 23)), oV 2 24])
 (.ret))⟩
def a150 : AFn := ⟨28, [.tmp 4],
 .seq (.reg [qo 4 (.mv (qi 0))])
 (.seq (.reg [qo 5 (.mv (qi 0))])
 (.seq (.block 0 (.loop (.seq (.seq (.reg [qv 6 5, qv 7 0, qo 8 (.len true (.t 7)), qo 9 (.bin .num .lss (.t 6) (.t 8)), qv 10 9, qg 11 (.mv (.t 0)) 10 true, qg 12 (.mv (.t 5)) 10 true, qg 13 (.ixs (.t 11) (.t 12)) 10 true, qg 14 (.call .full 152 [(.t 13)]) 10 true, qg 15 (.mv (.t 14)) 10 true, qg 16 (.mv (.t 1)) 15 false, qg 17 (.mv (.t 16)) 15 false, qg 18 (.mv (.t 0)) 17 true, qg 19 (.mv (.t 5)) 17 true, qg 20 (.ixs (.t 18) (.t 19)) 17 true, qg 21 (.call .full 149 [(.t 20)]) 17 true, qg 22 (.pick (.t 17) (.t 21) (.c (.bool false))) 15 false, qg 23 (.pick (.t 15) (.c (.bool true)) (.t 22)) 10 true, qo 24 (.pick (.t 10) (.t 23) (.c (.bool false)))])
 (.cond (.t 24) (.skip) (.exit 0)))
 (.block 1 (.reg [qv 25 5, qo 26 (.bin .num .add (.t 25) (qi 1)), qv 5 26])))))
 (.seq (.reg [qv 27 5, qv 4 27])
 (.ret))))⟩
def a151 : AFn := ⟨31, [.tmp 2],
 .seq (.reg [oO 2 (.mv (.c (.bool false)))])
 (.seq (.reg [oO 6 (.call .full 171 []), oV 3 6])
 (.seq (.reg [oO 4 (.mv (.c (.int .i64 0)))])
 (.seq (.seq (.reg [oO 5 (.mv (.c (.int .i64 0)))])
 (.block 0 (.loop (.seq (.seq (.reg [oV 7 5, oV 8 3, oO 9 (.len true (.t 8)), oO 10 (.bin .num .leq (.t 7) (.t 9))])
 (.cond (.t 10) (.skip) (.exit 0)))
 (.seq (.block 1 (.seq (.seq (.reg [oV 13 5, oV 14 3, oO 15 (.len true (.t 14)), oO 16 (.bin .num .lss (.t 13) (.t 15)), oV 17 16, oG 18 (.mv (.t 3)) 17 true, oG 19 (.mv (.t 5)) 17 true, oG 20 (.ixs (.t 18) (.t 19)) 17 true, oG 21 (.bin .num .neq (.t 20) (.c (.int .u8 32))) 17 true, oO 22 (.pick (.t 17) (.t 21) (.c (.bool false)))])
 (.cond (.t 22) (.exit 1) (.skip)))
 (.seq (.seq (.reg [oV 23 3, oV 24 4, oV 25 5, oO 26 (.slc none (.t 23) (some (.t 24)) (some (.t 25))), oV 27 0, oO 28 (.bin .str .eql (.t 26) (.t 27))])
 (.cond (.t 28) (.seq (.reg [oO 2 (.mv (.c (.bool true)))])
 (.ret)) (.skip)))
 (.reg [oV 29 5, oO 30 (.bin .num .add (.t 29) (.c (.int .i64 1))), oV 4 30]))))
 (.reg [oV 11 5, oO 12 (.bin .num .add (.t 11) (.c (.int .i64 1))), oV 5 12]))))))
 (.seq (.reg [oO 2 (.mv (.c (.bool false)))])
 (.ret)))))⟩
def a152 : AFn := ⟨9, [.tmp 2],
 .seq (.reg [oO 2 (.mv (.c (.bool false)))])
 (.seq (.reg [oV 3 0, oO 4 (.bin .num .geq (.t 3) (.c (.int .u8 48))), oV 5 4, oG 6 (.mv (.t 0)) 5 true, oG 7 (.bin .num .leq (.t 6) (.c (.int .u8 57))) 5 true, oO 8 (.pick (.t 5) (.t 7) (.c (.bool false))), oV 2 8])
 (.ret))⟩
def a153 : AFn := ⟨34, [.tmp 2, .tmp 3],
 .seq (.reg [qo 2 (.mv (qi 0)), qo 3 (.mv (.c (.bool false)))])
 (.seq (.seq (.reg [qv 6 0, qo 7 (.len true (.t 6)), qo 8 (.bin .num .gtr (.t 7) (qi 15)), qv 9 8, qg 10 (.mv (.t 0)) 9 false, qg 11 (.len true (.t 10)) 9 false, qg 12 (.bin .num .gtr (.t 11) (qi 1)) 9 false, qg 13 (.mv (.t 12)) 9 false, qg 14 (.mv (.t 0)) 13 true, qg 15 (.ixs (.t 14) (qi 0)) 13 true, qg 16 (.bin .num .eql (.t 15) (.c (.int .u8 48))) 13 true, qg 17 (.pick (.t 13) (.t 16) (.c (.bool false))) 9 false, qo 18 (.pick (.t 9) (.c (.bool true)) (.t 17))])
 (.cond (.t 18) (.seq (.reg [qo 2 (.mv (qi 0)), qo 3 (.mv (.c (.bool false)))])
 (.ret)) (.skip)))
 (.seq (.reg [qo 4 (.mv (qi 0))])
 (.seq (.seq (.reg [qo 5 (.mv (qi 0))])
 (.block 0 (.loop (.seq (.seq (.reg [qv 19 5, qv 20 0, qo 21 (.len true (.t 20)), qo 22 (.bin .num .lss (.t 19) (.t 21))])
 (.cond (.t 22) (.skip) (.exit 0)))
 (.seq (.block 1 (.reg [qv 25 4, qo 26 (.bin .num .mul (qi 10) (.t 25)), qv 27 0, qv 28 5, qo 29 (.ixs (.t 27) (.t 28)), qo 30 (.bin .num .sub (.t 29) (.c (.int .u8 48))), qo 31 (.cvi .i64 (.t 30)), qo 32 (.bin .num .add (.t 26) (.t 31)), qv 4 32]))
 (.reg [qv 23 5, qo 24 (.bin .num .add (.t 23) (qi 1)), qv 5 24]))))))
 (.seq (.reg [qv 33 4, qv 2 33, qo 3 (.mv (.c (.bool true)))])
 (.ret)))))⟩
def a154 : AFn := ⟨66, [.tmp 2, .tmp 3],
 .seq (.reg [qo 2 (.mv (qs #[])), qo 3 (.mv (qi 0))])
 (.seq (.reg [qo 4 (.mv (.c .nils))])
 (.seq (.reg [qo 5 (.mv (qi 1))])
 (.seq (.block 0 (.loop (.seq (.seq (.dreg [(qv 8 5, 0), (qv 9 0, 0), (qo 10 (.len true (.t 9)), 2), (qo 11 (.bin .num .lss (.t 8) (.t 10)), 7), (qv 12 11, 15), (qg 13 (.mv (.t 0)) 12 true, 31), (qg 14 (.mv (.t 5)) 12 true, 31), (qg 15 (.ixs (.t 13) (.t 14)) 12 true, 127), (qg 16 (.mv (.t 0)) 12 true, 31), (qg 17 (.ixs (.t 16) (qi 0)) 12 true, 287), (qg 18 (.bin .num .neq (.t 15) (.t 17)) 12 true, 1023), (qo 19 (.pick (.t 12) (.t 18) (.c (.bool false))), 2047)])
 (.cond (.t 19) (.skip) (.exit 0)))
 (.block 1 (.seq (.seq (.reg [qv 20 0, qv 21 5, qo 22 (.ixs (.t 20) (.t 21)), qo 23 (.bin .num .lss (.t 22) (.c (.int .u8 32))), qv 24 23, qg 25 (.mv (.t 0)) 24 false, qg 26 (.mv (.t 5)) 24 false, qg 27 (.ixs (.t 25) (.t 26)) 24 false, qg 28 (.bin .num .gtr (.t 27) (.c (.int .u8 126))) 24 false, qo 29 (.pick (.t 24) (.c (.bool true)) (.t 28))])
 (.cond (.t 29) (.seq (.reg [qo 2 (.mv (qs #[])), qo 3 (.mv (qi 0))])
 (.ret)) (.skip)))
 (.seq (.seq (.reg [qv 30 0, qv 31 5, qo 32 (.ixs (.t 30) (.t 31)), qo 33 (.bin .num .neq (.t 32) (.c (.int .u8 92)))])
 (.cond (.t 33) (.seq (.reg [qv 34 4, qv 35 0, qv 36 5, qo 37 (.ixs (.t 35) (.t 36)), qo 38 (.bsl true 1 1 [(.int .u8 0)] [(0, 1, (.t 37))]), qo 39 (.app 1 1 (.t 34) (.t 38)), qv 4 39])
 (.seq (.reg [qv 40 5, qo 41 (.bin .num .add (.t 40) (qi 1)), qv 5 41])
 (.exit 1))) (.skip)))
 (.seq (.reg [qv 43 0, qv 44 5, qo 45 (.slc none (.t 43) (some (.t 44)) none), qo 46 (.call .full 172 [(.t 45)]), qv 42 46, qo 47 (.ext 0 (.t 42)), qo 48 (.ext 1 (.t 42)), qv 6 47, qv 7 48])
 (.seq (.seq (.reg [qv 49 7, qo 50 (.bin .num .eql (.t 49) (qi 0))])
 (.cond (.t 50) (.seq (.reg [qo 2 (.mv (qs #[])), qo 3 (.mv (qi 0))])
 (.ret)) (.skip)))
 (.seq (.reg [qv 51 4, qv 52 6, qo 53 (.bsl true 1 1 [(.int .u8 0)] [(0, 1, (.t 52))]), qo 54 (.app 1 1 (.t 51) (.t 53)), qv 4 54])
 (.reg [qv 55 5, qv 56 7, qo 57 (.bin .num .add (.t 55) (.t 56)), qv 5 57]))))))))))
 (.seq (.seq (.reg [qv 58 5, qv 59 0, qo 60 (.len true (.t 59)), qo 61 (.bin .num .geq (.t 58) (.t 60))])
 (.cond (.t 61) (.seq (.reg [qo 2 (.mv (qs #[])), qo 3 (.mv (qi 0))])
 (.ret)) (.skip)))
 (.seq (.reg [qv 62 4, qo 63 (.cvs (.t 62)), qv 64 5, qo 65 (.bin .num .add (.t 64) (qi 1)), qv 2 63, qv 3 65])
 (.ret))))))⟩
def a155 : AFn := ⟨55, [.tmp 2],
 .seq (.reg [qo 2 (.mv (qi 0))])
 (.seq (.seq (.reg [qv 3 0, qo 4 (.len true (.t 3)), qo 5 (.bin .num .geq (.t 4) (qi 3)), qv 6 5, qg 7 (.mv (.t 0)) 6 true, qg 8 (.slc none (.t 7) none (some (qi 3))) 6 true, qg 9 (.bin .str .eql (.t 8) (qs #[61, 61, 61])) 6 true, qg 10 (.mv (.t 9)) 6 true, qg 11 (.mv (.t 0)) 10 false, qg 12 (.slc none (.t 11) none (some (qi 3))) 10 false, qg 13 (.bin .str .eql (.t 12) (qs #[33, 61, 61])) 10 false, qg 14 (.pick (.t 10) (.c (.bool true)) (.t 13)) 6 true, qo 15 (.pick (.t 6) (.t 14) (.c (.bool false)))])
 (.cond (.t 15) (.seq (.reg [qo 2 (.mv (qi 3))])
 (.ret)) (.skip)))
 (.seq (.seq (.reg [qv 16 0, qo 17 (.len true (.t 16)), qo 18 (.bin .num .geq (.t 17) (qi 2)), qv 19 18, qg 20 (.mv (.t 0)) 19 true, qg 21 (.slc none (.t 20) none (some (qi 2))) 19 true, qg 22 (.bin .str .eql (.t 21) (qs #[60, 61])) 19 true, qg 23 (.mv (.t 22)) 19 true, qg 24 (.mv (.t 0)) 23 false, qg 25 (.slc none (.t 24) none (some (qi 2))) 23 false, qg 26 (.bin .str .eql (.t 25) (qs #[38, 38])) 23 false, qg 27 (.pick (.t 23) (.c (.bool true)) (.t 26)) 19 true, qg 28 (.mv (.t 27)) 19 true, qg 29 (.mv (.t 0)) 28 false, qg 30 (.slc none (.t 29) none (some (qi 2))) 28 false, qg 31 (.bin .str .eql (.t 30) (qs #[124, 124])) 28 false, qg 32 (.pick (.t 28) (.c (.bool true)) (.t 31)) 19 true, qo 33 (.pick (.t 19) (.t 32) (.c (.bool false)))])
 (.cond (.t 33) (.seq (.reg [qo 2 (.mv (qi 2))])
 (.ret)) (.skip)))
 (.seq (.seq (.reg [qv 34 0, qo 35 (.ixs (.t 34) (qi 0))])
 (.block 0 (.seq (.seq (.reg [qo 37 (.bin .num .eql (.t 35) (.c (.int .u8 123))), qv 36 37])
 (.cond (.t 36) (.skip) (.seq (.reg [qo 38 (.bin .num .eql (.t 35) (.c (.int .u8 125))), qv 36 38])
 (.cond (.t 36) (.skip) (.seq (.reg [qo 39 (.bin .num .eql (.t 35) (.c (.int .u8 40))), qv 36 39])
 (.cond (.t 36) (.skip) (.seq (.reg [qo 40 (.bin .num .eql (.t 35) (.c (.int .u8 41))), qv 36 40])
 (.cond (.t 36) (.skip) (.seq (.reg [qo 41 (.bin .num .eql (.t 35) (.c (.int .u8 91))), qv 36 41])
 (.cond (.t 36) (.skip) (.seq (.reg [qo 42 (.bin .num .eql (.t 35) (.c (.int .u8 93))), qv 36 42])
 (.cond (.t 36) (.skip) (.seq (.reg [qo 43 (.bin .num .eql (.t 35) (.c (.int .u8 46))), qv 36 43])
 (.cond (.t 36) (.skip) (.seq (.reg [qo 44 (.bin .num .eql (.t 35) (.c (.int .u8 59))), qv 36 44])
 (.cond (.t 36) (.skip) (.seq (.reg [qo 45 (.bin .num .eql (.t 35) (.c (.int .u8 44))), qv 36 45])
 (.cond (.t 36) (.skip) (.seq (.reg [qo 46 (.bin .num .eql (.t 35) (.c (.int .u8 58))), qv 36 46])
 (.cond (.t 36) (.skip) (.seq (.reg [qo 47 (.bin .num .eql (.t 35) (.c (.int .u8 63))), qv 36 47])
 (.cond (.t 36) (.skip) (.seq (.reg [qo 48 (.bin .num .eql (.t 35) (.c (.int .u8 60))), qv 36 48])
 (.cond (.t 36) (.skip) (.seq (.reg [qo 49 (.bin .num .eql (.t 35) (.c (.int .u8 61))), qv 36 49])
 (.cond (.t 36) (.skip) (.seq (.reg [qo 50 (.bin .num .eql (.t 35) (.c (.int .u8 33))), qv 36 50])
 (.cond (.t 36) (.skip) (.seq (.reg [qo 51 (.bin .num .eql (.t 35) (.c (.int .u8 43))), qv 36 51])
 (.cond (.t 36) (.skip) (.seq (.reg [qo 52 (.bin .num .eql (.t 35) (.c (.int .u8 45))), qv 36 52])
 (.cond (.t 36) (.skip) (.seq (.reg [qo 53 (.bin .num .eql (.t 35) (.c (.int .u8 42))), qv 36 53])
 (.cond (.t 36) (.skip) (.reg [qo 54 (.bin .num .eql (.t 35) (.c (.int .u8 47))), qv 36 54])))))))))))))))))))))))))))))))))))
 (.cond (.t 36) (.seq (.reg [qo 2 (.mv (qi 1))])
 (.ret)) (.skip)))))
 (.seq (.reg [qo 2 (.mv (qi 0))])
 (.ret)))))⟩
def a156 : AFn := ⟨12, [.tmp 2],
 .seq (.reg [oO 2 (.mv (.c (.bool false)))])
 (.seq (.seq (.reg [oV 3 0])
 (.block 0 (.seq (.seq (.reg [oO 5 (.bin .str .eql (.t 3) (.c (.str ⟨#[43]⟩))), oV 4 5])
 (.cond (.t 4) (.skip) (.seq (.reg [oO 6 (.bin .str .eql (.t 3) (.c (.str ⟨#[45]⟩))), oV 4 6])
 (.cond (.t 4) (.skip) (.seq (.reg [oO 7 (.bin .str .eql (.t 3) (.c (.str ⟨#[42]⟩))), oV 4 7])
 (.cond (.t 4) (.skip) (.seq (.reg [oO 8 (.bin .str .eql (.t 3) (.c (.str ⟨#[60]⟩))), oV 4 8])
 (.cond (.t 4) (.skip) (.seq (.reg [oO 9 (.bin .str .eql (.t 3) (.c (.str ⟨#[60, 61]⟩))), oV 4 9])
 (.cond (.t 4) (.skip) (.seq (.reg [oO 10 (.bin .str .eql (.t 3) (.c (.str ⟨#[61, 61, 61]⟩))), oV 4 10])
 (.cond (.t 4) (.skip) (.reg [oO 11 (.bin .str .eql (.t 3) (.c (.str ⟨#[33, 61, 61]⟩))), oV 4 11])))))))))))))
 (.cond (.t 4) (.seq (.reg [oO 2 (.mv (.c (.bool true)))])
 (.ret)) (.skip)))))
 (.seq (.reg [oO 2 (.mv (.c (.bool false)))])
 (.ret)))⟩
def a157 : AFn := ⟨25, [],
 .seq (.reg [oO 2 (.box 33 (.t 0))])
 (.seq (.seq (.reg [oL 6 2, oO 7 (.ld (some 5) (.t 1)), oO 8 (.callv .no (.t 6) [(.t 7)]), oO 9 (.un .not (.t 8))])
 (.cond (.t 9) (.ret) (.skip)))
 (.seq (.reg [oF 10 3 1, oL 11 10, oO 12 (.len false (.t 11)), oO 13 (.mv (.c (.int .i64 0)))])
 (.block 0 (.loop (.seq (.reg [oO 14 (.bin .num .lss (.t 13) (.t 12))])
 (.seq (.cond (.t 14) (.skip) (.exit 0))
 (.seq (.block 1 (.seq (.reg [oO 15 (.ia 5 (.t 11) (.t 13)), oO 16 (.ld (some 5) (.t 15)), oO 4 (.alloc 24 [(.int .i64 0), (.str ⟨#[]⟩), (.int .i64 0), .nils, (.int .i64 0)]), oS (.st 5 (.t 4) (.t 16))])
 (.seq (.reg [oO 17 (.ld (some 5) (.t 4)), oO 18 (.call .no 115 [(.t 17)])])
 (.block 2 (.rf (.t 18) [19] (.reg [oO 5 (.alloc 24 [(.int .i64 0), (.str ⟨#[]⟩), (.int .i64 0), .nils, (.int .i64 0)]), oS (.st 5 (.t 5) (.t 19))]) (.block 3 (.seq (.reg [oL 20 2, oO 21 (.ld (some 5) (.t 5)), oO 22 (.callv .no (.t 20) [(.t 21)]), oO 23 (.un .not (.t 22))])
 (.cond (.t 23) (.ret) (.skip)))))))))
 (.reg [oO 24 (.bin .num .add (.t 13) (.c (.int .i64 1))), oV 13 24]))))))))⟩
def a158 : AFn := ⟨8, [.cell 4 (some 9)],
 .seq (.reg [oO 4 (.alloc 55 [(.int .i64 0), (.int .i64 0), (.int .i64 0), (.int .i64 0), (.int .i64 0), (.int .i64 0), (.int .i64 0), (.str ⟨#[]⟩), .nils])])
 (.seq (.reg [oV 5 0, oV 6 1, oO 7 (.build [(.int .i64 0), (.int .i64 0), (.int .i64 0), (.int .i64 0), (.int .i64 0), (.int .i64 0), (.int .i64 0), (.str ⟨#[]⟩), .nils] [(0, 1, (.c (.int .i64 3))), (2, 1, (.t 5)), (3, 1, (.t 6))]), oS (.st 9 (.t 4) (.t 7))])
 (.ret))⟩
def a159 : AFn := ⟨9, [.tmp 2],
 .seq (.reg [oO 2 (.mv (.c (.bool false)))])
 (.seq (.reg [oV 3 0, oO 4 (.bin .num .geq (.t 3) (.c (.int .u8 48))), oV 5 4, oG 6 (.mv (.t 0)) 5 true, oG 7 (.bin .num .leq (.t 6) (.c (.int .u8 57))) 5 true, oO 8 (.pick (.t 5) (.t 7) (.c (.bool false))), oV 2 8])
 (.ret))⟩
def a160 : AFn := ⟨9, [.tmp 0],
 .seq (.reg [oO 0 (.mv (.c .nilm))])
 (.seq (.reg [oO 3 (.mkm), oO 1 (.alloc 198 [.nilm]), oS (.st 1 (.t 1) (.t 3))])
 (.seq (.seq (.reg [oO 4 (.call .no 173 [(.c (.str ⟨#[98, 114, 101, 97, 107, 32, 99, 97, 115, 101, 32, 99, 97, 116, 99, 104, 32, 99, 111, 110, 116, 105, 110, 117, 101, 32, 100, 101, 98, 117, 103, 103, 101, 114, 32, 100, 101, 102, 97, 117, 108, 116, 32, 100, 101, 108, 101, 116, 101, 32, 100, 111, 32, 101, 108, 115, 101, 32, 102, 105, 110, 97, 108, 108, 121, 32, 102, 111, 114, 32, 102, 117, 110, 99, 116, 105, 111, 110, 32, 105, 102, 32, 105, 110, 32, 105, 110, 115, 116, 97, 110, 99, 101, 111, 102, 32, 110, 101, 119, 32, 114, 101, 116, 117, 114, 110, 32, 115, 119, 105, 116, 99, 104, 32, 116, 104, 105, 115, 32, 116, 104, 114, 111, 119, 32, 116, 114, 121, 32, 116, 121, 112, 101, 111, 102, 32, 118, 97, 114, 32, 118, 111, 105, 100, 32, 119, 104, 105, 108, 101, 32, 119, 105, 116, 104, 32, 110, 117, 108, 108, 32, 116, 114, 117, 101, 32, 102, 97, 108, 115, 101, 32, 117, 110, 100, 101, 102, 105, 110, 101, 100, 32, 105, 110, 112, 117, 116]⟩))])])
 (.block 0 (.rf (.t 4) [5] (.reg [oV 2 5]) (.block 1 (.reg [oL 6 1, oV 7 2, oS (.upd true (.t 6) (.t 7) (.c (.bool true)))])))))
 (.seq (.reg [oL 8 1, oV 0 8])
 (.ret))))⟩
def a163 : AFn := ⟨19, [],
 .seq (.reg [qv 5 0, qv 6 1, qo 7 (.call .no 105 [(.t 5), (.t 6)]), qv 4 7])
 (.seq (.reg [qv 8 4, qo 9 (.un .not (.t 8)), qv 10 9, qg 11 (.mv (.t 0)) 10 true, qg 12 (.nck (.t 11)) 10 true, qg 13 (.fa 2 (.t 12)) 10 true, qg 14 (.ld none (.t 13)) 10 true, qg 15 (.bin .num .eql (.t 14) (qi 0)) 10 true, qo 16 (.pick (.t 10) (.t 15) (.c (.bool false)))])
 (.cond (.t 16) (.reg [qv 17 0, qo 18 (.call .full 74 [(.t 17), (.c (.bool false))])]) (.skip)))⟩
def a164 : AFn := ⟨27, [.tmp 2],
 .seq (.reg [qo 2 (.mv (qs #[]))])
 (.seq (.reg [qv 4 0, qo 5 (.call .no 103 [(.t 4), (qi 0)]), qo 3 (.alloc 130 z6), ⟨none, .st 5 (.t 3) (.t 5), none⟩])
 (.seq (.seq (.reg [qv 6 0, qn 7 6, qf 8 2 7, ql 9 8, qo 10 (.bin .num .neq (.t 9) (qi 0)), qv 11 10, qg 12 (.fa 0 (.t 3)) 11 false, qg 13 (.ld none (.t 12)) 11 false, qg 14 (.bin .num .neq (.t 13) (qi 1)) 11 false, qo 15 (.pick (.t 11) (.c (.bool true)) (.t 14))])
 (.cond (.t 15) (.seq (.reg [qv 16 0, qo 17 (.call .full 74 [(.t 16), (.c (.bool false))])])
 (.seq (.reg [qo 2 (.mv (qs #[]))])
 (.ret))) (.skip)))
 (.seq (.reg [qv 18 0, qn 19 18, qf 20 1 19, ql 21 20, qo 22 (.bin .num .add (.t 21) (qi 1)), qn 23 18, qf 24 1 23, ⟨none, .st 1 (.t 24) (.t 22), none⟩])
 (.seq (.reg [qf 25 1 3, ql 26 25, qv 2 26])
 (.ret)))))⟩
def a165 : AFn := ⟨11, [.cell 2 (some 5)],
 .seq (.reg [qo 2 (.alloc 24 z5)])
 (.seq (.reg [qv 4 0, qo 5 (.call .no 163 [(.t 4), (qs #[40])])])
 (.seq (.reg [qv 6 0, qo 7 (.call .no 147 [(.t 6)]), qo 3 (.alloc 24 z5), ⟨none, .st 5 (.t 3) (.t 7), none⟩])
 (.seq (.reg [qv 8 0, qo 9 (.call .no 163 [(.t 8), (qs #[41])])])
 (.seq (.reg [qo 10 (.ld (some 5) (.t 3)), ⟨none, .st 5 (.t 2) (.t 10), none⟩])
 (.ret)))))⟩
def a167 : AFn := ⟨40, [.tmp 2],
 .seq (.reg [qo 2 (.mv (.c .nils))])
 (.seq (.reg [qo 3 (.mv (.c .nils))])
 (.seq (.reg [qv 7 0, qo 8 (.call .no 163 [(.t 7), (qs #[40])])])
 (.seq (.reg [qv 9 0, qo 10 (.call .no 104 [(.t 9), (qs #[41])]), qv 4 10])
 (.seq (.reg [qv 11 4, qo 12 (.un .not (.t 11)), qv 5 12])
 (.seq (.block 0 (.loop (.seq (.seq (.reg [qv 13 0, qn 14 13, qf 15 2 14, ql 16 15, qo 17 (.bin .num .eql (.t 16) (qi 0)), qv 18 17, qg 19 (.mv (.t 5)) 18 true, qo 20 (.pick (.t 18) (.t 19) (.c (.bool false)))])
 (.cond (.t 20) (.skip) (.exit 0)))
 (.block 1 (.seq (.reg [qv 21 0, qo 22 (.call .no 103 [(.t 21), (qi 0)]), qo 23 (.fld 3 none (.t 22)), qv 6 23])
 (.seq (.reg [qv 24 3, qv 25 0, qo 26 (.call .no 164 [(.t 25)]), qv 27 6, qo 28 (.build z5 [(0, 1, (qi 1)), (1, 1, (.t 26)), (4, 1, (.t 27))]), qo 29 (.bsl true 5 1 z5 [(0, 5, (.t 28))]), qo 30 (.app 5 64 (.t 24) (.t 29)), qv 3 30])
 (.reg [qv 31 0, qo 32 (.call .no 105 [(.t 31), (qs #[44])]), qv 5 32])))))))
 (.seq (.reg [qv 33 0, qo 34 (.call .no 163 [(.t 33), (qs #[41])])])
 (.seq (.reg [qv 35 3, qv 36 0, qo 37 (.call .no 145 [(.t 36)]), qo 38 (.bsl true 5 1 z5 [(0, 5, (.t 37))]), qo 39 (.app 5 64 (.t 35) (.t 38)), qv 2 39])
 (.ret))))))))⟩
def a168 : AFn := ⟨108, [.tmp 6],
 .seq (.reg [qo 6 (.mv (.c (.bool false)))])
 (.seq (.seq (.reg [qv 8 2])
 (.block 0 (.seq (.reg [qo 10 (.bin .str .eql (.t 8) (qs #[114, 101, 116, 117, 114, 110])), qv 9 10])
 (.cond (.t 9) (.seq (.reg [qv 11 0, qn 12 11, qf 13 1 12, ql 14 13, qo 15 (.bin .num .add (.t 14) (qi 1)), qn 16 11, qf 17 1 16, ⟨none, .st 1 (.t 17) (.t 15), none⟩])
 (.seq (.reg [qv 18 1, qn 19 18, qf 20 0 19, ⟨none, .st 1 (.t 20) (qi 36), none⟩])
 (.seq (.reg [qv 21 0, qo 22 (.call .no 103 [(.t 21), (qi 0)]), qo 7 (.alloc 130 z6), ⟨none, .st 5 (.t 7) (.t 22), none⟩])
 (.seq (.seq (.reg [qf 23 0 7, ql 24 23, qo 25 (.bin .num .neq (.t 24) (qi 0)), qv 26 25, qg 27 (.fa 4 (.t 7)) 26 true, qg 28 (.ld none (.t 27)) 26 true, qg 29 (.un .not (.t 28)) 26 true, qo 30 (.pick (.t 26) (.t 29) (.c (.bool false))), qv 31 30, qg 32 (.fa 0 (.t 7)) 31 true, qg 33 (.ld none (.t 32)) 31 true, qg 34 (.bin .num .eql (.t 33) (qi 5)) 31 true, qg 35 (.mv (.t 34)) 31 true, qg 36 (.fa 1 (.t 7)) 35 true, qg 37 (.ld none (.t 36)) 35 true, qg 38 (.bin .str .eql (.t 37) (qs #[59])) 35 true, qg 39 (.mv (.t 38)) 35 true, qg 40 (.fa 1 (.t 7)) 39 false, qg 41 (.ld none (.t 40)) 39 false, qg 42 (.bin .str .eql (.t 41) (qs #[125])) 39 false, qg 43 (.pick (.t 39) (.c (.bool true)) (.t 42)) 35 true, qg 44 (.pick (.t 35) (.t 43) (.c (.bool false))) 31 true, qg 45 (.un .not (.t 44)) 31 true, qo 46 (.pick (.t 31) (.t 45) (.c (.bool false)))])
 (.cond (.t 46) (.reg [qv 47 1, qv 48 0, qo 49 (.call .no 147 [(.t 48)]), qo 50 (.bsl true 5 1 z5 [(0, 5, (.t 49))]), qn 51 47, qf 52 3 51, ⟨none, .st 1 (.t 52) (.t 50), none⟩]) (.skip)))
 (.reg [qv 53 0, qo 54 (.call .no 148 [(.t 53)])]))))) (.seq (.reg [qo 56 (.bin .str .eql (.t 8) (qs #[116, 104, 114, 111, 119])), qv 55 56])
 (.cond (.t 55) (.seq (.reg [qv 57 0, qn 58 57, qf 59 1 58, ql 60 59, qo 61 (.bin .num .add (.t 60) (qi 1)), qn 62 57, qf 63 1 62, ⟨none, .st 1 (.t 63) (.t 61), none⟩])
 (.seq (.reg [qv 64 1, qn 65 64, qf 66 0 65, ⟨none, .st 1 (.t 66) (qi 37), none⟩])
 (.seq (.seq (.reg [qv 67 0, qo 68 (.call .no 103 [(.t 67), (qi 0)]), qo 69 (.fld 4 none (.t 68))])
 (.cond (.t 69) (.reg [qv 70 0, qo 71 (.call .full 74 [(.t 70), (.c (.bool false))])]) (.skip)))
 (.seq (.reg [qv 72 1, qv 73 0, qo 74 (.call .no 147 [(.t 73)]), qo 75 (.bsl true 5 1 z5 [(0, 5, (.t 74))]), qn 76 72, qf 77 3 76, ⟨none, .st 1 (.t 77) (.t 75), none⟩])
 (.reg [qv 78 0, qo 79 (.call .no 148 [(.t 78)])]))))) (.seq (.reg [qo 81 (.bin .str .eql (.t 8) (qs #[98, 114, 101, 97, 107])), qv 80 81])
 (.cond (.t 80) (.seq (.reg [qv 82 0, qn 83 82, qf 84 1 83, ql 85 84, qo 86 (.bin .num .add (.t 85) (qi 1)), qn 87 82, qf 88 1 87, ⟨none, .st 1 (.t 88) (.t 86), none⟩])
 (.seq (.reg [qv 89 1, qn 90 89, qf 91 0 90, ⟨none, .st 1 (.t 91) (qi 39), none⟩])
 (.reg [qv 92 0, qo 93 (.call .no 148 [(.t 92)])]))) (.seq (.reg [qo 95 (.bin .str .eql (.t 8) (qs #[99, 111, 110, 116, 105, 110, 117, 101])), qv 94 95])
 (.cond (.t 94) (.seq (.reg [qv 96 0, qn 97 96, qf 98 1 97, ql 99 98, qo 100 (.bin .num .add (.t 99) (qi 1)), qn 101 96, qf 102 1 101, ⟨none, .st 1 (.t 102) (.t 100), none⟩])
 (.seq (.reg [qv 103 1, qn 104 103, qf 105 0 104, ⟨none, .st 1 (.t 105) (qi 40), none⟩])
 (.reg [qv 106 0, qo 107 (.call .no 148 [(.t 106)])]))) (.seq (.reg [qo 6 (.mv (.c (.bool false)))])
 (.ret))))))))))))
 (.seq (.reg [qo 6 (.mv (.c (.bool true)))])
 (.ret)))⟩
def a169 : AFn := ⟨25, [.cell 2 (some 5)],
 .seq (.reg [qo 2 (.alloc 24 z5)])
 (.seq (.reg [qv 6 0, qo 7 (.call .no 175 [(.t 6), (qi 0)]), qo 3 (.alloc 24 z5), ⟨none, .st 5 (.t 3) (.t 7), none⟩])
 (.seq (.reg [qv 8 0, qo 9 (.call .no 105 [(.t 8), (qs #[63])]), qv 4 9])
 (.seq (.seq (.reg [qv 10 4, qo 11 (.un .not (.t 10))])
 (.cond (.t 11) (.seq (.reg [qo 12 (.ld (some 5) (.t 3)), ⟨none, .st 5 (.t 2) (.t 12), none⟩])
 (.ret)) (.skip)))
 (.seq (.reg [qv 13 0, qo 14 (.call .no 147 [(.t 13)]), qo 5 (.alloc 24 z5), ⟨none, .st 5 (.t 5) (.t 14), none⟩])
 (.seq (.reg [qv 15 0, qo 16 (.call .no 163 [(.t 15), (qs #[58])])])
 (.seq (.dreg [(qf 17 4 3, 0), (ql 18 17, 1), (qo 19 (.ld (some 5) (.t 3)), 0), (qo 20 (.ld (some 5) (.t 5)), 0), (qv 21 0, 0), (qo 22 (.call .no 147 [(.t 21)]), 16), (qo 23 (.bsl true 5 3 [(.int .i64 0), (.str ⟨#[]⟩), (.int .i64 0), .nils, (.int .i64 0), (.int .i64 0), (.str ⟨#[]⟩), (.int .i64 0), .nils, (.int .i64 0), (.int .i64 0), (.str ⟨#[]⟩), (.int .i64 0), .nils, (.int .i64 0)] [(0, 5, (.t 19)), (5, 5, (.t 20)), (10, 5, (.t 22))]), 60), (qo 24 (.build z5 [(0, 1, (qi 23)), (4, 1, (.t 18)), (3, 1, (.t 23))]), 127), (⟨none, .st 5 (.t 2) (.t 24), none⟩, 255)])
 (.ret)))))))⟩
def a170 : AFn := ⟨54, [.tmp 4],
 .seq (.reg [qo 4 (.mv (.c (.bool false)))])
 (.seq (.reg [qo 5 (.mv (qi 0))])
 (.seq (.seq (.reg [qv 7 1, qv 6 7])
 (.block 0 (.loop (.seq (.seq (.reg [qv 8 6, qv 9 0, qn 10 9, qf 11 1 10, ql 12 11, qo 13 (.bin .num .lss (.t 8) (.t 12))])
 (.cond (.t 13) (.skip) (.exit 0)))
 (.seq (.block 1 (.seq (.seq (.reg [qv 16 0, qn 17 16, qf 18 0 17, ql 19 18, qv 20 6, qo 21 (.ia 5 (.t 19) (.t 20)), qf 22 0 21, ql 23 22, qo 24 (.bin .num .neq (.t 23) (qi 5))])
 (.cond (.t 24) (.exit 1) (.skip)))
 (.seq (.seq (.reg [qv 25 0, qn 26 25, qf 27 0 26, ql 28 27, qv 29 6, qo 30 (.ia 5 (.t 28) (.t 29)), qf 31 1 30, ql 32 31])
 (.block 2 (.seq (.seq (.reg [qo 34 (.bin .str .eql (.t 32) (qs #[40])), qv 33 34])
 (.cond (.t 33) (.skip) (.seq (.reg [qo 35 (.bin .str .eql (.t 32) (qs #[91])), qv 33 35])
 (.cond (.t 33) (.skip) (.reg [qo 36 (.bin .str .eql (.t 32) (qs #[123])), qv 33 36])))))
 (.cond (.t 33) (.reg [qv 37 5, qo 38 (.bin .num .add (.t 37) (qi 1)), qv 5 38]) (.seq (.seq (.reg [qo 40 (.bin .str .eql (.t 32) (qs #[41])), qv 39 40])
 (.cond (.t 39) (.skip) (.seq (.reg [qo 41 (.bin .str .eql (.t 32) (qs #[93])), qv 39 41])
 (.cond (.t 39) (.skip) (.reg [qo 42 (.bin .str .eql (.t 32) (qs #[125])), qv 39 42])))))
 (.cond (.t 39) (.reg [qv 43 5, qo 44 (.bin .num .sub (.t 43) (qi 1)), qv 5 44]) (.skip)))))))
 (.seq (.reg [qv 45 5, qo 46 (.bin .num .eql (.t 45) (qi 0))])
 (.cond (.t 46) (.seq (.reg [qv 47 6, qv 48 0, qn 49 48, qf 50 1 49, ql 51 50, qo 52 (.bin .num .sub (.t 51) (qi 1)), qo 53 (.bin .num .eql (.t 47) (.t 52)), qv 4 53])
 (.ret)) (.skip))))))
 (.reg [qv 14 6, qo 15 (.bin .num .add (.t 14) (qi 1)), qv 6 15]))))))
 (.seq (.reg [qo 4 (.mv (.c (.bool false)))])
 (.ret))))⟩
def a171 : AFn := ⟨1, [.tmp 0],
 .seq (.reg [oO 0 (.mv (.c (.str ⟨#[]⟩)))])
 (.seq (.reg [oO 0 (.mv (.c (.str ⟨#[98, 114, 101, 97, 107, 32, 99, 97, 115, 101, 32, 99, 97, 116, 99, 104, 32, 99, 111, 110, 116, 105, 110, 117, 101, 32, 100, 101, 98, 117, 103, 103, 101, 114, 32, 100, 101, 102, 97, 117, 108, 116, 32, 100, 101, 108, 101, 116, 101, 32, 100, 111, 32, 101, 108, 115, 101, 32, 102, 105, 110, 97, 108, 108, 121, 32, 102, 111, 114, 32, 102, 117, 110, 99, 116, 105, 111, 110, 32, 105, 102, 32, 105, 110, 32, 105, 110, 115, 116, 97, 110, 99, 101, 111, 102, 32, 110, 101, 119, 32, 114, 101, 116, 117, 114, 110, 32, 115, 119, 105, 116, 99, 104, 32, 116, 104, 105, 115, 32, 116, 104, 114, 111, 119, 32, 116, 114, 121, 32, 116, 121, 112, 101, 111, 102, 32, 118, 97, 114, 32, 118, 111, 105, 100, 32, 119, 104, 105, 108, 101, 32, 119, 105, 116, 104, 32, 110, 117, 108, 108, 32, 116, 114, 117, 101, 32, 102, 97, 108, 115, 101, 32, 117, 110, 100, 101, 102, 105, 110, 101, 100, 32, 105, 110, 112, 117, 116]⟩)))])
 (.ret))⟩
def a172 : AFn := ⟨45, [.tmp 2, .tmp 3],
 .seq (.reg [qo 2 (.mv (.c (.int .u8 0))), qo 3 (.mv (qi 0))])
 (.seq (.seq (.reg [qv 4 0, qo 5 (.len true (.t 4)), qo 6 (.bin .num .lss (.t 5) (qi 2))])
 (.cond (.t 6) (.seq (.reg [qo 2 (.mv (.c (.int .u8 0))), qo 3 (.mv (qi 0))])
 (.ret)) (.skip)))
 (.seq (.seq (.reg [qv 7 0, qo 8 (.ixs (.t 7) (qi 1))])
 (.block 0 (.seq (.reg [qo 10 (.bin .num .eql (.t 8) (.c (.int .u8 110))), qv 9 10])
 (.cond (.t 9) (.seq (.reg [qo 2 (.mv (.c (.int .u8 10))), qo 3 (.mv (qi 2))])
 (.ret)) (.seq (.reg [qo 12 (.bin .num .eql (.t 8) (.c (.int .u8 116))), qv 11 12])
 (.cond (.t 11) (.seq (.reg [qo 2 (.mv (.c (.int .u8 9))), qo 3 (.mv (qi 2))])
 (.ret)) (.seq (.seq (.reg [qo 14 (.bin .num .eql (.t 8) (.c (.int .u8 92))), qv 13 14])
 (.cond (.t 13) (.skip) (.seq (.reg [qo 15 (.bin .num .eql (.t 8) (.c (.int .u8 34))), qv 13 15])
 (.cond (.t 13) (.skip) (.reg [qo 16 (.bin .num .eql (.t 8) (.c (.int .u8 39))), qv 13 16])))))
 (.cond (.t 13) (.seq (.reg [qv 17 0, qo 18 (.ixs (.t 17) (qi 1)), qv 2 18, qo 3 (.mv (qi 2))])
 (.ret)) (.seq (.reg [qo 20 (.bin .num .eql (.t 8) (.c (.int .u8 120))), qv 19 20])
 (.cond (.t 19) (.seq (.reg [qv 21 0, qo 22 (.len true (.t 21)), qo 23 (.bin .num .geq (.t 22) (qi 4)), qv 24 23, qg 25 (.mv (.t 0)) 24 true, qg 26 (.ixs (.t 25) (qi 2)) 24 true, qg 27 (.call .full 176 [(.t 26)]) 24 true, qg 28 (.bin .num .geq (.t 27) (qi 0)) 24 true, qo 29 (.pick (.t 24) (.t 28) (.c (.bool false))), qv 30 29, qg 31 (.mv (.t 0)) 30 true, qg 32 (.ixs (.t 31) (qi 3)) 30 true, qg 33 (.call .full 176 [(.t 32)]) 30 true, qg 34 (.bin .num .geq (.t 33) (qi 0)) 30 true, qo 35 (.pick (.t 30) (.t 34) (.c (.bool false)))])
 (.cond (.t 35) (.seq (.dreg [(qv 36 0, 0), (qo 37 (.ixs (.t 36) (qi 2)), 1), (qo 38 (.call .full 176 [(.t 37)]), 3), (qo 39 (.bin .num .mul (qi 16) (.t 38)), 7), (qv 40 0, 0), (qo 41 (.ixs (.t 40) (qi 3)), 16), (qo 42 (.call .full 176 [(.t 41)]), 55), (qo 43 (.bin .num .add (.t 39) (.t 42)), 127), (qo 44 (.cvi .u8 (.t 43)), 255), (qv 2 44, 511), (qo 3 (.mv (qi 4)), 1023)])
 (.ret)) (.skip))) (.skip)))))))))))
 (.seq (.reg [qo 2 (.mv (.c (.int .u8 0))), qo 3 (.mv (qi 0))])
 (.ret))))⟩
def a173 : AFn := ⟨4, [.tmp 2],
 .seq (.reg [oO 1 (.box 9 (.t 0)), oO 2 (.mv (.c .nilf))])
 (.seq (.reg [oO 3 (.mkf 177 [] [(.t 1)]), oV 2 3])
 (.ret))⟩
def a175 : AFn := ⟨71, [.cell 4 (some 5)],
 .seq (.reg [qo 4 (.alloc 24 z5)])
 (.seq (.seq (.reg [qv 12 1, qo 13 (.bin .num .eql (.t 12) (qi 6))])
 (.cond (.t 13) (.seq (.reg [qv 14 0, qo 15 (.call .no 181 [(.t 14)]), ⟨none, .st 5 (.t 4) (.t 15), none⟩])
 (.ret)) (.skip)))
 (.seq (.reg [qv 16 0, qv 17 1, qo 18 (.bin .num .add (.t 17) (qi 1)), qo 19 (.call .no 175 [(.t 16), (.t 18)]), qo 5 (.alloc 24 z5), ⟨none, .st 5 (.t 5) (.t 19), none⟩])
 (.seq (.block 0 (.loop (.seq (.seq (.reg [qv 20 0, qn 21 20, qf 22 2 21, ql 23 22, qo 24 (.bin .num .eql (.t 23) (qi 0))])
 (.cond (.t 24) (.skip) (.exit 0)))
 (.block 1 (.seq (.reg [qo 6 (.mv (qs #[]))])
 (.seq (.reg [qv 25 1, qo 26 (.call .full 182 [(.t 25)]), qv 7 26])
 (.seq (.seq (.reg [qo 8 (.mv (qi 0))])
 (.block 2 (.loop (.seq (.seq (.reg [qv 27 8, qv 28 7, qo 29 (.len false (.t 28)), qo 30 (.bin .num .lss (.t 27) (.t 29)), qv 31 30, qg 32 (.mv (.t 6)) 31 true, qg 33 (.bin .str .eql (.t 32) (qs #[])) 31 true, qo 34 (.pick (.t 31) (.t 33) (.c (.bool false)))])
 (.cond (.t 34) (.skip) (.exit 2)))
 (.seq (.block 3 (.seq (.reg [qv 37 0, qv 38 7, qv 39 8, qo 40 (.ia 1 (.t 38) (.t 39)), ql 41 40, qo 42 (.call .no 105 [(.t 37), (.t 41)]), qv 9 42])
 (.seq (.reg [qv 43 9])
 (.cond (.t 43) (.reg [qv 44 7, qv 45 8, qo 46 (.ia 1 (.t 44) (.t 45)), ql 47 46, qv 6 47]) (.skip)))))
 (.reg [qv 35 8, qo 36 (.bin .num .add (.t 35) (qi 1)), qv 8 36]))))))
 (.seq (.seq (.reg [qv 48 6, qo 49 (.bin .str .eql (.t 48) (qs #[]))])
 (.cond (.t 49) (.exit 0) (.skip)))
 (.seq (.reg [qv 50 0, qv 51 1, qo 52 (.bin .num .add (.t 51) (qi 1)), qo 53 (.call .no 175 [(.t 50), (.t 52)]), qo 10 (.alloc 24 z5), ⟨none, .st 5 (.t 10) (.t 53), none⟩])
 (.seq (.reg [qv 54 6, qf 55 4 5, ql 56 55, qo 57 (.ld (some 5) (.t 5)), qo 58 (.ld (some 5) (.t 10)), qo 59 (.bsl true 5 2 [(.int .i64 0), (.str ⟨#[]⟩), (.int .i64 0), .nils, (.int .i64 0), (.int .i64 0), (.str ⟨#[]⟩), (.int .i64 0), .nils, (.int .i64 0)] [(0, 5, (.t 57)), (5, 5, (.t 58))]), qo 60 (.build z5 [(0, 1, (qi 18)), (1, 1, (.t 54)), (4, 1, (.t 56)), (3, 1, (.t 59))]), qo 11 (.alloc 24 z5), ⟨none, .st 5 (.t 11) (.t 60), none⟩])
 (.seq (.seq (.reg [qv 61 1, qo 62 (.bin .num .eql (.t 61) (qi 0))])
 (.cond (.t 62) (.seq (.reg [qf 63 0 11, ⟨none, .st 1 (.t 63) (qi 22), none⟩])
 (.reg [qf 64 1 11, ⟨none, .st 1 (.t 64) (qs #[]), none⟩])) (.skip)))
 (.seq (.seq (.reg [qv 65 1, qo 66 (.bin .num .eql (.t 65) (qi 1))])
 (.cond (.t 66) (.seq (.reg [qf 67 0 11, ⟨none, .st 1 (.t 67) (qi 21), none⟩])
 (.reg [qf 68 1 11, ⟨none, .st 1 (.t 68) (qs #[]), none⟩])) (.skip)))
 (.reg [qo 69 (.ld (some 5) (.t 11)), ⟨none, .st 5 (.t 5) (.t 69), none⟩])))))))))))))
 (.seq (.reg [qo 70 (.ld (some 5) (.t 5)), ⟨none, .st 5 (.t 4) (.t 70), none⟩])
 (.ret)))))⟩
def a176 : AFn := ⟨18, [.tmp 2],
 .seq (.reg [qo 2 (.mv (qi 0))])
 (.seq (.seq (.reg [qv 3 0, qo 4 (.call .full 152 [(.t 3)])])
 (.cond (.t 4) (.seq (.reg [qv 5 0, qo 6 (.bin .num .sub (.t 5) (.c (.int .u8 48))), qo 7 (.cvi .i64 (.t 6)), qv 2 7])
 (.ret)) (.skip)))
 (.seq (.seq (.reg [qv 8 0, qo 9 (.bin .num .geq (.t 8) (.c (.int .u8 97))), qv 10 9, qg 11 (.mv (.t 0)) 10 true, qg 12 (.bin .num .leq (.t 11) (.c (.int .u8 102))) 10 true, qo 13 (.pick (.t 10) (.t 12) (.c (.bool false)))])
 (.cond (.t 13) (.seq (.reg [qv 14 0, qo 15 (.bin .num .sub (.t 14) (.c (.int .u8 97))), qo 16 (.cvi .i64 (.t 15)), qo 17 (.bin .num .add (.t 16) (qi 10)), qv 2 17])
 (.ret)) (.skip)))
 (.seq (.reg [qo 2 (.mv (.c (.int .i64 (-1))))])
 (.ret))))⟩
def a177 : AFn := ⟨56, [],
 .seq (.reg [oO 3 (.mv (.c (.int .i64 (-1))))])
 (.seq (.seq (.reg [oO 4 (.mv (.c (.int .i64 0)))])
 (.block 0 (.loop (.seq (.seq (.reg [oV 8 4, oL 9 1, oO 10 (.len true (.t 9)), oO 11 (.bin .num .lss (.t 8) (.t 10))])
 (.cond (.t 11) (.skip) (.exit 0)))
 (.block 1 (.seq (.reg [oO 5 (.mv (.c (.int .i64 1)))])
 (.seq (.reg [oL 12 1, oV 13 4, oO 14 (.ixs (.t 12) (.t 13)), oO 15 (.cvi .i32 (.t 14)), oV 6 15])
 (.seq (.reg [oL 16 1, oV 17 4, oO 18 (.ixs (.t 16) (.t 17)), oO 19 (.iaa 256 1 (.g 1) (.t 18)), oL 20 19, oO 21 (.bin .num .neq (.t 20) (.c (.int .u8 0))), oV 7 21])
 (.seq (.seq (.reg [oV 22 6, oO 23 (.bin .num .geq (.t 22) (.c (.int .i32 128)))])
 (.cond (.t 23) (.seq (.reg [oL 25 1, oV 26 4, oO 27 (.slc none (.t 25) (some (.t 26)) none), oO 28 (.call .full 178 [(.t 27)]), oV 24 28, oO 29 (.ext 0 (.t 24)), oO 30 (.ext 1 (.t 24)), oV 6 29, oV 5 30])
 (.reg [oV 31 6, oO 32 (.call .full 162 [(.t 31)]), oV 7 32])) (.skip)))
 (.seq (.seq (.reg [oV 33 7])
 (.cond (.t 33) (.seq (.reg [oV 34 3, oO 35 (.bin .num .geq (.t 34) (.c (.int .i64 0)))])
 (.cond (.t 35) (.seq (.seq (.reg [oV 36 0, oL 37 1, oV 38 3, oV 39 4, oO 40 (.slc none (.t 37) (some (.t 38)) (some (.t 39))), oO 41 (.callv .no (.t 36) [(.t 40)]), oO 42 (.un .not (.t 41))])
 (.cond (.t 42) (.ret) (.skip)))
 (.reg [oO 3 (.mv (.c (.int .i64 (-1))))])) (.skip))) (.seq (.reg [oV 43 3, oO 44 (.bin .num .lss (.t 43) (.c (.int .i64 0)))])
 (.cond (.t 44) (.reg [oV 45 4, oV 3 45]) (.skip)))))
 (.reg [oV 46 4, oV 47 5, oO 48 (.bin .num .add (.t 46) (.t 47)), oV 4 48])))))))))))
 (.seq (.reg [oV 49 3, oO 50 (.bin .num .geq (.t 49) (.c (.int .i64 0)))])
 (.cond (.t 50) (.reg [oV 51 0, oL 52 1, oV 53 3, oO 54 (.slc none (.t 52) (some (.t 53)) none), oO 55 (.callv .no (.t 51) [(.t 54)])]) (.skip))))⟩
def a178 : AFn := ⟨19, [.tmp 2, .tmp 3],
 .seq (.reg [qo 2 (.mv (.c (.int .i32 0))), qo 3 (.mv (qi 0))])
 (.seq (.seq (.reg [qv 4 0, qo 5 (.bin .str .neq (.t 4) (qs #[])), qv 6 5, qg 7 (.mv (.t 0)) 6 true, qg 8 (.ixs (.t 7) (qi 0)) 6 true, qg 9 (.bin .num .lss (.t 8) (.c (.int .u8 128))) 6 true, qo 10 (.pick (.t 6) (.t 9) (.c (.bool false)))])
 (.cond (.t 10) (.seq (.reg [qv 11 0, qo 12 (.ixs (.t 11) (qi 0)), qo 13 (.cvi .i32 (.t 12)), qv 2 13, qo 3 (.mv (qi 1))])
 (.ret)) (.reg [qv 15 0, qo 16 (.call .full 183 [(.t 15)]), qv 14 16, qo 17 (.ext 0 (.t 14)), qo 18 (.ext 1 (.t 14)), qv 2 17, qv 3 18])))
 (.ret))⟩
def a181 : AFn := ⟨53, [.cell 2 (some 5)],
 .seq (.reg [qo 2 (.alloc 24 z5)])
 (.seq (.reg [qv 9 0, qo 10 (.call .no 103 [(.t 9), (qi 0)]), qo 11 (.fld 3 none (.t 10)), qv 3 11])
 (.seq (.reg [qv 12 0, qo 13 (.call .no 105 [(.t 12), (qs #[33])]), qv 4 13])
 (.seq (.seq (.reg [qv 14 4])
 (.cond (.t 14) (.seq (.reg [qv 15 3, qv 16 0, qo 17 (.call .no 181 [(.t 16)]), qo 18 (.bsl true 5 1 z5 [(0, 5, (.t 17))]), qo 19 (.build z5 [(0, 1, (qi 19)), (4, 1, (.t 15)), (3, 1, (.t 18))]), ⟨none, .st 5 (.t 2) (.t 19), none⟩])
 (.ret)) (.skip)))
 (.seq (.reg [qv 20 0, qo 21 (.call .no 105 [(.t 20), (qs #[45])]), qv 5 21])
 (.seq (.seq (.reg [qv 22 5])
 (.cond (.t 22) (.seq (.reg [qv 23 3, qv 24 0, qo 25 (.call .no 181 [(.t 24)]), qo 26 (.bsl true 5 1 z5 [(0, 5, (.t 25))]), qo 27 (.build z5 [(0, 1, (qi 20)), (4, 1, (.t 23)), (3, 1, (.t 26))]), ⟨none, .st 5 (.t 2) (.t 27), none⟩])
 (.ret)) (.skip)))
 (.seq (.reg [qo 6 (.alloc 24 z5)])
 (.seq (.reg [qv 28 0, qo 29 (.call .no 105 [(.t 28), (qs #[110, 101, 119])]), qv 7 29])
 (.seq (.seq (.reg [qv 30 7])
 (.cond (.t 30) (.seq (.reg [qv 31 0, qv 32 0, qo 33 (.call .no 185 [(.t 32)]), qo 34 (.call .no 184 [(.t 31), (.t 33), (.c (.bool false))]), ⟨none, .st 5 (.t 6) (.t 34), none⟩])
 (.seq (.reg [qv 35 3, qo 36 (.ld (some 5) (.t 6)), qo 37 (.bsl true 5 1 z5 [(0, 5, (.t 36))]), qo 38 (.build z5 [(0, 1, (qi 16)), (4, 1, (.t 35)), (3, 1, (.t 37))]), ⟨none, .st 5 (.t 6) (.t 38), none⟩])
 (.seq (.reg [qv 39 0, qo 40 (.call .no 105 [(.t 39), (qs #[40])]), qv 8 40])
 (.seq (.reg [qv 41 8])
 (.cond (.t 41) (.dreg [(qf 42 3 6, 0), (ql 43 42, 1), (qv 44 0, 0), (qo 45 (.call .no 186 [(.t 44)]), 4), (qo 46 (.app 5 64 (.t 43) (.t 45)), 15), (qf 47 3 6, 31), (⟨none, .st 1 (.t 47) (.t 46), none⟩, 63)]) (.skip)))))) (.reg [qv 48 0, qo 49 (.call .no 185 [(.t 48)]), ⟨none, .st 5 (.t 6) (.t 49), none⟩])))
 (.seq (.reg [qv 50 0, qo 51 (.ld (some 5) (.t 6)), qo 52 (.call .no 184 [(.t 50), (.t 51), (.c (.bool true))]), ⟨none, .st 5 (.t 2) (.t 52), none⟩])
 (.ret))))))))))⟩
def a182 : AFn := ⟨20, [.tmp 2],
 .seq (.reg [qo 2 (.mv (.c .nils))])
 (.seq (.seq (.reg [qv 3 0])
 (.block 0 (.seq (.reg [qo 5 (.bin .num .eql (.t 3) (qi 0)), qv 4 5])
 (.cond (.t 4) (.seq (.reg [qo 6 (.bsl true 1 1 [(.str ⟨#[]⟩)] [(0, 1, (qs #[124, 124]))]), qv 2 6])
 (.ret)) (.seq (.reg [qo 8 (.bin .num .eql (.t 3) (qi 1)), qv 7 8])
 (.cond (.t 7) (.seq (.reg [qo 9 (.bsl true 1 1 [(.str ⟨#[]⟩)] [(0, 1, (qs #[38, 38]))]), qv 2 9])
 (.ret)) (.seq (.reg [qo 11 (.bin .num .eql (.t 3) (qi 2)), qv 10 11])
 (.cond (.t 10) (.seq (.reg [qo 12 (.bsl true 1 2 [(.str ⟨#[]⟩), (.str ⟨#[]⟩)] [(0, 1, (qs #[61, 61, 61])), (1, 1, (qs #[33, 61, 61]))]), qv 2 12])
 (.ret)) (.seq (.reg [qo 14 (.bin .num .eql (.t 3) (qi 3)), qv 13 14])
 (.cond (.t 13) (.seq (.reg [qo 15 (.bsl true 1 2 [(.str ⟨#[]⟩), (.str ⟨#[]⟩)] [(0, 1, (qs #[60])), (1, 1, (qs #[60, 61]))]), qv 2 15])
 (.ret)) (.seq (.reg [qo 17 (.bin .num .eql (.t 3) (qi 4)), qv 16 17])
 (.cond (.t 16) (.seq (.reg [qo 18 (.bsl true 1 2 [(.str ⟨#[]⟩), (.str ⟨#[]⟩)] [(0, 1, (qs #[43])), (1, 1, (qs #[45]))]), qv 2 18])
 (.ret)) (.skip)))))))))))))
 (.seq (.reg [qo 19 (.bsl true 1 1 [(.str ⟨#[]⟩)] [(0, 1, (qs #[42]))]), qv 2 19])
 (.ret)))⟩
def a184 : AFn := ⟨80, [.cell 6 (some 5)],
 .seq (.reg [qo 4 (.box 24 (.t 1)), qo 6 (.alloc 24 z5)])
 (.seq (.block 0 (.loop (.seq (.seq (.reg [qv 13 0, qn 14 13, qf 15 2 14, ql 16 15, qo 17 (.bin .num .eql (.t 16) (qi 0))])
 (.cond (.t 17) (.skip) (.exit 0)))
 (.block 1 (.seq (.reg [qv 18 0, qo 19 (.call .no 105 [(.t 18), (qs #[46])]), qv 7 19])
 (.seq (.seq (.reg [qv 20 7])
 (.cond (.t 20) (.seq (.reg [qv 21 0, qo 22 (.call .no 103 [(.t 21), (qi 0)]), qo 8 (.alloc 130 z6), ⟨none, .st 5 (.t 8) (.t 22), none⟩])
 (.seq (.seq (.reg [qf 23 0 8, ql 24 23, qo 25 (.bin .num .neq (.t 24) (qi 1)), qv 26 25, qg 27 (.fa 0 (.t 8)) 26 true, qg 28 (.ld none (.t 27)) 26 true, qg 29 (.bin .num .neq (.t 28) (qi 2)) 26 true, qo 30 (.pick (.t 26) (.t 29) (.c (.bool false)))])
 (.cond (.t 30) (.seq (.reg [qv 31 0, qo 32 (.call .full 74 [(.t 31), (.c (.bool false))]), ⟨none, .st 5 (.t 6) (.t 32), none⟩])
 (.ret)) (.skip)))
 (.seq (.reg [qv 33 0, qn 34 33, qf 35 1 34, ql 36 35, qo 37 (.bin .num .add (.t 36) (qi 1)), qn 38 33, qf 39 1 38, ⟨none, .st 1 (.t 39) (.t 37), none⟩])
 (.seq (.reg [qf 40 1 8, ql 41 40, qf 42 4 4, ql 43 42, qo 44 (.ld (some 5) (.t 4)), qo 45 (.bsl true 5 1 z5 [(0, 5, (.t 44))]), qo 46 (.build z5 [(0, 1, (qi 13)), (1, 1, (.t 41)), (4, 1, (.t 43)), (3, 1, (.t 45))]), ⟨none, .st 5 (.t 4) (.t 46), none⟩])
 (.exit 1))))) (.skip)))
 (.seq (.reg [qv 47 0, qo 48 (.call .no 105 [(.t 47), (qs #[91])]), qv 9 48])
 (.seq (.seq (.reg [qv 49 9])
 (.cond (.t 49) (.seq (.reg [qv 50 0, qo 51 (.call .no 147 [(.t 50)]), qo 10 (.alloc 24 z5), ⟨none, .st 5 (.t 10) (.t 51), none⟩])
 (.seq (.reg [qv 52 0, qo 53 (.call .no 163 [(.t 52), (qs #[93])])])
 (.seq (.reg [qf 54 4 4, ql 55 54, qo 56 (.ld (some 5) (.t 4)), qo 57 (.ld (some 5) (.t 10)), qo 58 (.bsl true 5 2 [(.int .i64 0), (.str ⟨#[]⟩), (.int .i64 0), .nils, (.int .i64 0), (.int .i64 0), (.str ⟨#[]⟩), (.int .i64 0), .nils, (.int .i64 0)] [(0, 5, (.t 56)), (5, 5, (.t 57))]), qo 59 (.build z5 [(0, 1, (qi 14)), (4, 1, (.t 55)), (3, 1, (.t 58))]), ⟨none, .st 5 (.t 4) (.t 59), none⟩])
 (.exit 1)))) (.skip)))
 (.seq (.reg [qv 60 2, qv 61 60, qg 62 (.mv (.t 0)) 61 true, qg 63 (.call .no 105 [(.t 62), (qs #[40])]) 61 true, qo 64 (.pick (.t 61) (.t 63) (.c (.bool false))), qv 11 64])
 (.seq (.seq (.reg [qv 65 11, qo 66 (.un .not (.t 65))])
 (.cond (.t 66) (.exit 0) (.skip)))
 (.seq (.reg [qf 67 4 4, ql 68 67, qo 69 (.ld (some 5) (.t 4)), qo 70 (.bsl true 5 1 z5 [(0, 5, (.t 69))]), qo 71 (.build z5 [(0, 1, (qi 15)), (4, 1, (.t 68)), (3, 1, (.t 70))]), qo 12 (.alloc 24 z5), ⟨none, .st 5 (.t 12) (.t 71), none⟩])
 (.seq (.dreg [(qf 72 3 12, 0), (ql 73 72, 1), (qv 74 0, 0), (qo 75 (.call .no 186 [(.t 74)]), 4), (qo 76 (.app 5 64 (.t 73) (.t 75)), 15), (qf 77 3 12, 31), (⟨none, .st 1 (.t 77) (.t 76), none⟩, 63)])
 (.reg [qo 78 (.ld (some 5) (.t 12)), ⟨none, .st 5 (.t 4) (.t 78), none⟩])))))))))))))
 (.seq (.reg [qo 79 (.ld (some 5) (.t 4)), ⟨none, .st 5 (.t 6) (.t 79), none⟩])
 (.ret)))⟩
def a185 : AFn := ⟨100, [.cell 2 (some 5)],
 .seq (.reg [qo 2 (.alloc 24 z5)])
 (.seq (.reg [qv 5 0, qo 6 (.call .no 103 [(.t 5), (qi 0)]), qo 3 (.alloc 130 z6), ⟨none, .st 5 (.t 3) (.t 6), none⟩])
 (.seq (.seq (.reg [qv 7 0, qn 8 7, qf 9 2 8, ql 10 9, qo 11 (.bin .num .neq (.t 10) (qi 0))])
 (.cond (.t 11) (.seq (.reg [qo 12 (.build z5 []), ⟨none, .st 5 (.t 2) (.t 12), none⟩])
 (.ret)) (.skip)))
 (.seq (.reg [qf 13 3 3, ql 14 13, qo 15 (.build z5 [(4, 1, (.t 14))]), qo 4 (.alloc 24 z5), ⟨none, .st 5 (.t 4) (.t 15), none⟩])
 (.seq (.seq (.reg [qf 16 0 3, ql 17 16])
 (.block 0 (.seq (.reg [qo 19 (.bin .num .eql (.t 17) (qi 1)), qv 18 19])
 (.cond (.t 18) (.seq (.seq (.reg [qf 20 1 3, ql 21 20, qo 22 (.bin .str .eql (.t 21) (qs #[101, 118, 97, 108])), qv 23 22, qg 24 (.fa 1 (.t 3)) 23 false, qg 25 (.ld none (.t 24)) 23 false, qg 26 (.bin .str .eql (.t 25) (qs #[97, 114, 103, 117, 109, 101, 110, 116, 115])) 23 false, qo 27 (.pick (.t 23) (.c (.bool true)) (.t 26))])
 (.cond (.t 27) (.seq (.reg [qv 28 0, qo 29 (.call .no 107 [(.t 28), (qi 43)])])
 (.seq (.reg [qo 30 (.ld (some 5) (.t 4)), ⟨none, .st 5 (.t 2) (.t 30), none⟩])
 (.ret))) (.skip)))
 (.seq (.reg [qf 31 0 4, ⟨none, .st 1 (.t 31) (qi 1), none⟩])
 (.reg [qf 32 1 3, ql 33 32, qf 34 1 4, ⟨none, .st 1 (.t 34) (.t 33), none⟩]))) (.seq (.reg [qo 36 (.bin .num .eql (.t 17) (qi 3)), qv 35 36])
 (.cond (.t 35) (.seq (.reg [qf 37 0 4, ⟨none, .st 1 (.t 37) (qi 2), none⟩])
 (.reg [qf 38 2 3, ql 39 38, qf 40 2 4, ⟨none, .st 1 (.t 40) (.t 39), none⟩])) (.seq (.reg [qo 42 (.bin .num .eql (.t 17) (qi 4)), qv 41 42])
 (.cond (.t 41) (.seq (.reg [qf 43 0 4, ⟨none, .st 1 (.t 43) (qi 3), none⟩])
 (.reg [qf 44 1 3, ql 45 44, qf 46 1 4, ⟨none, .st 1 (.t 46) (.t 45), none⟩])) (.seq (.reg [qo 48 (.bin .num .eql (.t 17) (qi 2)), qv 47 48])
 (.cond (.t 47) (.seq (.seq (.reg [qf 49 1 3, ql 50 49, qo 51 (.bin .str .eql (.t 50) (qs #[102, 117, 110, 99, 116, 105, 111, 110]))])
 (.cond (.t 51) (.seq (.reg [qv 52 0, qn 53 52, qf 54 1 53, ql 55 54, qo 56 (.bin .num .add (.t 55) (qi 1)), qn 57 52, qf 58 1 57, ⟨none, .st 1 (.t 58) (.t 56), none⟩])
 (.seq (.reg [qf 59 0 4, ⟨none, .st 1 (.t 59) (qi 10), none⟩])
 (.seq (.seq (.reg [qv 60 0, qo 61 (.call .no 103 [(.t 60), (qi 0)]), qo 62 (.fld 0 none (.t 61)), qo 63 (.bin .num .eql (.t 62) (qi 1))])
 (.cond (.t 63) (.reg [qv 64 0, qo 65 (.call .no 164 [(.t 64)]), qf 66 1 4, ⟨none, .st 1 (.t 66) (.t 65), none⟩]) (.skip)))
 (.seq (.reg [qv 67 0, qo 68 (.call .no 167 [(.t 67)]), qf 69 3 4, ⟨none, .st 1 (.t 69) (.t 68), none⟩])
 (.seq (.reg [qo 70 (.ld (some 5) (.t 4)), ⟨none, .st 5 (.t 2) (.t 70), none⟩])
 (.ret)))))) (.skip)))
 (.reg [qf 71 1 3, ql 72 71, qo 73 (.call .no 187 [(.t 72)]), qf 74 0 4, ⟨none, .st 1 (.t 74) (.t 73), none⟩])) (.seq (.reg [qo 76 (.bin .num .eql (.t 17) (qi 5)), qv 75 76])
 (.cond (.t 75) (.seq (.seq (.reg [qf 77 1 3, ql 78 77, qo 79 (.bin .str .eql (.t 78) (qs #[40]))])
 (.cond (.t 79) (.seq (.reg [qv 80 0, qo 81 (.call .no 165 [(.t 80)]), ⟨none, .st 5 (.t 2) (.t 81), none⟩])
 (.ret)) (.skip)))
 (.seq (.reg [qf 82 1 3, ql 83 82, qo 84 (.bin .str .eql (.t 83) (qs #[123]))])
 (.cond (.t 84) (.seq (.reg [qv 85 0, qo 86 (.call .no 188 [(.t 85)]), ⟨none, .st 5 (.t 2) (.t 86), none⟩])
 (.ret)) (.skip)))) (.skip)))))))))))))
 (.seq (.seq (.reg [qf 87 0 4, ql 88 87, qo 89 (.bin .num .eql (.t 88) (qi 0))])
 (.cond (.t 89) (.seq (.reg [qv 90 0, qo 91 (.call .full 74 [(.t 90), (.c (.bool true))]), ⟨none, .st 5 (.t 2) (.t 91), none⟩])
 (.ret)) (.skip)))
 (.seq (.reg [qv 92 0, qn 93 92, qf 94 1 93, ql 95 94, qo 96 (.bin .num .add (.t 95) (qi 1)), qn 97 92, qf 98 1 97, ⟨none, .st 1 (.t 98) (.t 96), none⟩])
 (.seq (.reg [qo 99 (.ld (some 5) (.t 4)), ⟨none, .st 5 (.t 2) (.t 99), none⟩])
 (.ret))))))))⟩
def a186 : AFn := ⟨28, [.tmp 2],
 .seq (.reg [qo 2 (.mv (.c .nils))])
 (.seq (.reg [qo 3 (.mv (.c .nils))])
 (.seq (.reg [qv 6 0, qo 7 (.call .no 104 [(.t 6), (qs #[41])]), qv 4 7])
 (.seq (.reg [qv 8 4, qo 9 (.un .not (.t 8)), qv 5 9])
 (.seq (.block 0 (.loop (.seq (.seq (.reg [qv 10 0, qn 11 10, qf 12 2 11, ql 13 12, qo 14 (.bin .num .eql (.t 13) (qi 0)), qv 15 14, qg 16 (.mv (.t 5)) 15 true, qo 17 (.pick (.t 15) (.t 16) (.c (.bool false)))])
 (.cond (.t 17) (.skip) (.exit 0)))
 (.block 1 (.seq (.reg [qv 18 3, qv 19 0, qo 20 (.call .no 147 [(.t 19)]), qo 21 (.bsl true 5 1 z5 [(0, 5, (.t 20))]), qo 22 (.app 5 64 (.t 18) (.t 21)), qv 3 22])
 (.reg [qv 23 0, qo 24 (.call .no 105 [(.t 23), (qs #[44])]), qv 5 24]))))))
 (.seq (.reg [qv 25 0, qo 26 (.call .no 163 [(.t 25), (qs #[41])])])
 (.seq (.reg [qv 27 3, qv 2 27])
 (.ret)))))))⟩
def a187 : AFn := ⟨16, [.tmp 2],
 .seq (.reg [qo 2 (.mv (qi 0))])
 (.seq (.seq (.reg [qv 3 0])
 (.block 0 (.seq (.reg [qo 5 (.bin .str .eql (.t 3) (qs #[116, 114, 117, 101])), qv 4 5])
 (.cond (.t 4) (.seq (.reg [qo 2 (.mv (qi 4))])
 (.ret)) (.seq (.reg [qo 7 (.bin .str .eql (.t 3) (qs #[102, 97, 108, 115, 101])), qv 6 7])
 (.cond (.t 6) (.seq (.reg [qo 2 (.mv (qi 5))])
 (.ret)) (.seq (.reg [qo 9 (.bin .str .eql (.t 3) (qs #[110, 117, 108, 108])), qv 8 9])
 (.cond (.t 8) (.seq (.reg [qo 2 (.mv (qi 6))])
 (.ret)) (.seq (.reg [qo 11 (.bin .str .eql (.t 3) (qs #[117, 110, 100, 101, 102, 105, 110, 101, 100])), qv 10 11])
 (.cond (.t 10) (.seq (.reg [qo 2 (.mv (qi 7))])
 (.ret)) (.seq (.reg [qo 13 (.bin .str .eql (.t 3) (qs #[116, 104, 105, 115])), qv 12 13])
 (.cond (.t 12) (.seq (.reg [qo 2 (.mv (qi 8))])
 (.ret)) (.seq (.reg [qo 15 (.bin .str .eql (.t 3) (qs #[105, 110, 112, 117, 116])), qv 14 15])
 (.cond (.t 14) (.seq (.reg [qo 2 (.mv (qi 9))])
 (.ret)) (.skip)))))))))))))))
 (.seq (.reg [qo 2 (.mv (qi 0))])
 (.ret)))⟩
def a188 : AFn := ⟨94, [.cell 2 (some 5)],
 .seq (.reg [qo 2 (.alloc 24 z5)])
 (.seq (.reg [qv 10 0, qo 11 (.call .no 103 [(.t 10), (qi 0)]), qo 12 (.fld 3 none (.t 11)), qo 13 (.build z5 [(0, 1, (qi 11)), (4, 1, (.t 12))]), qo 3 (.alloc 24 z5), ⟨none, .st 5 (.t 3) (.t 13), none⟩])
 (.seq (.reg [qv 14 0, qo 15 (.call .no 163 [(.t 14), (qs #[123])])])
 (.seq (.block 0 (.loop (.seq (.seq (.reg [qv 16 0, qn 17 16, qf 18 2 17, ql 19 18, qo 20 (.bin .num .eql (.t 19) (qi 0))])
 (.cond (.t 20) (.skip) (.exit 0)))
 (.block 1 (.seq (.reg [qv 21 0, qo 22 (.call .no 105 [(.t 21), (qs #[125])]), qv 4 22])
 (.seq (.seq (.reg [qv 23 4])
 (.cond (.t 23) (.seq (.reg [qo 24 (.ld (some 5) (.t 3)), ⟨none, .st 5 (.t 2) (.t 24), none⟩])
 (.ret)) (.skip)))
 (.seq (.reg [qv 25 0, qo 26 (.call .no 103 [(.t 25), (qi 0)]), qo 5 (.alloc 130 z6), ⟨none, .st 5 (.t 5) (.t 26), none⟩])
 (.seq (.reg [qo 27 (.ld (some 5) (.t 5)), qo 28 (.call .full 189 [(.t 27)]), qv 6 28])
 (.seq (.seq (.reg [qv 29 6, qo 30 (.un .not (.t 29))])
 (.cond (.t 30) (.seq (.reg [qv 31 0, qo 32 (.call .full 74 [(.t 31), (.c (.bool false))]), ⟨none, .st 5 (.t 2) (.t 32), none⟩])
 (.ret)) (.skip)))
 (.seq (.reg [qv 33 0, qn 34 33, qf 35 1 34, ql 36 35, qo 37 (.bin .num .add (.t 36) (qi 1)), qn 38 33, qf 39 1 38, ⟨none, .st 1 (.t 39) (.t 37), none⟩])
 (.seq (.reg [qv 40 0, qo 41 (.call .no 103 [(.t 40), (qi 0)]), qo 42 (.call .full 189 [(.t 41)]), qv 7 42])
 (.seq (.seq (.reg [qf 43 0 5, ql 44 43, qo 45 (.bin .num .eql (.t 44) (qi 1)), qv 46 45, qg 47 (.fa 1 (.t 5)) 46 true, qg 48 (.ld none (.t 47)) 46 true, qg 49 (.bin .str .eql (.t 48) (qs #[103, 101, 116])) 46 true, qg 50 (.mv (.t 49)) 46 true, qg 51 (.fa 1 (.t 5)) 50 false, qg 52 (.ld none (.t 51)) 50 false, qg 53 (.bin .str .eql (.t 52) (qs #[115, 101, 116])) 50 false, qg 54 (.pick (.t 50) (.c (.bool true)) (.t 53)) 46 true, qo 55 (.pick (.t 46) (.t 54) (.c (.bool false))), qv 56 55, qg 57 (.mv (.t 7)) 56 true, qo 58 (.pick (.t 56) (.t 57) (.c (.bool false)))])
 (.cond (.t 58) (.seq (.reg [qv 59 0, qo 60 (.call .no 107 [(.t 59), (qi 46)])])
 (.seq (.reg [qo 61 (.ld (some 5) (.t 3)), ⟨none, .st 5 (.t 2) (.t 61), none⟩])
 (.ret))) (.skip)))
 (.seq (.reg [qf 62 1 5, ql 63 62, qf 64 3 5, ql 65 64, qo 66 (.build z5 [(0, 1, (qi 12)), (1, 1, (.t 63)), (4, 1, (.t 65))]), qo 8 (.alloc 24 z5), ⟨none, .st 5 (.t 8) (.t 66), none⟩])
 (.seq (.seq (.reg [qf 67 0 5, ql 68 67, qo 69 (.bin .num .eql (.t 68) (qi 3))])
 (.cond (.t 69) (.reg [qf 70 2 5, ql 71 70, qo 72 (.call .full 190 [(.t 71)]), qf 73 1 8, ⟨none, .st 1 (.t 73) (.t 72), none⟩]) (.skip)))
 (.seq (.reg [qv 74 0, qo 75 (.call .no 163 [(.t 74), (qs #[58])])])
 (.seq (.reg [qv 76 0, qo 77 (.call .no 147 [(.t 76)]), qo 78 (.bsl true 5 1 z5 [(0, 5, (.t 77))]), qf 79 3 8, ⟨none, .st 1 (.t 79) (.t 78), none⟩])
 (.seq (.reg [qf 80 3 3, ql 81 80, qo 82 (.ld (some 5) (.t 8)), qo 83 (.bsl true 5 1 z5 [(0, 5, (.t 82))]), qo 84 (.app 5 64 (.t 81) (.t 83)), qf 85 3 3, ⟨none, .st 1 (.t 85) (.t 84), none⟩])
 (.seq (.reg [qv 86 0, qo 87 (.call .no 105 [(.t 86), (qs #[44])]), qv 9 87])
 (.seq (.reg [qv 88 9, qo 89 (.un .not (.t 88))])
 (.cond (.t 89) (.seq (.reg [qv 90 0, qo 91 (.call .no 163 [(.t 90), (qs #[125])])])
 (.seq (.reg [qo 92 (.ld (some 5) (.t 3)), ⟨none, .st 5 (.t 2) (.t 92), none⟩])
 (.ret))) (.skip)))))))))))))))))))))
 (.seq (.reg [qo 93 (.ld (some 5) (.t 3)), ⟨none, .st 5 (.t 2) (.t 93), none⟩])
 (.ret)))))⟩
def a189 : AFn := ⟨21, [.tmp 2],
 .seq (.reg [qo 1 (.box 130 (.t 0)), qo 2 (.mv (.c (.bool false)))])
 (.seq (.reg [qf 3 0 1, ql 4 3, qo 5 (.bin .num .eql (.t 4) (qi 1)), qv 6 5, qg 7 (.fa 0 (.t 1)) 6 false, qg 8 (.ld none (.t 7)) 6 false, qg 9 (.bin .num .eql (.t 8) (qi 2)) 6 false, qo 10 (.pick (.t 6) (.c (.bool true)) (.t 9)), qv 11 10, qg 12 (.fa 0 (.t 1)) 11 false, qg 13 (.ld none (.t 12)) 11 false, qg 14 (.bin .num .eql (.t 13) (qi 4)) 11 false, qo 15 (.pick (.t 11) (.c (.bool true)) (.t 14)), qv 16 15, qg 17 (.fa 0 (.t 1)) 16 false, qg 18 (.ld none (.t 17)) 16 false, qg 19 (.bin .num .eql (.t 18) (qi 3)) 16 false, qo 20 (.pick (.t 16) (.c (.bool true)) (.t 19)), qv 2 20])
 (.ret))⟩
def a190 : AFn := ⟨20, [.tmp 2],
 .seq (.reg [qo 2 (.mv (qs #[]))])
 (.seq (.seq (.reg [qv 3 0, qo 4 (.bin .num .lss (.t 3) (qi 10))])
 (.cond (.t 4) (.seq (.reg [qv 5 0, qo 6 (.bin .num .add (qi 48) (.t 5)), qo 7 (.cvi .u8 (.t 6)), qo 8 (.bsl false 1 1 [(.int .u8 0)] [(0, 1, (.t 7))]), qo 9 (.cvs (.t 8)), qv 2 9])
 (.ret)) (.skip)))
 (.seq (.dreg [(qv 10 0, 0), (qo 11 (.bin .num .quo (.t 10) (qi 10)), 1), (qo 12 (.call .full 190 [(.t 11)]), 3), (qv 13 0, 0), (qo 14 (.bin .num .rem (.t 13) (qi 10)), 8), (qo 15 (.bin .num .add (qi 48) (.t 14)), 24), (qo 16 (.cvi .u8 (.t 15)), 56), (qo 17 (.bsl false 1 1 [(.int .u8 0)] [(0, 1, (.t 16))]), 120), (qo 18 (.cvs (.t 17)), 248), (qo 19 (.bin .str .add (.t 12) (.t 18)), 511), (qv 2 19, 1023)])
 (.ret)))⟩
def blanks : List AV := (List.range 256).map fun i => .int .u8 (if 9 ≤ i ∧ i ≤ 13 ∨ i = 32 then 1 else 0)
def tabs : Nat → Option (List AV)
  | 1 => some blanks
  | _ => none
def ov144 : CSem → Env → List AV → St → Option (Rt AV × St) := fun _ _ args st =>
  match args with
  | [.sl _ n cs] => guardb (decide (1 ≤ n) && decide (n ≤ 1048576) && decide (cs.length = n * 5) && cs.all AV.one)
      (okv (.hs st.H.length n) { st with H := st.H ++ [.cells 24 (AV.finL 0 cs)] })
  | _ => none
def ov43 : CSem → Env → List AV → St → Option (Rt AV × St) := fun _ E args st =>
 match args with
 | [.nili, .iface 67 (.ptr b 0)] =>
  match st.H[b]? with
  | some (.cells _ [_, _]) => okv (.bool false) st
  | _ => none
 | [.iface 151 (.ptr j 0), .iface 67 (.ptr b 0)] =>
  match st.H[j]?, st.H[b]? with
  | some (.cells _ [.sl _ 1 [.iface 65 (.agg [.int j x, .int k y])]]), some (.cells t [_, _]) =>
   guardb (decide (E.rob ≤ b)) (okv (.bool true) { st with H := st.H.set b (.cells t [.int j x, .int k y]) })
  | _, _ => none
 | _ => none
def a42x : List AOper := [⟨(some 1), .box 24 (.t 0), none⟩, ⟨(some 2), .alloc 27 [.nils], none⟩, ⟨(some 3), .alloc 24 [(.int .i64 0), (.str ⟨#[]⟩), (.int .i64 0), .nils, (.int .i64 0)], none⟩, ⟨(some 4), .alloc 61 [.nili], none⟩]
def a42y : List AOper := [⟨(some 8), .build [.nils, (.int .i64 0)] [(1, 1, (.c (.int .i64 4)))], none⟩, ⟨(some 9), .box 100 (.t 8), none⟩, ⟨(some 5), .mv (.t 9), none⟩]
def a42z : ACode := (.seq (.dreg [(⟨(some 11), .mv (.t 5), none⟩, 0), (⟨(some 12), .build [(.int .i64 0), (.str ⟨#[]⟩), (.int .i64 0), .nils, (.int .i64 0)] [(0, 1, (.c (.int .i64 (-1))))], none⟩, 0), (⟨(some 13), .ld (some 5) (.t 1), none⟩, 0), (⟨(some 14), .call .no 62 [(.t 12), (.c .nils), (.c (.str ⟨#[]⟩)), (.t 13)], none⟩, 6), (⟨(some 15), .fa 4 (.t 1), none⟩, 0), (⟨(some 16), .ld none (.t 15), none⟩, 16), (⟨(some 17), .call .no 61 [(.t 11), (.t 14), (.t 16)], none⟩, 63)])
 (.seq (.reg [⟨(some 18), .mv (.t 5), none⟩, ⟨(some 19), .ld (some 5) (.t 1), none⟩, ⟨(some 20), .call .no 63 [(.t 18), (.t 19), (.c (.int .i64 0)), (.c (.bool false))], none⟩, ⟨none, .st 5 (.t 3) (.t 20), none⟩])
 (.seq (.seq (.reg [⟨(some 21), .mv (.t 5), none⟩, ⟨(some 22), .nck (.t 21), none⟩, ⟨(some 23), .fa 0 (.t 22), none⟩, ⟨(some 24), .ld none (.t 23), none⟩, ⟨(some 25), .len false (.t 24), none⟩, ⟨(some 26), .mv (.c (.int .i64 0)), none⟩])
 (.block 0 (.loop (.seq (.reg [⟨(some 27), .bin .num .lss (.t 26) (.t 25), none⟩])
 (.seq (.cond (.t 27) (.skip) (.exit 0))
 (.seq (.block 1 (.seq (.reg [⟨(some 28), .ia 1 (.t 24) (.t 26), none⟩, ⟨(some 29), .ld none (.t 28), none⟩, ⟨(some 7), .mv (.t 29), none⟩])
 (.dreg [(⟨(some 30), .ld none (.t 2), none⟩, 0), (⟨(some 31), .mv (.t 7), none⟩, 0), (⟨(some 32), .nck (.t 31), none⟩, 2), (⟨(some 33), .fa 0 (.t 32), none⟩, 6), (⟨(some 34), .ld (some 5) (.t 33), none⟩, 14), (⟨(some 35), .bsl true 5 1 [(.int .i64 0), (.str ⟨#[]⟩), (.int .i64 0), .nils, (.int .i64 0)] [(0, 5, (.t 34))], none⟩, 30), (⟨(some 36), .app 5 64 (.t 30) (.t 35), none⟩, 63), (⟨none, .st 1 (.t 2) (.t 36), none⟩, 127)])))
 (.reg [⟨(some 37), .bin .num .add (.t 26) (.c (.int .i64 1)), none⟩, ⟨(some 26), .mv (.t 37), none⟩])))))))
 (.seq (.dreg [(⟨(some 38), .ld none (.t 2), none⟩, 0), (⟨(some 39), .ld (some 5) (.t 3), none⟩, 0), (⟨none, .st 1 (.t 2) (.t 38), none⟩, 1), (⟨none, .st 5 (.t 3) (.t 39), none⟩, 7), (⟨none, .st 1 (.t 4) (.c .nili), none⟩, 15)])
 (.ret)))))
def a59x : List AOper := [⟨(some 7), .ta 65 true (.agg [(.int .i64 0), (.int .i64 0)]) (.t 6), none⟩, ⟨(some 5), .mv (.t 7), none⟩, ⟨(some 8), .ext 0 (.t 5), none⟩, ⟨(some 9), .ext 1 (.t 5), none⟩, ⟨(some 3), .alloc 65 [(.int .i64 0), (.int .i64 0)], none⟩, ⟨none, .st 2 (.t 3) (.t 8), none⟩, ⟨(some 4), .mv (.t 9), none⟩]
def a59y : ACode := (.seq (.reg [⟨(some 10), .mv (.t 4), none⟩])
 (.cond (.t 10) (.reg [⟨(some 11), .build [(.int .i64 0), (.str ⟨#[]⟩), (.int .i64 0), .nils, (.int .i64 0)] [], none⟩, ⟨(some 12), .ld (some 2) (.t 3), none⟩, ⟨(some 13), .mki 65 (.t 12), none⟩, ⟨(some 14), .bsl true 1 1 [.nili] [(0, 1, (.t 13))], none⟩, ⟨(some 15), .call .no 60 [(.t 14)], none⟩, ⟨none, .st 1 (.t 0) (.c .nils), none⟩, ⟨none, .st 5 (.t 1) (.t 11), none⟩, ⟨none, .st 1 (.t 2) (.t 15), none⟩]) (.skip)))
def dfr59 (C : CSem) (E : Env) (caps : List AV) (rv : AV) (st : St) : Option St :=
 obind (aOps tabs C E a59x (put (caps ++ List.replicate 13 AV.undef) (some 6) rv) st) fun
  | (.ok s1, st1) => obind (aRun tabs C E 1 none a59y s1 [] st1) fun
   | (.nrm, _, [], st2) => some st2
   | _ => none
  | _ => none
def res42 : List ARes := [.cell 2 none, .cell 3 (some 5), .cell 4 none]
def ov42 : CSem → Env → List AV → St → Option (Rt AV × St) := fun C E args st =>
 obind (aOps tabs C E a42x (args ++ List.replicate (40 - args.length) AV.undef) st) fun
 | (.ok s0, st0) => obind (aOps tabs C E a42y s0 st0) fun
  | (.ok s1, st1) =>
   let s2 := s1.set 10 (.fn 59 [] [lk s1 2, lk s1 3, lk s1 4])
   guardb (decide (10 < s1.length)) <| obind (aRun tabs C E 1000 none a42z s2 [] st1) fun
   | (.ret, _, [], st3) => obind (dfr59 C E [lk s2 2, lk s2 3, lk s2 4] .nili st3) fun st4 => obind (resAll s2 st4 res42) fun vs => okv (oneOr vs) st4
   | (.pan v, _, [], st3) => obind (dfr59 C E [lk s2 2, lk s2 3, lk s2 4] v st3) fun st4 => obind (resAll s2 st4 res42) fun vs => okv (oneOr vs) st4
   | _ => none
  | _ => none
 | _ => none
def fnTab : List (Nat × AFn) := [(13, a13), (19, a19), (20, a20), (24, a24), (27, a27), (32, a32), (33, a33), (35, a35), (36, a36), (40, a40), (41, a41), (46, a46), (47, a47), (48, a48), (49, a49), (50, a50), (51, a51), (52, a52), (56, a56), (57, a57), (58, a58), (60, a60), (61, a61), (62, a62), (63, a63), (73, a73), (74, a74), (75, a75), (76, a76), (77, a77), (78, a78), (79, a79), (80, a80), (81, a81), (82, a82), (87, a87), (88, a88), (89, a89), (90, a90), (91, a91), (92, a92), (93, a93), (94, a94), (95, a95), (96, a96), (97, a97), (98, a98), (99, a99), (103, a103), (104, a104), (105, a105), (106, a106), (107, a107), (108, a108), (109, a109), (110, a110), (111, a111), (112, a112), (113, a113), (114, a114), (115, a115), (116, a116), (117, a117), (118, a118), (119, a119), (120, a120), (121, a121), (122, a122), (123, a123), (124, a124), (125, a125), (126, a126), (127, a127), (131, a131), (132, a132), (133, a133), (134, a134), (135, a135), (136, a136), (137, a137), (138, a138), (139, a139), (140, a140), (141, a141), (142, a142), (143, a143), (145, a145), (146, a146), (147, a147), (148, a148), (149, a149), (150, a150), (151, a151), (152, a152), (153, a153), (154, a154), (155, a155), (156, a156), (157, a157), (158, a158), (159, a159), (160, a160), (163, a163), (164, a164), (165, a165), (167, a167), (168, a168), (169, a169), (170, a170), (171, a171), (172, a172), (173, a173), (175, a175), (176, a176), (177, a177), (178, a178), (181, a181), (182, a182), (184, a184), (185, a185), (186, a186), (187, a187), (188, a188), (189, a189), (190, a190)]
def fnOf (f : Nat) : Option AFn := (fnTab.find? fun p => p.1 == f).map (·.2)
def ovOf : Nat → Option (CSem → Env → List AV → St → Option (Rt AV × St))
 | 42 => some ov42
 | 43 => some ov43
 | 144 => some ov144
 | _ => none
def prog : AProg := { GT := tabs, fn := fnOf, ovr := ovOf }
end Go.Proofs.YP
