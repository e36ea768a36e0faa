/- Texts that the laws of the seat rest on: an abstract machine, what the functions answer in it, plain laws. -/
import GoSem.Core.Sem
set_option linter.unusedVariables false
set_option linter.unusedSimpArgs false
set_option linter.unusedSectionVars false
namespace Go.Proofs.YP
open Go
inductive AV where
 | int (k : IntKind) (n : Int)
 | bool (b : Bool)
 | str (s : ByteArray)
 | nilp
 | ptr (b off : Nat)
 | eptr (cs : List AV) (off : Nat)
 | nils
 | sl (own : Option Nat) (n : Nat) (cs : List AV)
 | hs (b n : Nat)
 | nilm
 | map (b : Nat)
 | nilf
 | fn (f : Nat) (first caps : List AV)
 | yld (b : Nat)
 | nili
 | iface (t : Nat) (v : AV)
 | agg (cs : List AV)
 | tup (vs : List AV)
 deriving Inhabited
def AV.undef : AV := .tup []
def AV.cells : AV → List AV
 | .agg cs => cs
 | v => [v]
def AV.one : AV → Bool
 | .agg _ | .tup _ => false
 | _ => true
inductive Ref where
 | blk (b : Nat)
 | arr (i : Nat)
 deriving DecidableEq
mutual
def AV.refs : AV → List Ref
 | .ptr b _ => [.blk b]
 | .eptr cs _ => AV.refsL cs
 | .sl none _ cs => AV.refsL cs
 | .sl (some i) _ cs => .arr i :: AV.refsL cs
 | .map b => [.blk b]
 | .hs b _ => [.blk b]
 | .fn _ x y => AV.refsL x ++ AV.refsL y
 | .yld b => [.blk b]
 | .iface _ v => v.refs
 | .agg cs => AV.refsL cs
 | .tup vs => AV.refsL vs
 | .int _ _ | .bool _ | .str _ | .nilp | .nils | .nilm | .nilf | .nili => []
def AV.refsL : List AV → List Ref
 | [] => []
 | v :: vs => v.refs ++ AV.refsL vs
end
mutual
def AV.fin (m : Nat) : AV → AV
 | .eptr cs o => .eptr (AV.finL m cs) o
 | .nils => .sl none 0 []
 | .sl none n cs => .sl none n (AV.finL m cs)
 | .sl (some i) n cs => .sl (if i < m then some i else none) n (AV.finL m cs)
 | .fn f x y => .fn f (AV.finL m x) (AV.finL m y)
 | .iface t v => .iface t (v.fin m)
 | .agg cs => .agg (AV.finL m cs)
 | .tup vs => .tup (AV.finL m vs)
 | .int k n => .int k n
 | .bool b => .bool b
 | .str s => .str s
 | .nilp => .nilp
 | .ptr b o => .ptr b o
 | .nilm => .nilm
 | .map b => .map b
 | .hs b n => .hs b n
 | .nilf => .nilf
 | .yld b => .yld b
 | .nili => .nili
def AV.finL (m : Nat) : List AV → List AV
 | [] => []
 | v :: vs => v.fin m :: AV.finL m vs
end
def AV.arg : AV → AV
 | .nils => .nils
 | v => v.fin 0
mutual
def AV.beq : AV → AV → Bool
 | .int k n, .int k' n' => decide (k = k') && decide (n = n')
 | .bool a, .bool b => a == b
 | .str a, .str b => decide (a = b)
 | .nilp, .nilp => true
 | .ptr b o, .ptr b' o' => decide (b = b') && decide (o = o')
 | .eptr c o, .eptr c' o' => AV.beqL c c' && decide (o = o')
 | .nils, .nils => true
 | .sl w n c, .sl w' n' c' => decide (w = w') && decide (n = n') && AV.beqL c c'
 | .nilm, .nilm => true
 | .map b, .map b' => decide (b = b')
 | .hs b n, .hs b' n' => decide (b = b') && decide (n = n')
 | .nilf, .nilf => true
 | .fn f x y, .fn f' x' y' => decide (f = f') && AV.beqL x x' && AV.beqL y y'
 | .yld b, .yld b' => decide (b = b')
 | .nili, .nili => true
 | .iface t v, .iface t' v' => decide (t = t') && v.beq v'
 | .agg c, .agg c' => AV.beqL c c'
 | .tup c, .tup c' => AV.beqL c c'
 | _, _ => false
def AV.beqL : List AV → List AV → Bool
 | [], [] => true
 | v :: vs, u :: us => v.beq u && AV.beqL vs us
 | _, _ => false
end
mutual
theorem AV.beq_refl : ∀ v : AV, v.beq v = true
 | .int _ _ | .bool _ | .str _ | .nilp | .ptr _ _ | .nils | .nilm | .map _ | .nilf | .yld _ | .nili | .hs _ _ => by simp [AV.beq]
 | .eptr c _ => by simp [AV.beq, AV.beqL_refl c]
 | .sl _ _ c => by simp [AV.beq, AV.beqL_refl c]
 | .fn _ x y => by simp [AV.beq, AV.beqL_refl x, AV.beqL_refl y]
 | .iface _ v => by simp [AV.beq, AV.beq_refl v]
 | .agg c => by simp [AV.beq, AV.beqL_refl c]
 | .tup c => by simp [AV.beq, AV.beqL_refl c]
theorem AV.beqL_refl : ∀ l : List AV, AV.beqL l l = true
 | [] => by simp [AV.beqL]
 | v :: vs => by simp [AV.beqL, AV.beq_refl v, AV.beqL_refl vs]
end
mutual
theorem AV.eq_of_beq : ∀ v u : AV, v.beq u = true → v = u
 | .int _ _, u, h | .bool _, u, h | .str _, u, h | .nilp, u, h | .ptr _ _, u, h | .nils, u, h | .nilm, u, h | .map _, u, h | .nilf, u, h | .yld _, u, h | .nili, u, h | .hs _ _, u, h => by
  cases u <;> simp_all [AV.beq]
 | .eptr c _, u, h => by cases u <;> simp [AV.beq] at h; rw [AV.eqL_of_beqL _ _ h.1, h.2]
 | .sl _ _ c, u, h => by cases u <;> simp [AV.beq] at h; rw [AV.eqL_of_beqL _ _ h.2, h.1.1, h.1.2]
 | .fn _ x y, u, h => by cases u <;> simp [AV.beq] at h; rw [AV.eqL_of_beqL _ _ h.1.2, AV.eqL_of_beqL _ _ h.2, h.1.1]
 | .iface _ v, u, h => by cases u <;> simp [AV.beq] at h; rw [AV.eq_of_beq _ _ h.2, h.1]
 | .agg c, u, h => by cases u <;> simp [AV.beq] at h; rw [AV.eqL_of_beqL _ _ h]
 | .tup c, u, h => by cases u <;> simp [AV.beq] at h; rw [AV.eqL_of_beqL _ _ h]
theorem AV.eqL_of_beqL : ∀ l k : List AV, AV.beqL l k = true → l = k
 | [], k, h => by cases k <;> simp_all [AV.beqL]
 | v :: vs, k, h => by
  cases k with
  | nil => simp [AV.beqL] at h
  | cons u us => simp [AV.beqL] at h; rw [AV.eq_of_beq _ _ h.1, AV.eqL_of_beqL _ _ h.2]
end
inductive AO where
 | t (n : Nat)
 | c (v : AV)
 | g (n : Nat)
 deriving Inhabited
inductive Tr where
 | no | keep | full | quiet
 deriving DecidableEq
inductive BK where
 | num | str | boo | sli | fnc | ifc
 deriving DecidableEq
inductive AOp where
 | mv (x : AO)
 | pick (c x y : AO)
 | alloc (ty : Nat) (z : List AV)
 | box (ty : Nat) (x : AO)
 | build (z : List AV) (ps : List (Nat × Nat × AO))
 | bsl (own : Bool) (sz n : Nat) (z : List AV) (ps : List (Nat × Nat × AO))
 | ld (k : Option Nat) (x : AO)
 | st (n : Nat) (p x : AO)
 | nck (x : AO)
 | fa (off : Nat) (x : AO)
 | ia (sz : Nat) (x i : AO)
 | iaa (len sz : Nat) (x i : AO)
 | ixs (x i : AO)
 | fld (off : Nat) (k : Option Nat) (x : AO)
 | ext (n : Nat) (x : AO)
 | bin (k : BK) (op : BinOp) (x y : AO)
 | un (op : UnOp) (x : AO)
 | cvi (k : IntKind) (x : AO)
 | cvs (x : AO)
 | mks (sz bytes : Nat) (z : List AV) (l c : AO)
 | mkh (ty bytes : Nat) (z : List AV) (l c : AO)
 | frz (x : AO)
 | slc (sz : Option Nat) (x : AO) (lo hi : Option AO)
 | len (str : Bool) (x : AO)
 | app (sz bytes : Nat) (x y : AO)
 | mini (x y : AO)
 | mki (t : Nat) (x : AO)
 | mkf (f : Nat) (x y : List AO)
 | mkm
 | lkp (str : Bool) (z : AV) (ok : Bool) (m k : AO)
 | upd (str : Bool) (m k v : AO)
 | ta (t : Nat) (ok : Bool) (z : AV) (x : AO)
 | pan (x : AO)
 | call (tr : Tr) (f : Nat) (args : List AO)
 | callv (tr : Tr) (f : AO) (args : List AO)
structure AOper where
 dst : Option Nat
 op : AOp
 guard : Option (Nat × Bool)
inductive ACode where
 | skip
 | reg (ops : List AOper)
 | dreg (ops : List (AOper × Nat))
 | seq (a b : ACode)
 | cond (c : AO) (x y : ACode)
 | block (id : Nat) (b : ACode)
 | scope (b : ACode)
 | loop (b : ACode)
 | rf (f : AO) (ps : List Nat) (asg body : ACode)
 | exit (id : Nat)
 | ret
 | bad
inductive ARes where
 | tmp (t : Nat)
 | cell (a : Nat) (k : Option Nat)
structure AFn where
 ntmps : Nat
 res : List ARes
 body : ACode
inductive LState where
 | ready | busy | done | exhausted
 deriving DecidableEq
inductive AJump where
 | ret
 | exit (id : Nat)
 deriving DecidableEq
inductive ABlk where
 | cells (ty : Nat) (c : List AV)
 | map (es : List (AV × AV))
 | loop (s : LState) (pend : Option AJump) (fn : Nat) (tmps : List AV) (ps : List Nat) (asg body : ACode) (dfr : Nat)
 | dfr
 | opq
structure St where
 H : List ABlk
 I : List (Nat × Nat)
structure Env where
 base : Nat
 rob : Nat
 rom : Nat
inductive Rt (α : Type) where
 | ok (a : α)
 | pan (v : AV)
def obind {α β : Type} (x : Option α) (f : α → Option β) : Option β :=
 match x with
 | some a => f a
 | none => none
@[simp] theorem obind_some {α β : Type} (a : α) (f : α → Option β) : obind (some a) f = f a := rfl
@[simp] theorem obind_none {α β : Type} (f : α → Option β) : obind (none : Option α) f = none := rfl
@[congr] theorem obind_congr {α β : Type} {x x' : Option α} {f : α → Option β} (h : x = x') : obind x f = obind x' f := by rw [h]
theorem obind_eq_some {α β : Type} {x : Option α} {f : α → Option β} {b : β} : obind x f = some b ↔ ∃ a, x = some a ∧ f a = some b := by
 cases x <;> simp [obind]
def guardb (b : Bool) {α : Type} (x : Option α) : Option α := if b then x else none
@[simp] theorem guardb_true {α : Type} (x : Option α) : guardb true x = x := rfl
@[simp] theorem guardb_false {α : Type} (x : Option α) : guardb false x = none := rfl
@[congr] theorem guardb_congr {α : Type} {b b' : Bool} {x : Option α} (h : b = b') : guardb b x = guardb b' x := by rw [h]
theorem guardb_eq_some {α : Type} {b : Bool} {x : Option α} {a : α} : guardb b x = some a ↔ b = true ∧ x = some a := by
 cases b <;> simp [guardb]
def lk (s : List AV) (t : Nat) : AV := (s[t]?).getD AV.undef
def put (s : List AV) (d : Option Nat) (v : AV) : List AV :=
 match d with
 | some d => s.set d v
 | none => s
def rdC (k : Option Nat) (c : List AV) (off : Nat) : Option AV :=
 match k with
 | none => c[off]?
 | some n => if off + n ≤ c.length then some (.agg ((c.drop off).take n)) else none
def wrC (c : List AV) (off : Nat) (vs : List AV) : List AV := c.take off ++ vs ++ c.drop (off + vs.length)
def loadA (st : St) (k : Option Nat) : AV → Option AV
 | .ptr b off =>
  match st.H[b]? with
  | some (.cells _ c) => rdC k c off
  | _ => none
 | .eptr c off => rdC k c off
 | _ => none
def subRefs (new old : List AV) : Bool := (AV.refsL new).all fun r => decide (r ∈ AV.refsL old)
def mayWrite (E : Env) (b : Nat) (old new : List AV) : Bool := decide (E.rob ≤ b) && (decide (E.base ≤ b) || subRefs new old)
def storeA (E : Env) (st : St) (n : Nat) (p v : AV) : Option St :=
 match p with
 | .ptr b off =>
  match st.H[b]? with
  | some (.cells t c) =>
   guardb (decide (v.cells.length = n) && v.cells.all AV.one && decide (off + n ≤ c.length) && mayWrite E b c v.cells)
    (some { st with H := st.H.set b (.cells t (wrC c off v.cells)) })
  | _ => none
 | _ => none
def fillA (z : List AV) : List (Nat × Nat × List AV) → Option (List AV)
 | [] => some z
 | (off, n, cs) :: r => guardb (decide (cs.length = n) && decide (off + n ≤ z.length) && cs.all AV.one) (fillA (wrC z off cs) r)
def i64 (n : Int) : AV := .int .i64 n
def intBin (op : BinOp) (k : IntKind) (a b : Int) : Option AV :=
 match op with
 | .add => some (.int k (k.wrap (a + b)))
 | .sub => some (.int k (k.wrap (a - b)))
 | .mul => some (.int k (k.wrap (a * b)))
 | .quo => guardb (decide (b ≠ 0)) (some (.int k (k.wrap (a.tdiv b))))
 | .rem => guardb (decide (b ≠ 0)) (some (.int k (a.tmod b)))
 | .and => some (.int k (k.wrap ((BitVec.ofInt k.bits a &&& BitVec.ofInt k.bits b).toNat)))
 | .or => some (.int k (k.wrap ((BitVec.ofInt k.bits a ||| BitVec.ofInt k.bits b).toNat)))
 | .eql => some (.bool (a == b))
 | .neq => some (.bool (a != b))
 | .lss => some (.bool (decide (a < b)))
 | .leq => some (.bool (decide (a ≤ b)))
 | .gtr => some (.bool (decide (a > b)))
 | .geq => some (.bool (decide (a ≥ b)))
 | _ => none
def strBin (op : BinOp) (a b : ByteArray) : Option AV :=
 match op with
 | .add => guardb (decide (a.size + b.size ≤ 9223372036854775807)) (some (.str (a ++ b)))
 | .eql => some (.bool (decide (a = b)))
 | .neq => some (.bool (!decide (a = b)))
 | _ => none
def eqBin (op : BinOp) (b : Bool) : Option AV :=
 match op with
 | .eql => some (.bool b)
 | .neq => some (.bool !b)
 | _ => none
def binA (K : BK) (op : BinOp) (x y : AV) : Option AV :=
 match K, x, y with
 | .num, .int k a, .int k' b =>
  match op with
  | .shl => guardb (decide (0 ≤ b)) (some (.int k (k.wrap (a * 2 ^ (min b.toNat k.bits)))))
  | .shr => guardb (decide (0 ≤ b)) (some (.int k (a.fdiv (2 ^ (min b.toNat k.bits)))))
  | _ => guardb (decide (k = k')) (intBin op k a b)
 | .str, .str a, .str b => strBin op a b
 | .boo, .bool a, .bool b => eqBin op (a == b)
 | .fnc, .nilf, .nilf => eqBin op true
 | .fnc, .fn _ _ _, .nilf => eqBin op false
 | .fnc, .yld _, .nilf => eqBin op false
 | .ifc, .iface _ _, .nili => eqBin op false
 | .ifc, .nili, .nili => eqBin op true
 | .sli, .nils, .nils => eqBin op true
 | .sli, .sl (some _) _ _, .nils => eqBin op false
 | _, _, _ => none
def unA (op : UnOp) (x : AV) : Option AV :=
 match op, x with
 | .not, .bool b => some (.bool !b)
 | .neg, .int k n => some (.int k (k.wrap (0 - n)))
 | .xor, .int k n => some (.int k (k.wrap ((BitVec.ofInt k.bits (if k.signed then -1 else k.max) ^^^ BitVec.ofInt k.bits n).toNat)))
 | _, _ => none
def lenA (str : Bool) : AV → Option AV
 | .str s => guardb str (some (i64 s.size))
 | .nils => guardb (!str) (some (i64 0))
 | .sl _ n _ => guardb (!str) (some (i64 n))
 | .hs _ n => guardb (!str) (some (i64 n))
 | _ => none
def bytesA : List AV → Option (List UInt8)
 | [] => some []
 | .int .u8 n :: r => obind (bytesA r) fun l => some (UInt8.ofNat n.toNat :: l)
 | _ :: _ => none
def asN : AV → Option Nat
 | .int _ n => guardb (decide (0 ≤ n)) (some n.toNat)
 | _ => none
def optN (ev : AO → AV) (d : Nat) : Option AO → Option Nat
 | none => some d
 | some x => asN (ev x)
def slcA (sz : Option Nat) (x : AV) (lo hi : Nat) : Option AV :=
 match sz, x with
 | none, .str s => guardb (decide (lo ≤ hi) && decide (hi ≤ s.size)) (some (.str (s.extract lo hi)))
 | some _, .nils => guardb (decide (lo = 0) && decide (hi = 0)) (some (.sl none 0 []))
 | some sz, .sl _ n cs => guardb (decide (lo ≤ hi) && decide (hi ≤ n) && decide (cs.length = n * sz)) (some (.sl none (hi - lo) ((cs.drop (lo * sz)).take ((hi - lo) * sz))))
 | _, _ => none
def lenN : AV → Nat
 | .str s => s.size
 | .sl _ n _ => n
 | _ => 0
def srcA (sz : Nat) : AV → Option (Nat × List AV)
 | .nils => some (0, [])
 | .sl _ n cs => guardb (decide (cs.length = n * sz) && cs.all AV.one) (some (n, AV.finL 0 cs))
 | _ => none
def appA (E : Env) (st : St) (sz bytes : Nat) (x y : AV) : Option (AV × St) :=
 obind (srcA sz y) fun (m, ys) =>
  match x with
  | .nils =>
   if m = 0 then some (.nils, st)
   else guardb (decide (m * bytes ≤ 70368744177664) && decide (m ≤ 70368744177664)) (some (.sl (some st.I.length) m ys, { st with I := st.I ++ [(m, sz)] }))
  | .sl (some i) n cs =>
   guardb (decide (E.rom ≤ i) && decide (st.I[i]? = some (n, sz)) && decide (cs.length = n * sz) && decide ((n + m) * bytes ≤ 70368744177664) && decide (n + m ≤ 70368744177664))
    (some (.sl (some i) (n + m) (cs ++ ys), { st with I := st.I.set i (n + m, sz) }))
  | _ => none
def keyEq (str : Bool) : AV → AV → Option Bool
 | .int k a, .int k' b => guardb (!str && decide (k = k')) (some (a == b))
 | .str a, .str b => guardb str (some (decide (a = b)))
 | _, _ => none
def findA (str : Bool) (k : AV) : List (AV × AV) → Option (Option AV)
 | [] => some none
 | (q, v) :: r => obind (keyEq str k q) fun b => if b then some (some v) else findA str k r
def keyOk (str : Bool) : AV → Bool
 | .int _ _ => !str
 | .str _ => str
 | _ => false
def updA (str : Bool) (k v : AV) : List (AV × AV) → Option (List (AV × AV))
 | [] => some [(k, v)]
 | (q, u) :: r => obind (keyEq str k q) fun b => if b then some ((k, v) :: r) else obind (updA str k v r) fun r' => some ((q, u) :: r')
def mapCells (es : List (AV × AV)) : List AV := es.flatMap fun e => [e.1, e.2]
def okv (v : AV) (st : St) : Option (Rt AV × St) := some (.ok v, st)
@[simp] theorem okv_eq (v : AV) (st : St) : okv v st = some (.ok v, st) := rfl
def okOf (x : Option AV) (st : St) : Option (Rt AV × St) := obind x fun v => okv v st
@[simp] theorem okOf_some (v : AV) (st : St) : okOf (some v) st = some (.ok v, st) := rfl
@[simp] theorem okOf_none (st : St) : okOf none st = none := rfl
def aOp (E : Env) (st : St) (ev : AO → AV) : AOp → Option (Rt AV × St)
  | .mv x => okv (ev x) st
  | .pick c x y =>
    match ev c with
    | .bool b => okv (if b then ev x else ev y) st
    | _ => none
  | .alloc ty z => guardb (z.all AV.one) (okv (.ptr st.H.length 0) { st with H := st.H ++ [.cells ty z] })
  | .box ty x => guardb ((ev x).cells.all AV.one) (okv (.ptr st.H.length 0) { st with H := st.H ++ [.cells ty (ev x).cells] })
  | .build z ps => okOf (obind (fillA z (ps.map fun p => (p.1, p.2.1, (ev p.2.2).cells))) fun cs => some (.agg cs)) st
  | .bsl own sz n z ps => obind (fillA z (ps.map fun p => (p.1, p.2.1, (ev p.2.2).cells))) fun cs =>
      if own then okv (.sl (some st.I.length) n (AV.finL 0 cs)) { st with I := st.I ++ [(n, sz)] } else okv (.sl none n (AV.finL 0 cs)) st
  | .ld k x => okOf (loadA st k (ev x)) st
  | .st n p x => obind (storeA E st n (ev p) (ev x)) fun st' => okv AV.undef st'
  | .nck x =>
    match ev x with
    | .ptr b o => okv (.ptr b o) st
    | .eptr c o => okv (.eptr c o) st
    | _ => none
  | .fa off x =>
    match ev x with
    | .ptr b o => okv (.ptr b (o + off)) st
    | .eptr c o => okv (.eptr c (o + off)) st
    | _ => none
  | .ia sz x i =>
    match ev x, ev i with
    | .sl _ n cs, .int _ j => guardb (decide (0 ≤ j) && decide (j < n)) (okv (.eptr cs (j.toNat * sz)) st)
    | .hs b n, .int _ j => guardb (decide (0 ≤ j) && decide (j < n)) (okv (.ptr b (j.toNat * sz)) st)
    | _, _ => none
  | .iaa len sz x i =>
    match ev x, ev i with
    | .ptr b o, .int _ j => guardb (decide (0 ≤ j) && decide (j < len)) (okv (.ptr b (o + j.toNat * sz)) st)
    | .eptr c o, .int _ j => guardb (decide (0 ≤ j) && decide (j < len)) (okv (.eptr c (o + j.toNat * sz)) st)
    | _, _ => none
  | .ixs x i =>
    match ev x, ev i with
    | .str s, .int _ j => guardb (decide (0 ≤ j)) (okOf ((s.data[j.toNat]?).map fun b => .int .u8 b.toNat) st)
    | _, _ => none
  | .fld off k x =>
    match ev x with
    | .agg cs => okOf (rdC k cs off) st
    | _ => none
  | .ext n x =>
    match ev x with
    | .tup vs => okOf vs[n]? st
    | _ => none
  | .bin K op x y => okOf (binA K op (ev x) (ev y)) st
  | .un op x => okOf (unA op (ev x)) st
  | .cvi k x =>
    match ev x with
    | .int _ n => okv (.int k (k.wrap n)) st
    | _ => none
  | .cvs x =>
    match ev x with
    | .nils => okv (.str ⟨#[]⟩) st
    | .sl _ n cs => guardb (decide (cs.length = n)) (obind (bytesA cs) fun l => okv (.str ⟨l.toArray⟩) st)
    | _ => none
  | .mks sz bytes z l c =>
    match ev l, ev c with
    | .int .i64 a, .int .i64 b => guardb (decide (a = 0) && decide (0 ≤ b) && decide (b ≤ 1073741824) && decide (bytes ≤ 65536) && decide (z.length = sz))
        (okv (.sl (some st.I.length) 0 []) { st with I := st.I ++ [(0, sz)] })
    | _, _ => none
  | .mkh ty bytes z l c =>
    match ev l, ev c with
    | .int .i64 a, .int .i64 b => guardb (decide (a = b) && decide (0 ≤ b) && decide (b ≤ 1048576) && decide (bytes ≤ 65536) && z.all AV.one)
        (okv (.hs st.H.length b.toNat) { st with H := st.H ++ [.cells ty (List.replicate b.toNat z).flatten] })
    | _, _ => none
  | .frz x =>
    match ev x with
    | .hs b n =>
      match st.H[b]? with
      | some (.cells _ c) => guardb (decide (E.rob ≤ b)) (okv (.sl none n (AV.finL 0 c)) { st with H := st.H.set b .opq })
      | _ => none
    | _ => none
  | .slc sz x lo hi => obind (optN ev 0 lo) fun a => obind (optN ev (lenN (ev x)) hi) fun b => okOf (slcA sz (ev x) a b) st
  | .len str x => okOf (lenA str (ev x)) st
  | .app sz bytes x y => obind (appA E st sz bytes (ev x) (ev y)) fun (v, st') => okv v st'
  | .mini x y =>
    match ev x, ev y with
    | .int k a, .int _ b => okv (.int k (if b < a then b else a)) st
    | _, _ => none
  | .mki t x => okv (.iface t (ev x)) st
  | .mkf f x y => okv (.fn f (x.map ev) (y.map ev)) st
  | .mkm => okv (.map st.H.length) { st with H := st.H ++ [.map []] }
  | .lkp str z ok m k =>
    match ev m with
    | .map b =>
      match st.H[b]? with
      | some (.map es) => guardb (keyOk str (ev k)) (obind (findA str (ev k) es) fun r =>
          let v := r.getD z
          okv (if ok then .tup [v, .bool r.isSome] else v) st)
      | _ => none
    | _ => none
  | .upd str m k v =>
    match ev m with
    | .map b =>
      match st.H[b]? with
      | some (.map es) => guardb (keyOk str (ev k) && (ev k).one && mayWrite E b [] [ev k, ev v]) (obind (updA str (ev k) (ev v) es) fun es' =>
          okv AV.undef { st with H := st.H.set b (.map es') })
      | _ => none
    | _ => none
  | .ta t ok z x =>
    match ev x with
    | .iface u v => if u = t then okv (if ok then .tup [v, .bool true] else v) st else guardb ok (okv (.tup [z, .bool false]) st)
    | .nili => guardb ok (okv (.tup [z, .bool false]) st)
    | _ => none
  | .pan x =>
    match ev x with
    | .iface t v => some (.pan (.iface t v), st)
    | _ => none
  | .call .. | .callv .. => none
inductive Cal where
 | fn (f : Nat)
 | yld (b : Nat)
abbrev CSem := Env → Cal → List AV → St → Option (Rt AV × St)
def refsLt (n m : Nat) (l : List Ref) : Bool := l.all fun
 | .blk b => decide (b < n)
 | .arr i => decide (i < m)
def doCall (C : CSem) (E : Env) (tr : Tr) (cal : Cal) (args : List AV) (st : St) : Option (Rt AV × St) :=
 match tr with
 | .no => C E cal args st
 | .keep => obind (C { E with base := st.H.length } cal args st) fun
  | (.ok v, st') => guardb (refsLt st.H.length st'.I.length v.refs) (okv v { st' with H := st'.H.take st.H.length })
  | (.pan v, st') => some (.pan v, st')
 | .full => obind (C { E with base := st.H.length } cal (args.map AV.arg) st) fun
  | (.ok v, st') => guardb (refsLt st.H.length st.I.length (v.fin st.I.length).refs) (okv (v.fin st.I.length) { H := st'.H.take st.H.length, I := st'.I.take st.I.length })
  | (.pan v, st') => some (.pan v, st')
 | .quiet => obind (C { base := st.H.length, rob := st.H.length, rom := st.I.length } cal args st) fun
  | (.ok v, _) => guardb (refsLt st.H.length st.I.length (v.fin st.I.length).refs) (okv (v.fin st.I.length) st)
  | (.pan _, _) => none
section
variable (GT : Nat → Option (List AV))
def evA (s : List AV) : AO → AV
 | .t n => lk s n
 | .c v => v
 | .g n => match GT n with
  | some c => .eptr c 0
  | none => AV.undef
variable (C : CSem) (E : Env)
def aExec (op : AOp) (s : List AV) (st : St) : Option (Rt AV × St) :=
 match op with
 | .call tr f args => doCall C E tr (.fn f) (args.map (evA GT s)) st
 | .callv tr x args =>
  match evA GT s x with
  | .fn f a b => doCall C E tr (.fn f) (a ++ args.map (evA GT s) ++ b) st
  | .yld b => doCall C E tr (.yld b) (args.map (evA GT s)) st
  | _ => none
 | op => aOp E st (evA GT s) op
def wantA (o : AOper) (s : List AV) : Bool :=
 match o.guard with
 | none => true
 | some (t, b) => match s[t]? with
  | some (.bool c) => c == b
  | _ => false
def aStep (o : AOper) (s : List AV) (st : St) : Option (Rt (List AV) × St) :=
 if wantA o s then
  obind (aExec GT C E o.op s st) fun
   | (.ok v, st') => some (.ok (put s o.dst v), st')
   | (.pan v, st') => some (.pan v, st')
 else some (.ok (put s o.dst AV.undef), st)
def aOps : List AOper → List AV → St → Option (Rt (List AV) × St)
 | [], s, st => some (.ok s, st)
 | o :: r, s, st => obind (aStep GT C E o s st) fun
  | (.ok s', st') => aOps r s' st'
  | (.pan v, st') => some (.pan v, st')
def isEff : AOp → Bool
 | .bsl own .. => own
 | .alloc .. | .box .. | .st .. | .mks .. | .mkh .. | .frz _ | .app .. | .mkm | .upd .. | .pan _ => true
 | .call tr .. | .callv tr .. => decide (tr ≠ .quiet)
 | _ => false
def reads : AOp → Bool
 | .ld .. | .lkp .. | .call .. | .callv .. => true
 | _ => false
def sameAt (o : AOper) (s : List AV) (st : St) (v : AV) : Bool :=
 match aExec GT C E o.op s st with
 | some (.ok u, _) => u.beq v
 | _ => false
def sameBack (o : AOper) (s : List AV) (v : AV) (m : Nat) : List (Option Nat × St) → Bool
 | (some e, _) :: (p, st) :: r => m.testBit e || (sameAt GT C E o s st v && sameBack o s v m ((p, st) :: r))
 | _ => true
def aDead (p : Nat) : List (AOper × Nat) → List (Option Nat × St) → List AV → St → Bool
  | [], _, _, _ => true
  | (o, m) :: r, sts, s, st =>
    if m.testBit p then aDead p r sts s st
    else !isEff o.op && (if wantA o s then
        match aExec GT C E o.op s st with
        | some (.ok v, _) => (!reads o.op || sameBack GT C E o s v m sts) && aDead p r sts (put s o.dst v) st
        | _ => false
      else aDead p r sts (put s o.dst AV.undef) st)
structure Done where
 i : Nat
 o : AOper
 s : List AV
 v : AV
def aDraw : Nat → List (AOper × Nat) → List Done → List (Option Nat × St) → List AV → St → Option (Rt (List AV) × St)
 | _, [], _, _, s, st => some (.ok s, st)
 | i, (o, m) :: r, ds, sts, s, st =>
  if wantA o s then
   obind (aExec GT C E o.op s st) fun
    | (.ok v, st') =>
     if isEff o.op then
      guardb (ds.all fun d => m.testBit d.i || sameAt GT C E d.o d.s st' d.v)
       (aDraw (i + 1) r ds ((some i, st') :: sts) (put s o.dst v) st')
     else if reads o.op then
      guardb (sameBack GT C E o s v m sts) (aDraw (i + 1) r (⟨i, o, s, v⟩ :: ds) sts (put s o.dst v) st)
     else aDraw (i + 1) r ds sts (put s o.dst v) st
    | (.pan v, st') => guardb (isEff o.op && aDead GT C E i r sts s st) (some (.pan v, st'))
  else if isEff o.op then aDraw (i + 1) r ds ((some i, st) :: sts) (put s o.dst AV.undef) st
  else aDraw (i + 1) r ds sts (put s o.dst AV.undef) st
end
inductive AExit where
 | nrm | ret
 | exit (id : Nat)
 | pan (v : AV)
abbrev RunRes := Option (AExit × List AV × List Nat × St)
def iter (f : List AV → List Nat → St → RunRes) : Nat → List AV → List Nat → St → RunRes
 | 0, _, _, _ => none
 | k + 1, s, m, st => obind (f s m st) fun
  | (.nrm, s', m', st') => iter f k s' m' st'
  | r => some r
def AJump.exit' : Option AJump → AExit
 | none => .nrm
 | some .ret => .ret
 | some (.exit id) => .exit id
section
variable (GT : Nat → Option (List AV)) (C : CSem) (E : Env) (lf : Nat)
def rfCall (rd : Option Nat) (f : AV) (ps : List Nat) (asg body : ACode) (s : List AV) (m : List Nat) (st : St) : RunRes :=
  obind (match rd with
    | none => some (st.H.length, st.H.length :: m, { st with H := st.H ++ [.dfr] })
    | some l0 => match st.H[l0]? with
      | some (.loop _ _ _ _ _ _ _ d) => some (d, m, st)
      | _ => none) fun (d, m', st1) =>
  let l := st1.H.length
  let st2 : St := { st1 with H := st1.H ++ [.loop .ready none 0 s ps asg body d] }
  match f with
  | .fn g a b => obind (C E (.fn g) (a ++ [.yld l] ++ b) st2) fun
    | (.ok _, st3) => match st3.H[l]? with
      | some (.loop ls p g' t ps' as' bd d') => guardb (decide (ls ≠ .busy))
          (some (AJump.exit' p, s, m', { st3 with H := st3.H.set l (.loop .exhausted p g' t ps' as' bd d') }))
      | _ => none
    | (.pan v, st3) => some (.pan v, s, m', st3)
  | _ => none
def aRun (rd : Option Nat) : ACode → List AV → List Nat → St → RunRes
 | .skip, s, m, st => some (.nrm, s, m, st)
 | .reg ops, s, m, st => obind (aOps GT C E ops s st) fun
  | (.ok s', st') => some (.nrm, s', m, st')
  | (.pan v, st') => some (.pan v, s, m, st')
 | .dreg ops, s, m, st => obind (aDraw GT C E 0 ops [] [(none, st)] s st) fun
  | (.ok s', st') => some (.nrm, s', m, st')
  | (.pan v, st') => some (.pan v, s, m, st')
 | .seq a b, s, m, st => obind (aRun rd a s m st) fun
  | (.nrm, s', m', st') => aRun rd b s' m' st'
  | r => some r
 | .cond c x y, s, m, st =>
  match evA GT s c with
  | .bool b => if b then aRun rd x s m st else aRun rd y s m st
  | _ => none
 | .block id b, s, m, st => obind (aRun rd b s m st) fun
  | (.exit j, s', m', st') => if j = id then some (.nrm, s', m', st') else some (.exit j, s', m', st')
  | r => some r
 | .scope b, s, m, st => aRun rd b s m st
 | .loop b, s, m, st => iter (aRun rd b) lf s m st
 | .rf f ps asg body, s, m, st => rfCall C E rd (evA GT s f) ps asg body s m st
 | .exit id, s, m, st => some (.exit id, s, m, st)
 | .ret, s, m, st => some (.ret, s, m, st)
 | .bad, _, _, _ => none
def putAll (t : List AV) : List Nat → List AV → List AV
 | p :: ps, a :: as => putAll (t.set p a) ps as
 | _, _ => t
def endRoundA (l : Nat) (j : Option AJump) (st : St) : Option (Rt AV × St) :=
 match st.H[l]? with
 | some (.loop _ _ f t ps as bd d) =>
  some (.ok (.bool j.isNone), { st with H := st.H.set l (.loop (if j.isNone then .ready else .done) j f t ps as bd d) })
 | _ => none
def aRound (l : Nat) (args : List AV) (st : St) : Option (Rt AV × St) :=
 match st.H[l]? with
 | some (.loop _ _ _ t ps asg body _) => guardb (decide (args.length = ps.length) && decide (E.rob ≤ l))
  (obind (aRun GT C E lf (some l) asg (putAll t ps args) [] st) fun
   | (.nrm, s1, [], st1) =>
    match st1.H[l]? with
    | some (.loop .ready p f t ps as bd d) =>
     obind (aRun GT C E lf (some l) body s1 [] { st1 with H := st1.H.set l (.loop .busy p f t ps as bd d) }) fun
      | (.nrm, _, _, st2) => endRoundA l none st2
      | (.ret, _, _, st2) => endRoundA l (some .ret) st2
      | (.exit id, _, _, st2) => endRoundA l (some (.exit id)) st2
      | (.pan _, _, _, _) => none
    | _ => none
   | _ => none)
 | _ => none
end
def takeAll (st : St) : List Nat → Option St
 | [] => some st
 | d :: ds => match st.H[d]? with
  | some .dfr => takeAll { st with H := st.H.set d .opq } ds
  | _ => none
def resA (s : List AV) (st : St) : ARes → Option AV
 | .tmp t => some (lk s t)
 | .cell a k => loadA st k (lk s a)
def resAll (s : List AV) (st : St) : List ARes → Option (List AV)
 | [] => some []
 | r :: rs => obind (resA s st r) fun v => obind (resAll s st rs) fun vs => some (v :: vs)
def oneOr : List AV → AV
 | [v] => v
 | vs => .tup vs
def leaveA (fn : AFn) (st : St) (s : List AV) : Option (Rt AV × St) :=
 obind (resAll s st fn.res) fun vs => some (.ok (oneOr vs), st)
structure AProg where
 GT : Nat → Option (List AV)
 fn : Nat → Option AFn
 ovr : Nat → Option (CSem → Env → List AV → St → Option (Rt AV × St))
def aCall (A : AProg) : Nat → CSem
 | 0 => fun _ _ _ _ => none
 | k + 1 => fun E cal args st =>
  match cal with
  | .yld l => aRound A.GT (aCall A k) E k l args st
  | .fn f =>
   match A.ovr f with
   | some g => g (aCall A k) E args st
   | none =>
    match A.fn f with
    | none => none
    | some fn => obind (aRun A.GT (aCall A k) E k none fn.body (args ++ List.replicate (fn.ntmps - args.length) AV.undef) [] st) fun
     | (.nrm, s, m, st') => obind (takeAll st' m) fun st'' => leaveA fn st'' s
     | (.ret, s, m, st') => obind (takeAll st' m) fun st'' => leaveA fn st'' s
     | (.pan v, _, m, st') => obind (takeAll st' m) fun st'' => some (.pan v, st'')
     | (.exit _, _, _, _) => none
def refsBlk : ABlk → List Ref
 | .cells _ c => AV.refsL c
 | .map es => AV.refsL (mapCells es)
 | .loop _ _ _ t _ _ _ d => .blk d :: AV.refsL t
 | .dfr => []
 | .opq => []
structure Env.Wf (E : Env) (st : St) : Prop where
 base : E.base ≤ st.H.length
 rob : E.rob ≤ st.H.length
 rom : E.rom ≤ st.I.length
structure StepOK (E : Env) (st st' : St) : Prop where
 H : st.H.length ≤ st'.H.length
 I : st.I.length ≤ st'.I.length
 rob : ∀ b o, b < E.rob → st.H[b]? = some o → st'.H[b]? = some o
 rom : ∀ i x, i < E.rom → st.I[i]? = some x → st'.I[i]? = some x
 refs : ∀ b o o', b < E.base → st.H[b]? = some o → st'.H[b]? = some o' → ∀ r ∈ refsBlk o', r ∈ refsBlk o
theorem StepOK.refl (E : Env) (st : St) : StepOK E st st := ⟨Nat.le_refl _, Nat.le_refl _, fun _ _ _ h => h, fun _ _ _ h => h, fun b o o' _ h h' r hr => by rw [h] at h'; cases h'; exact hr⟩
theorem StepOK.wf {E : Env} {st st' : St} (h : StepOK E st st') (w : E.Wf st) : E.Wf st' := ⟨Nat.le_trans w.base h.H, Nat.le_trans w.rob h.H, Nat.le_trans w.rom h.I⟩
theorem StepOK.trans {E : Env} {st st' st'' : St} (h : StepOK E st st') (k : StepOK E st' st'') : StepOK E st st'' := by
 refine ⟨Nat.le_trans h.H k.H, Nat.le_trans h.I k.I, fun b o hb e => k.rob b o hb (h.rob b o hb e), fun i x hi e => k.rom i x hi (h.rom i x hi e), fun b o o' hb e e' r hr => ?_⟩
 have hlt : b < st'.H.length := Nat.lt_of_lt_of_le (List.getElem?_eq_some_iff.1 e).1 h.H
 have e1 : st'.H[b]? = some st'.H[b] := List.getElem?_eq_getElem hlt
 exact h.refs b o _ hb e e1 r (k.refs b _ o' hb e1 e' r hr)
theorem StepOK.weak {E E' : Env} {st st' : St} (h : StepOK E' st st') (h1 : E.base ≤ E'.base) (h2 : E.rob ≤ E'.rob) (h3 : E.rom ≤ E'.rom) : StepOK E st st' :=
 ⟨h.H, h.I, fun b o hb => h.rob b o (by omega), fun i x hi => h.rom i x (by omega), fun b o o' hb => h.refs b o o' (by omega)⟩
theorem refsL_flat : ∀ l : List AV, AV.refsL l = l.flatMap AV.refs
 | [] => rfl
 | v :: vs => by simp [AV.refsL, refsL_flat vs]
theorem refsL_wr {c vs : List AV} {off : Nat} {r : Ref} (h : r ∈ AV.refsL (wrC c off vs)) : r ∈ AV.refsL c ∨ r ∈ AV.refsL vs := by
 simp only [refsL_flat, wrC, List.flatMap_append, List.mem_append, List.mem_flatMap] at h ⊢
 rcases h with (⟨x, hx, h⟩ | h) | ⟨x, hx, h⟩
 ·exact .inl ⟨x, List.mem_of_mem_take hx, h⟩
 ·exact .inr h
 ·exact .inl ⟨x, List.mem_of_mem_drop hx, h⟩
theorem StepOK.push {E : Env} {st : St} {o : ABlk} (w : E.Wf st) : StepOK E st { st with H := st.H ++ [o] } :=
 ⟨by simp, Nat.le_refl _, fun b x hb e => by rw [List.getElem?_append_left (List.getElem?_eq_some_iff.1 e).1]; exact e, fun _ _ _ h => h, fun b x y hb e e' r hr => by
  rw [List.getElem?_append_left (List.getElem?_eq_some_iff.1 e).1, e] at e'; cases e'; exact hr⟩
theorem StepOK.pushI {E : Env} {st : St} {x : Nat × Nat} (w : E.Wf st) : StepOK E st { st with I := st.I ++ [x] } :=
 ⟨Nat.le_refl _, by simp, fun _ _ _ h => h, fun i y hi e => by rw [List.getElem?_append_left (List.getElem?_eq_some_iff.1 e).1]; exact e, fun b x y hb e e' r hr => by
  rw [e] at e'; cases e'; exact hr⟩
theorem StepOK.setI {E : Env} {st : St} {i : Nat} {x : Nat × Nat} (h : E.rom ≤ i) : StepOK E st { st with I := st.I.set i x } :=
 ⟨Nat.le_refl _, by simp, fun _ _ _ h => h, fun j y hj e => by rw [List.getElem?_set, if_neg (by omega)]; exact e, fun b x y hb e e' r hr => by
  rw [e] at e'; cases e'; exact hr⟩
theorem StepOK.setH {E : Env} {st : St} {b : Nat} {o o' : ABlk} (h : E.rob ≤ b) (ho : st.H[b]? = some o) (hr : b < E.base → ∀ r ∈ refsBlk o', r ∈ refsBlk o) : StepOK E st { st with H := st.H.set b o' } := by
 have hlt := (List.getElem?_eq_some_iff.1 ho).1
 refine ⟨by simp, Nat.le_refl _, fun k y hk e => by rw [List.getElem?_set, if_neg (by omega)]; exact e, fun _ _ _ h => h, fun k y y' hk e e' r hm => ?_⟩
 rw [List.getElem?_set] at e'
 split at e'
 ·rename_i hb; subst hb
  simp only [hlt, if_true, Option.some.injEq] at e'; subst e'
  rw [ho] at e; cases e
  exact hr hk r hm
 ·rw [e] at e'; cases e'; exact hm
theorem updA_refs {str : Bool} {k v : AV} : ∀ {es es' : List (AV × AV)}, updA str k v es = some es' → ∀ r ∈ AV.refsL (mapCells es'), r ∈ AV.refsL (mapCells es) ∨ r ∈ AV.refsL [k, v]
 | [], es', h, r, hr => by simp only [updA, Option.some.injEq] at h; subst h; exact .inr hr
 | (q, u) :: es, es', h, r, hr => by
  simp only [updA, obind_eq_some] at h
  obtain ⟨b, _, h⟩ := h
  split at h
  ·simp only [Option.some.injEq] at h; subst h
   simp only [mapCells, List.flatMap_cons, refsL_flat, List.flatMap_append, List.mem_append, List.flatMap_nil, List.append_nil] at hr ⊢
   rcases hr with (h | h) | h
   ·exact .inr (.inl h)
   ·exact .inr (.inr h)
   ·exact .inl (.inr h)
  ·simp only [obind_eq_some, Option.some.injEq] at h
   obtain ⟨r', h1, rfl⟩ := h
   have ih := updA_refs h1 r
   simp only [mapCells, List.flatMap_cons, refsL_flat, List.flatMap_append, List.mem_append, List.flatMap_nil, List.append_nil] at hr ih ⊢
   rcases hr with h | h
   ·exact .inl (.inl h)
   ·rcases ih h with h | h
    ·exact .inl (.inr h)
    ·exact .inr h
theorem mayWrite_refs {E : Env} {b : Nat} {old new : List AV} (h : mayWrite E b old new = true) : E.rob ≤ b ∧ (b < E.base → ∀ r ∈ AV.refsL new, r ∈ AV.refsL old) := by
 simp only [mayWrite, Bool.and_eq_true, Bool.or_eq_true, decide_eq_true_eq] at h
 refine ⟨h.1, fun hb r hr => ?_⟩
 rcases h.2 with h | h
 ·omega
 ·simp only [subRefs, List.all_eq_true, decide_eq_true_eq] at h
  exact h r hr
section
variable {E : Env} {st st' : St} {ev : AO → AV} {r : Rt AV}
theorem aOp_same {op : AOp} (hne : isEff op = false) (h : aOp E st ev op = some (r, st')) : st' = st ∧ ∃ v, r = .ok v := by
 cases op <;> simp only [isEff, reduceCtorEq, Bool.true_eq_false] at hne <;> simp only [aOp, okOf, okv_eq] at h <;> grind [= obind_eq_some, = guardb_eq_some]
theorem aOp_pure {op : AOp} (hne : isEff op = false) (hnr : reads op = false) (h : aOp E st ev op = some (r, st')) (E2 : Env) (st2 : St) : aOp E2 st2 ev op = some (r, st2) := by
 cases op <;> simp only [isEff, reads, reduceCtorEq, Bool.true_eq_false] at hne hnr <;> simp only [aOp, okOf, okv_eq] at h ⊢ <;> (repeat' (split at h)) <;> simp_all [obind_eq_some, guardb_eq_some] <;> grind
theorem aOp_step {op : AOp} (w : E.Wf st) (h : aOp E st ev op = some (r, st')) : StepOK E st st' := by
 by_cases hne : isEff op = false
 ·rw [(aOp_same hne h).1]; exact .refl E st
 ·cases op <;> simp only [isEff, not_true_eq_false] at hne
  case alloc =>
   simp only [aOp, okv_eq, guardb_eq_some, Option.some.injEq, Prod.mk.injEq] at h
   obtain ⟨_, _, rfl⟩ := h; exact .push w
  case box =>
   simp only [aOp, okv_eq, guardb_eq_some, Option.some.injEq, Prod.mk.injEq] at h
   obtain ⟨_, _, rfl⟩ := h; exact .push w
  case bsl own sz n z ps =>
   simp only [aOp, okv_eq, obind_eq_some] at h
   obtain ⟨cs, _, h⟩ := h
   split at h
   ·simp only [Option.some.injEq, Prod.mk.injEq] at h; obtain ⟨_, rfl⟩ := h; exact .pushI w
   ·simp only [Option.some.injEq, Prod.mk.injEq] at h; obtain ⟨_, rfl⟩ := h; exact .refl E st
  case st n p x =>
   simp only [aOp, okv_eq, obind_eq_some, Option.some.injEq, Prod.mk.injEq] at h
   obtain ⟨st1, h, _, rfl⟩ := h
   unfold storeA at h
   split at h
   ·split at h
    ·rename_i t c hc
     simp only [guardb_eq_some, Bool.and_eq_true, Option.some.injEq] at h
     obtain ⟨⟨_, hm⟩, rfl⟩ := h
     have hm := mayWrite_refs hm
     refine .setH hm.1 hc fun hb r hr => ?_
     simp only [refsBlk] at hr ⊢
     rcases refsL_wr hr with hr | hr
     ·exact hr
     ·exact hm.2 hb r hr
    ·cases h
   ·cases h
  case mks =>
   simp only [aOp, okv_eq] at h
   split at h
   ·simp only [guardb_eq_some, Option.some.injEq, Prod.mk.injEq] at h
    obtain ⟨_, _, rfl⟩ := h; exact .pushI w
   ·cases h
  case mkh =>
   simp only [aOp, okv_eq] at h
   split at h
   ·simp only [guardb_eq_some, Option.some.injEq, Prod.mk.injEq] at h
    obtain ⟨_, _, rfl⟩ := h; exact .push w
   ·cases h
  case frz =>
   simp only [aOp, okv_eq] at h
   split at h
   ·split at h
    ·rename_i hb
     simp only [guardb_eq_some, decide_eq_true_eq, Option.some.injEq, Prod.mk.injEq] at h
     obtain ⟨hr, _, rfl⟩ := h
     exact .setH hr hb fun _ r hr => by simp [refsBlk] at hr
    ·cases h
   ·cases h
  case app sz bytes x y =>
   simp only [aOp, okv_eq, obind_eq_some] at h
   obtain ⟨⟨v, st1⟩, h, h'⟩ := h
   simp only [Option.some.injEq, Prod.mk.injEq] at h'
   obtain ⟨_, rfl⟩ := h'
   unfold appA at h
   simp only [obind_eq_some] at h
   obtain ⟨⟨m, ys⟩, _, h⟩ := h
   split at h
   ·split at h
    ·simp only [Option.some.injEq, Prod.mk.injEq] at h; obtain ⟨_, rfl⟩ := h; exact .refl E st
    ·simp only [guardb_eq_some, Option.some.injEq, Prod.mk.injEq] at h; obtain ⟨_, _, rfl⟩ := h; exact .pushI w
   ·simp only [guardb_eq_some, Bool.and_eq_true, decide_eq_true_eq, Option.some.injEq, Prod.mk.injEq] at h
    obtain ⟨⟨⟨⟨⟨hr, _⟩, _⟩, _⟩, _⟩, _, rfl⟩ := h; exact .setI hr
   ·cases h
  case mkm =>
   simp only [aOp, okv_eq, Option.some.injEq, Prod.mk.injEq] at h
   obtain ⟨_, rfl⟩ := h; exact .push w
  case upd str m k v =>
   simp only [aOp, okv_eq] at h
   split at h
   ·split at h
    ·rename_i es hes
     simp only [guardb_eq_some, Bool.and_eq_true, obind_eq_some, Option.some.injEq, Prod.mk.injEq] at h
     obtain ⟨⟨_, hm⟩, es', hu, _, rfl⟩ := h
     have hm := mayWrite_refs hm
     refine .setH hm.1 hes fun hb r hr => ?_
     simp only [refsBlk] at hr ⊢
     rcases updA_refs hu r hr with hr | hr
     ·exact hr
     ·have := hm.2 hb r hr; simp [AV.refsL] at this
    ·cases h
   ·cases h
  case pan =>
   simp only [aOp] at h
   split at h
   ·simp only [Option.some.injEq, Prod.mk.injEq] at h; obtain ⟨_, rfl⟩ := h; exact .refl E st
   ·cases h
  case call => simp [aOp] at h
  case callv => simp [aOp] at h
end
def StepC (C : CSem) : Prop := ∀ E cal args st r st', C E cal args st = some (r, st') → E.Wf st → StepOK E st st'
section
variable {GT : Nat → Option (List AV)} {C : CSem} (hC : StepC C)
include hC
theorem doCall_step {E : Env} {tr : Tr} {cal : Cal} {args : List AV} {st st' : St} {r : Rt AV} (w : E.Wf st) (h : doCall C E tr cal args st = some (r, st')) : StepOK E st st' := by
 have cutOK : ∀ {st1 : St} {m : Nat}, StepOK { E with base := st.H.length } st st1 → st.I.length ≤ m → StepOK E st { H := st1.H.take st.H.length, I := st1.I.take m } := fun {st1 m} k hm => by
  have k' : StepOK E st st1 := k.weak w.base (Nat.le_refl _) (Nat.le_refl _)
  refine ⟨by simp [k.H], by simp only [List.length_take]; exact Nat.le_min.2 ⟨hm, k.I⟩, fun b o hb e => ?_, fun i x hi e => ?_, fun b o o' hb e e' r hr => ?_⟩
  ·have := k'.rob b o hb e
   rw [List.getElem?_take, if_pos (List.getElem?_eq_some_iff.1 e).1]; exact this
  ·have := k'.rom i x hi e
   rw [List.getElem?_take, if_pos (by have := (List.getElem?_eq_some_iff.1 e).1; omega)]; exact this
  ·rw [List.getElem?_take] at e'
   split at e'
   ·exact k'.refs b o o' hb e e' r hr
   ·cases e'
 cases tr with
 | no => exact hC _ _ _ _ _ _ h w
 | keep =>
  simp only [doCall, obind_eq_some] at h
  obtain ⟨⟨r1, st1⟩, h1, h⟩ := h
  have k := hC _ _ _ _ _ _ h1 ⟨Nat.le_refl _, w.rob, w.rom⟩
  cases r1 with
  | ok v =>
   simp only [guardb_eq_some, okv_eq, Option.some.injEq, Prod.mk.injEq] at h
   obtain ⟨_, _, rfl⟩ := h
   have := cutOK k k.I
   rwa [List.take_length] at this
  | pan v =>
   simp only [Option.some.injEq, Prod.mk.injEq] at h
   obtain ⟨_, rfl⟩ := h
   exact k.weak w.base (Nat.le_refl _) (Nat.le_refl _)
 | full =>
  simp only [doCall, obind_eq_some] at h
  obtain ⟨⟨r1, st1⟩, h1, h⟩ := h
  have k := hC _ _ _ _ _ _ h1 ⟨Nat.le_refl _, w.rob, w.rom⟩
  cases r1 with
  | ok v =>
   simp only [guardb_eq_some, okv_eq, Option.some.injEq, Prod.mk.injEq] at h
   obtain ⟨_, _, rfl⟩ := h
   exact cutOK k (Nat.le_refl _)
  | pan v =>
   simp only [Option.some.injEq, Prod.mk.injEq] at h
   obtain ⟨_, rfl⟩ := h
   exact k.weak w.base (Nat.le_refl _) (Nat.le_refl _)
 | quiet =>
  simp only [doCall, obind_eq_some] at h
  obtain ⟨⟨r1, st1⟩, h1, h⟩ := h
  have k := hC _ _ _ _ _ _ h1 ⟨Nat.le_refl _, Nat.le_refl _, Nat.le_refl _⟩
  cases r1 with
  | ok v =>
   simp only [guardb_eq_some, okv_eq, Option.some.injEq, Prod.mk.injEq] at h
   obtain ⟨_, _, rfl⟩ := h
   exact .refl E _
  | pan v => simp at h
theorem aExec_step {E : Env} {op : AOp} {s : List AV} {st st' : St} {r : Rt AV} (w : E.Wf st) (h : aExec GT C E op s st = some (r, st')) : StepOK E st st' := by
 unfold aExec at h
 split at h
 ·exact doCall_step hC w h
 ·split at h
  ·exact doCall_step hC w h
  ·exact doCall_step hC w h
  ·cases h
 ·exact aOp_step w h
theorem aOps_step {E : Env} : ∀ {ops : List AOper} {s : List AV} {st st' : St} {r : Rt (List AV)}, E.Wf st → aOps GT C E ops s st = some (r, st') → StepOK E st st'
 | [], s, st, st', r, w, h => by simp only [aOps, Option.some.injEq, Prod.mk.injEq] at h; rw [h.2]; exact .refl E _
 | o :: ops, s, st, st', r, w, h => by
  simp only [aOps, obind_eq_some] at h
  obtain ⟨⟨r1, st1⟩, h1, h⟩ := h
  have k : StepOK E st st1 := by
   unfold aStep at h1
   split at h1
   ·simp only [obind_eq_some] at h1
    obtain ⟨⟨r2, st2⟩, h2, h1⟩ := h1
    have k := aExec_step hC w h2
    cases r2 <;> simp only [Option.some.injEq, Prod.mk.injEq] at h1 <;> rw [← h1.2] <;> exact k
   ·simp only [Option.some.injEq, Prod.mk.injEq] at h1
    rw [h1.2]; exact .refl E _
  cases r1 with
  | ok s1 => exact k.trans (aOps_step (k.wf w) h)
  | pan v =>
   simp only [Option.some.injEq, Prod.mk.injEq] at h
   rw [← h.2]; exact k
theorem aDraw_step {E : Env} : ∀ {ops : List (AOper × Nat)} {i : Nat} {ds : List Done} {sts : List (Option Nat × St)} {s : List AV} {st st' : St} {r : Rt (List AV)}, E.Wf st → aDraw GT C E i ops ds sts s st = some (r, st') → StepOK E st st'
 | [], i, ds, sts, s, st, st', r, w, h => by simp only [aDraw, Option.some.injEq, Prod.mk.injEq] at h; rw [h.2]; exact .refl E _
 | (o, m) :: ops, i, ds, sts, s, st, st', r, w, h => by
  simp only [aDraw] at h
  split at h
  ·simp only [obind_eq_some] at h
   obtain ⟨⟨r2, st2⟩, h2, h⟩ := h
   have k := aExec_step hC w h2
   cases r2 with
   | ok v =>
    simp only at h
    split at h
    ·simp only [guardb_eq_some] at h
     exact k.trans (aDraw_step (k.wf w) h.2)
    ·split at h
     ·simp only [guardb_eq_some] at h
      exact aDraw_step w h.2
     ·exact aDraw_step w h
   | pan v =>
    simp only [guardb_eq_some, Option.some.injEq, Prod.mk.injEq] at h
    rw [← h.2.2]; exact k
  ·split at h
   ·exact aDraw_step w h
   ·exact aDraw_step w h
theorem rfCall_step {E : Env} {rd : Option Nat} {f : AV} {ps : List Nat} {asg body : ACode} {s : List AV} {m : List Nat} {st : St} {x : AExit} {s' : List AV} {m' : List Nat} {st' : St} (w : E.Wf st)
  (hm : ∀ d ∈ m, E.rob ≤ d) (h : rfCall C E rd f ps asg body s m st = some (x, s', m', st')) : StepOK E st st' ∧ ∀ d ∈ m', E.rob ≤ d := by
 unfold rfCall at h
 simp only [obind_eq_some] at h
 obtain ⟨⟨d, m1, st1⟩, h1, h⟩ := h
 have k1 : StepOK E st st1 ∧ ∀ d ∈ m1, E.rob ≤ d := by
  cases rd with
  | none =>
   simp only [Option.some.injEq, Prod.mk.injEq] at h1
   obtain ⟨rfl, rfl, rfl⟩ := h1
   exact ⟨.push w, fun d hd => by
    rcases List.mem_cons.1 hd with rfl | hd
    ·exact w.rob
    ·exact hm d hd⟩
  | some l0 =>
   simp only at h1
   split at h1
   ·simp only [Option.some.injEq, Prod.mk.injEq] at h1
    obtain ⟨rfl, rfl, rfl⟩ := h1
    exact ⟨.refl E _, hm⟩
   ·cases h1
 simp only at h
 have w1 := k1.1.wf w
 have k2 : StepOK E st1 { st1 with H := st1.H ++ [.loop .ready none 0 s ps asg body d] } := .push w1
 have w2 := k2.wf w1
 split at h
 ·simp only [obind_eq_some] at h
  obtain ⟨⟨r3, st3⟩, h3, h⟩ := h
  have k3 := hC _ _ _ _ _ _ h3 w2
  have k := k1.1.trans (k2.trans k3)
  cases r3 with
  | ok v =>
   simp only at h
   split at h
   ·rename_i ls p g' t ps' as' bd d' hl
    simp only [guardb_eq_some, Option.some.injEq, Prod.mk.injEq] at h
    obtain ⟨_, _, _, rfl, rfl⟩ := h
    exact ⟨k.trans (.setH w1.rob hl fun _ r hr => by simpa only [refsBlk] using hr), k1.2⟩
   ·cases h
  | pan v =>
   simp only [Option.some.injEq, Prod.mk.injEq] at h
   obtain ⟨_, _, rfl, rfl⟩ := h
   exact ⟨k, k1.2⟩
 ·cases h
theorem aRun_step {E : Env} {lf : Nat} {rd : Option Nat} : ∀ (c : ACode) {s : List AV} {m : List Nat} {st : St} {x : AExit} {s' : List AV} {m' : List Nat} {st' : St}, E.Wf st → (∀ d ∈ m, E.rob ≤ d) →
  aRun GT C E lf rd c s m st = some (x, s', m', st') → StepOK E st st' ∧ ∀ d ∈ m', E.rob ≤ d
 | .skip, s, m, st, x, s', m', st', w, hm, h => by
  simp only [aRun, Option.some.injEq, Prod.mk.injEq] at h
  obtain ⟨_, _, rfl, rfl⟩ := h; exact ⟨.refl E _, hm⟩
 | .exit i, s, m, st, x, s', m', st', w, hm, h => by
  simp only [aRun, Option.some.injEq, Prod.mk.injEq] at h
  obtain ⟨_, _, rfl, rfl⟩ := h; exact ⟨.refl E _, hm⟩
 | .ret, s, m, st, x, s', m', st', w, hm, h => by
  simp only [aRun, Option.some.injEq, Prod.mk.injEq] at h
  obtain ⟨_, _, rfl, rfl⟩ := h; exact ⟨.refl E _, hm⟩
 | .bad, s, m, st, x, s', m', st', w, hm, h => by simp [aRun] at h
 | .reg ops, s, m, st, x, s', m', st', w, hm, h => by
  simp only [aRun, obind_eq_some] at h
  obtain ⟨⟨r1, st1⟩, h1, h⟩ := h
  have k := aOps_step hC w h1
  cases r1 <;> simp only [Option.some.injEq, Prod.mk.injEq] at h <;> obtain ⟨_, _, rfl, rfl⟩ := h <;> exact ⟨k, hm⟩
 | .dreg ops, s, m, st, x, s', m', st', w, hm, h => by
  simp only [aRun, obind_eq_some] at h
  obtain ⟨⟨r1, st1⟩, h1, h⟩ := h
  have k := aDraw_step hC w h1
  cases r1 <;> simp only [Option.some.injEq, Prod.mk.injEq] at h <;> obtain ⟨_, _, rfl, rfl⟩ := h <;> exact ⟨k, hm⟩
 | .seq a b, s, m, st, x, s', m', st', w, hm, h => by
  simp only [aRun, obind_eq_some] at h
  obtain ⟨⟨x1, s1, m1, st1⟩, h1, h⟩ := h
  have k := aRun_step a w hm h1
  cases x1 with
  | nrm =>
   have k2 := aRun_step b (k.1.wf w) k.2 h
   exact ⟨k.1.trans k2.1, k2.2⟩
  | _ => simp only [Option.some.injEq, Prod.mk.injEq] at h; obtain ⟨_, _, rfl, rfl⟩ := h; exact k
 | .cond c a b, s, m, st, x, s', m', st', w, hm, h => by
  simp only [aRun] at h
  split at h
  ·split at h
   ·exact aRun_step a w hm h
   ·exact aRun_step b w hm h
  ·cases h
 | .block i b, s, m, st, x, s', m', st', w, hm, h => by
  simp only [aRun, obind_eq_some] at h
  obtain ⟨⟨x1, s1, m1, st1⟩, h1, h⟩ := h
  have k := aRun_step b w hm h1
  cases x1 with
  | exit j =>
   simp only at h
   split at h <;> simp only [Option.some.injEq, Prod.mk.injEq] at h <;> obtain ⟨_, _, rfl, rfl⟩ := h <;> exact k
  | _ => simp only [Option.some.injEq, Prod.mk.injEq] at h; obtain ⟨_, _, rfl, rfl⟩ := h; exact k
 | .scope b, s, m, st, x, s', m', st', w, hm, h => by
  simp only [aRun] at h
  exact aRun_step b w hm h
 | .loop b, s, m, st, x, s', m', st', w, hm, h => by
  simp only [aRun] at h
  have key : ∀ (k : Nat) {s : List AV} {m : List Nat} {st : St}, E.Wf st → (∀ d ∈ m, E.rob ≤ d) → iter (aRun GT C E lf rd b) k s m st = some (x, s', m', st') → StepOK E st st' ∧ ∀ d ∈ m', E.rob ≤ d := by
   intro k
   induction k with
   | zero => intro s m st w hm h; simp [iter] at h
   | succ k ih =>
    intro s m st w hm h
    simp only [iter, obind_eq_some] at h
    obtain ⟨⟨x1, s1, m1, st1⟩, h1, h⟩ := h
    have k1 := aRun_step b w hm h1
    cases x1 with
    | nrm =>
     have k2 := ih (k1.1.wf w) k1.2 h
     exact ⟨k1.1.trans k2.1, k2.2⟩
    | _ => simp only [Option.some.injEq, Prod.mk.injEq] at h; obtain ⟨_, _, rfl, rfl⟩ := h; exact k1
  exact key lf w hm h
 | .rf f ps asg body, s, m, st, x, s', m', st', w, hm, h => rfCall_step hC w hm h
omit hC in
theorem endRoundA_step {E : Env} {l : Nat} {j : Option AJump} {st st' : St} {r : Rt AV} (hl : E.rob ≤ l) (h : endRoundA l j st = some (r, st')) : StepOK E st st' := by
 unfold endRoundA at h
 split at h
 ·rename_i a b c d e f g i hb
  simp only [Option.some.injEq, Prod.mk.injEq] at h
  obtain ⟨_, rfl⟩ := h
  exact .setH hl hb fun _ r hr => by simpa only [refsBlk] using hr
 ·cases h
theorem aRound_step {E : Env} {lf l : Nat} {args : List AV} {st st' : St} {r : Rt AV} (w : E.Wf st) (h : aRound GT C E lf l args st = some (r, st')) : StepOK E st st' := by
 unfold aRound at h
 split at h
 ·simp only [guardb_eq_some, Bool.and_eq_true, decide_eq_true_eq, obind_eq_some] at h
  obtain ⟨⟨_, hl⟩, ⟨x1, s1, m1, st1⟩, h1, h⟩ := h
  have k1 := aRun_step hC _ w (by simp) h1
  split at h
  ·rename_i s2 st2 heq
   simp only [Prod.mk.injEq] at heq
   obtain ⟨rfl, rfl, rfl, rfl⟩ := heq
   split at h
   ·rename_i p f t ps as bd d hb
    simp only [obind_eq_some] at h
    obtain ⟨⟨x3, s3, m3, st3⟩, h3, h⟩ := h
    have w1 := k1.1.wf w
    have k2 : StepOK E st1 _ := .setH hl hb (o' := ABlk.loop .busy p f t ps as bd d) fun _ r hr => by simpa only [refsBlk] using hr
    have k3 := aRun_step hC _ (k2.wf w1) (by simp) h3
    have k := k1.1.trans (k2.trans k3.1)
    cases x3 with
    | pan v => cases h
    | _ => exact k.trans (endRoundA_step hl h)
   ·cases h
  ·cases h
 ·cases h
end
theorem takeAll_step {E : Env} : ∀ {m : List Nat} {st st' : St}, (∀ d ∈ m, E.rob ≤ d) → takeAll st m = some st' → StepOK E st st'
 | [], st, st', _, h => by simp only [takeAll, Option.some.injEq] at h; rw [h]; exact .refl E _
 | d :: ds, st, st', hm, h => by
  simp only [takeAll] at h
  split at h
  ·rename_i hd
   have k1 : StepOK E st _ := .setH (hm d (by simp)) hd (o' := .opq) fun _ r hr => by simp [refsBlk] at hr
   exact k1.trans (takeAll_step (fun x hx => hm x (by simp [hx])) h)
  ·cases h
def StepOvr (A : AProg) : Prop := ∀ f g C E args st r st', A.ovr f = some g → StepC C → g C E args st = some (r, st') → E.Wf st → StepOK E st st'
theorem aCall_step {A : AProg} (hA : StepOvr A) : ∀ k, StepC (aCall A k)
 | 0 => fun E cal args st r st' h w => by simp [aCall] at h
 | k + 1 => fun E cal args st r st' h w => by
  have hC := aCall_step hA k
  cases cal with
  | yld l => exact aRound_step hC w h
  | fn f =>
   simp only [aCall] at h
   split at h
   ·rename_i g hg
    exact hA _ _ _ _ _ _ _ _ hg hC h w
   ·split at h
    ·cases h
    ·simp only [obind_eq_some] at h
     obtain ⟨⟨x1, s1, m1, st1⟩, h1, h⟩ := h
     have k1 := aRun_step hC _ w (by simp) h1
     have fin : ∀ {st2 : St}, takeAll st1 m1 = some st2 → StepOK E st st2 := fun h2 => k1.1.trans (takeAll_step k1.2 h2)
     cases x1 with
     | exit i => cases h
     | pan v =>
      simp only [obind_eq_some, Option.some.injEq, Prod.mk.injEq] at h
      obtain ⟨st2, h2, _, rfl⟩ := h
      exact fin h2
     | _ =>
      simp only [obind_eq_some, leaveA, Option.some.injEq, Prod.mk.injEq] at h
      obtain ⟨st2, h2, vs, _, _, rfl⟩ := h
      exact fin h2
def qo (d : Nat) (x : AOp) : AOper := ⟨some d, x, none⟩
def qg (d : Nat) (x : AOp) (t : Nat) (b : Bool) : AOper := ⟨some d, x, some (t, b)⟩
def qv (d a : Nat) : AOper := qo d (.mv (.t a))
def qf (d n a : Nat) : AOper := qo d (.fa n (.t a))
def ql (d a : Nat) : AOper := qo d (.ld none (.t a))
def qn (d a : Nat) : AOper := qo d (.nck (.t a))
def qi (n : Int) : AO := .c (.int .i64 n)
def qs (a : Array UInt8) : AO := .c (.str ⟨a⟩)
def z5 : List AV := [.int .i64 0, .str ⟨#[]⟩, .int .i64 0, .nils, .int .i64 0]
def z6 : List AV := [.int .i64 0, .str ⟨#[]⟩, .int .i64 0, .int .i64 0, .bool false]
def l14 : ACode := (.seq (.seq (.reg [⟨some 79, .mv (.t 13), none⟩, ⟨some 80, .fa 2 (.t 5), none⟩, ⟨some 81, .ld none (.t 80), none⟩, ⟨some 82, .len false (.t 81), none⟩, ⟨some 83, .bin .num .lss (.t 79) (.t 82), none⟩])
 (.cond (.t 83) (.skip) (.exit 0)))
 (.seq (.block 1 (.seq (.dreg [(⟨some 86, .fa 2 (.t 5), none⟩, 0), (⟨some 87, .ld none (.t 86), none⟩, 1), (⟨some 88, .mv (.t 13), none⟩, 0), (⟨some 89, .ia 9 (.t 87) (.t 88), none⟩, 7), (⟨some 90, .fa 0 (.t 89), none⟩, 15), (⟨some 91, .ld none (.t 90), none⟩, 31), (⟨some 92, .fa 2 (.t 10), none⟩, 0), (⟨some 93, .ld none (.t 92), none⟩, 64), (⟨some 94, .mv (.t 13), none⟩, 0), (⟨some 95, .ia 9 (.t 93) (.t 94), none⟩, 448), (⟨some 96, .fa 0 (.t 95), none⟩, 960), (⟨some 97, .ld none (.t 96), none⟩, 1984), (⟨some 98, .bin .num .neq (.t 91) (.t 97), none⟩, 4095), (⟨some 99, .mv (.t 98), none⟩, 8191), (⟨some 100, .fa 2 (.t 5), (some (99, false))⟩, 16383), (⟨some 101, .ld none (.t 100), (some (99, false))⟩, 32767), (⟨some 102, .mv (.t 13), (some (99, false))⟩, 16383), (⟨some 103, .ia 9 (.t 101) (.t 102), (some (99, false))⟩, 131071), (⟨some 104, .fa 6 (.t 103), (some (99, false))⟩, 262143), (⟨some 105, .ld none (.t 104), (some (99, false))⟩, 524287), (⟨some 106, .fa 2 (.t 10), (some (99, false))⟩, 16383), (⟨some 107, .ld none (.t 106), (some (99, false))⟩, 1064959), (⟨some 108, .mv (.t 13), (some (99, false))⟩, 16383), (⟨some 109, .ia 9 (.t 107) (.t 108), (some (99, false))⟩, 7356415), (⟨some 110, .fa 6 (.t 109), (some (99, false))⟩, 15745023), (⟨some 111, .ld none (.t 110), (some (99, false))⟩, 32522239), (⟨some 112, .bin .num .neq (.t 105) (.t 111), (some (99, false))⟩, 67108863), (⟨some 113, .pick (.t 99) (.c (.bool true)) (.t 112), none⟩, 134217727), (⟨some 114, .mv (.t 113), none⟩, 268435455), (⟨some 115, .fa 2 (.t 5), (some (114, false))⟩, 536870911), (⟨some 116, .ld none (.t 115), (some (114, false))⟩, 1073741823), (⟨some 117, .mv (.t 13), (some (114, false))⟩, 536870911), (⟨some 118, .ia 9 (.t 116) (.t 117), (some (114, false))⟩, 4294967295), (⟨some 119, .fa 7 (.t 118), (some (114, false))⟩, 8589934591), (⟨some 120, .ld none (.t 119), (some (114, false))⟩, 17179869183), (⟨some 121, .fa 2 (.t 10), (some (114, false))⟩, 536870911), (⟨some 122, .ld none (.t 121), (some (114, false))⟩, 34896609279), (⟨some 123, .mv (.t 13), (some (114, false))⟩, 536870911), (⟨some 124, .ia 9 (.t 122) (.t 123), (some (114, false))⟩, 241055039487), (⟨some 125, .fa 7 (.t 124), (some (114, false))⟩, 515932946431), (⟨some 126, .ld none (.t 125), (some (114, false))⟩, 1065688760319), (⟨some 127, .bin .str .neq (.t 120) (.t 126), (some (114, false))⟩, 2199023255551), (⟨some 128, .pick (.t 114) (.c (.bool true)) (.t 127), none⟩, 4398046511103), (⟨some 129, .mv (.t 128), none⟩, 8796093022207), (⟨some 130, .fa 2 (.t 5), (some (129, false))⟩, 17592186044415), (⟨some 131, .ld none (.t 130), (some (129, false))⟩, 35184372088831), (⟨some 132, .mv (.t 13), (some (129, false))⟩, 17592186044415), (⟨some 133, .ia 9 (.t 131) (.t 132), (some (129, false))⟩, 140737488355327), (⟨some 134, .fa 1 (.t 133), (some (129, false))⟩, 281474976710655), (⟨some 135, .ld none (.t 134), (some (129, false))⟩, 562949953421311), (⟨some 136, .fa 2 (.t 10), (some (129, false))⟩, 17592186044415), (⟨some 137, .ld none (.t 136), (some (129, false))⟩, 1143492092887039), (⟨some 138, .mv (.t 13), (some (129, false))⟩, 17592186044415), (⟨some 139, .ia 9 (.t 137) (.t 138), (some (129, false))⟩, 7898891533942783), (⟨some 140, .fa 1 (.t 139), (some (129, false))⟩, 16906090788683775), (⟨some 141, .ld none (.t 140), (some (129, false))⟩, 34920489298165759), (⟨some 142, .bin .num .neq (.t 135) (.t 141), (some (129, false))⟩, 72057594037927935), (⟨some 143, .pick (.t 129) (.c (.bool true)) (.t 142), none⟩, 144115188075855871)])
 (.cond (.t 143) (.seq (.reg [⟨some 2, .mv (.c (.bool false)), none⟩])
 (.ret)) (.skip))))
 (.reg [⟨some 84, .mv (.t 13), none⟩, ⟨some 85, .bin .num .add (.t 84) (.c (.int .i64 1)), none⟩, ⟨some 13, .mv (.t 85), none⟩])))
def y14a : ACode := .seq (.reg [⟨some 1, .box 24 (.t 0), none⟩, ⟨some 2, .mv (.c (.bool false)), none⟩])
 (.seq (.reg [⟨some 14, .call .full 32 [], none⟩, ⟨some 3, .mv (.t 14), none⟩])
 (.seq (.seq (.reg [⟨some 15, .ld (some 5) (.t 1), none⟩, ⟨some 16, .call .full 19 [(.t 15)], none⟩, ⟨some 17, .bin .num .eql (.t 16) (.c (.int .i64 0)), none⟩])
 (.cond (.t 17) (.seq (.reg [⟨some 18, .mv (.t 3), none⟩, ⟨some 2, .mv (.t 18), none⟩])
 (.ret)) (.skip)))
 (.seq (.reg [⟨some 20, .ld (some 5) (.t 1), none⟩, ⟨some 21, .call .full 33 [(.t 20)], none⟩, ⟨some 19, .mv (.t 21), none⟩, ⟨some 22, .ext 0 (.t 19), none⟩, ⟨some 23, .ext 1 (.t 19), none⟩, ⟨some 24, .ext 2 (.t 19), none⟩, ⟨some 25, .ext 3 (.t 19), none⟩, ⟨some 5, .alloc 49 [(.int .i64 0), .nils, .nils], none⟩, ⟨some 4, .mv (.t 22), none⟩, ⟨none, .st 3 (.t 5) (.t 23), none⟩, ⟨some 6, .mv (.t 24), none⟩, ⟨some 7, .mv (.t 25), none⟩])
 (.seq (.reg [⟨some 26, .ld (some 5) (.t 1), none⟩, ⟨some 8, .alloc 24 [(.int .i64 0), (.str ⟨#[]⟩), (.int .i64 0), .nils, (.int .i64 0)], none⟩, ⟨none, .st 5 (.t 8) (.t 26), none⟩])
 (.seq (.dreg [(⟨some 27, .fa 3 (.t 1), none⟩, 0), (⟨some 28, .ld none (.t 27), none⟩, 1), (⟨some 29, .len false (.t 28), none⟩, 3), (⟨some 30, .bin .num .add (.t 29) (.c (.int .i64 1)), none⟩, 7), (⟨some 31, .mks 5 64 [(.int .i64 0), (.str ⟨#[]⟩), (.int .i64 0), .nils, (.int .i64 0)] (.c (.int .i64 0)) (.t 30), none⟩, 15), (⟨some 32, .fa 3 (.t 1), none⟩, 0), (⟨some 33, .ld none (.t 32), none⟩, 32), (⟨some 34, .app 5 64 (.t 31) (.t 33), none⟩, 127), (⟨some 35, .build [(.int .i64 0), (.str ⟨#[]⟩), (.int .i64 0), .nils, (.int .i64 0)] [(0, 1, (.c (.int .i64 2))), (2, 1, (.c (.int .i64 1)))], none⟩, 0), (⟨some 36, .bsl false 5 1 [(.int .i64 0), (.str ⟨#[]⟩), (.int .i64 0), .nils, (.int .i64 0)] [(0, 5, (.t 35))], none⟩, 256), (⟨some 37, .build [(.int .i64 0), (.str ⟨#[]⟩), (.int .i64 0), .nils, (.int .i64 0)] [(0, 1, (.c (.int .i64 31))), (3, 1, (.t 36))], none⟩, 768), (⟨some 38, .bsl false 5 1 [(.int .i64 0), (.str ⟨#[]⟩), (.int .i64 0), .nils, (.int .i64 0)] [(0, 5, (.t 37))], none⟩, 1792), (⟨some 39, .app 5 64 (.t 34) (.t 38), none⟩, 4095), (⟨some 40, .fa 3 (.t 8), none⟩, 8191), (⟨none, .st 1 (.t 40) (.t 39), none⟩, 16383)])
 (.seq (.reg [⟨some 42, .ld (some 5) (.t 8), none⟩, ⟨some 43, .call .full 33 [(.t 42)], none⟩, ⟨some 41, .mv (.t 43), none⟩, ⟨some 44, .ext 0 (.t 41), none⟩, ⟨some 45, .ext 1 (.t 41), none⟩, ⟨some 46, .ext 2 (.t 41), none⟩, ⟨some 47, .ext 3 (.t 41), none⟩, ⟨some 10, .alloc 49 [(.int .i64 0), .nils, .nils], none⟩, ⟨some 9, .mv (.t 44), none⟩, ⟨none, .st 3 (.t 10) (.t 45), none⟩, ⟨some 11, .mv (.t 46), none⟩, ⟨some 12, .mv (.t 47), none⟩])
 (.seq (.seq (.reg [⟨some 48, .mv (.t 7), none⟩, ⟨some 49, .bin .num .neq (.t 48) (.c (.int .i64 0)), none⟩, ⟨some 50, .mv (.t 49), none⟩, ⟨some 51, .mv (.t 12), (some (50, false))⟩, ⟨some 52, .bin .num .neq (.t 51) (.c (.int .i64 0)), (some (50, false))⟩, ⟨some 53, .pick (.t 50) (.c (.bool true)) (.t 52), none⟩])
 (.cond (.t 53) (.seq (.reg [⟨some 54, .mv (.t 3), none⟩, ⟨some 55, .mv (.t 54), none⟩, ⟨some 56, .mv (.t 7), (some (55, true))⟩, ⟨some 57, .mv (.t 12), (some (55, true))⟩, ⟨some 58, .bin .num .eql (.t 56) (.t 57), (some (55, true))⟩, ⟨some 59, .mv (.t 58), (some (55, true))⟩, ⟨some 60, .mv (.t 7), (some (59, false))⟩, ⟨some 61, .bin .num .neq (.t 60) (.c (.int .i64 0)), (some (59, false))⟩, ⟨some 62, .pick (.t 59) (.c (.bool true)) (.t 61), (some (55, true))⟩, ⟨some 63, .pick (.t 55) (.t 62) (.c (.bool false)), none⟩, ⟨some 2, .mv (.t 63), none⟩])
 (.ret)) (.skip)))
 (.seq (.seq (.reg [⟨some 64, .fa 0 (.t 10), none⟩, ⟨some 65, .ld none (.t 64), none⟩, ⟨some 66, .fa 0 (.t 5), none⟩, ⟨some 67, .ld none (.t 66), none⟩, ⟨some 68, .bin .num .add (.t 67) (.c (.int .i64 2)), none⟩, ⟨some 69, .bin .num .neq (.t 65) (.t 68), none⟩, ⟨some 70, .mv (.t 69), none⟩, ⟨some 71, .fa 2 (.t 5), (some (70, false))⟩, ⟨some 72, .ld none (.t 71), (some (70, false))⟩, ⟨some 73, .len false (.t 72), (some (70, false))⟩, ⟨some 74, .fa 2 (.t 10), (some (70, false))⟩, ⟨some 75, .ld none (.t 74), (some (70, false))⟩, ⟨some 76, .len false (.t 75), (some (70, false))⟩, ⟨some 77, .bin .num .neq (.t 73) (.t 76), (some (70, false))⟩, ⟨some 78, .pick (.t 70) (.c (.bool true)) (.t 77), none⟩])
 (.cond (.t 78) (.seq (.reg [⟨some 2, .mv (.c (.bool false)), none⟩])
 (.ret)) (.skip)))
 (.seq (.seq (.reg [⟨some 13, .mv (.c (.int .i64 0)), none⟩])
 (.block 0 (.loop l14)))
 (.seq (.reg [⟨some 144, .mv (.t 3), none⟩, ⟨some 2, .mv (.t 144), none⟩])
 (.ret)))))))))))
def a14 : AFn := ⟨145, [.tmp 2], y14a⟩
def l15 : ACode := (.seq (.seq (.reg [⟨some 28, .mv (.t 10), none⟩, ⟨some 29, .fa 2 (.t 5), none⟩, ⟨some 30, .ld none (.t 29), none⟩, ⟨some 31, .len false (.t 30), none⟩, ⟨some 32, .bin .num .lss (.t 28) (.t 31), none⟩])
 (.cond (.t 32) (.skip) (.exit 0)))
 (.seq (.block 1 (.seq (.reg [⟨some 35, .fa 2 (.t 5), none⟩, ⟨some 36, .ld none (.t 35), none⟩, ⟨some 37, .mv (.t 10), none⟩, ⟨some 38, .ia 9 (.t 36) (.t 37), none⟩, ⟨some 39, .ld (some 9) (.t 38), none⟩, ⟨some 11, .alloc 55 [(.int .i64 0), (.int .i64 0), (.int .i64 0), (.int .i64 0), (.int .i64 0), (.int .i64 0), (.int .i64 0), (.str ⟨#[]⟩), .nils], none⟩, ⟨none, .st 9 (.t 11) (.t 39), none⟩])
 (.seq (.seq (.reg [⟨some 40, .fa 0 (.t 11), none⟩, ⟨some 41, .ld none (.t 40), none⟩, ⟨some 42, .bin .num .lss (.t 41) (.c (.int .i64 1)), none⟩, ⟨some 43, .mv (.t 42), none⟩, ⟨some 44, .fa 0 (.t 11), (some (43, false))⟩, ⟨some 45, .ld none (.t 44), (some (43, false))⟩, ⟨some 46, .bin .num .gtr (.t 45) (.c (.int .i64 9)), (some (43, false))⟩, ⟨some 47, .pick (.t 43) (.c (.bool true)) (.t 46), none⟩])
 (.cond (.t 47) (.seq (.reg [⟨some 2, .mv (.c (.bool false)), none⟩])
 (.ret)) (.skip)))
 (.seq (.reg [⟨some 48, .fa 0 (.t 11), none⟩, ⟨some 49, .ld none (.t 48), none⟩, ⟨some 50, .iaa 10 1 (.t 8) (.t 49), none⟩, ⟨some 51, .ld none (.t 50), none⟩, ⟨some 52, .bin .num .add (.t 51) (.c (.int .i64 1)), none⟩, ⟨some 53, .iaa 10 1 (.t 8) (.t 49), none⟩, ⟨none, .st 1 (.t 53) (.t 52), none⟩])
 (.seq (.reg [⟨some 54, .fa 0 (.t 11), none⟩, ⟨some 55, .ld none (.t 54), none⟩, ⟨some 56, .bin .num .eql (.t 55) (.c (.int .i64 1)), none⟩, ⟨some 57, .mv (.t 56), none⟩, ⟨some 58, .fa 0 (.t 11), (some (57, false))⟩, ⟨some 59, .ld none (.t 58), (some (57, false))⟩, ⟨some 60, .bin .num .eql (.t 59) (.c (.int .i64 8)), (some (57, false))⟩, ⟨some 61, .pick (.t 57) (.c (.bool true)) (.t 60), none⟩, ⟨some 62, .mv (.t 61), none⟩, ⟨some 63, .fa 0 (.t 11), (some (62, false))⟩, ⟨some 64, .ld none (.t 63), (some (62, false))⟩, ⟨some 65, .bin .num .eql (.t 64) (.c (.int .i64 9)), (some (62, false))⟩, ⟨some 66, .pick (.t 62) (.c (.bool true)) (.t 65), none⟩])
 (.cond (.t 66) (.seq (.seq (.reg [⟨some 67, .fa 6 (.t 11), none⟩, ⟨some 68, .ld none (.t 67), none⟩, ⟨some 69, .mv (.t 9), none⟩, ⟨some 70, .bin .num .leq (.t 68) (.t 69), none⟩])
 (.cond (.t 70) (.seq (.reg [⟨some 2, .mv (.c (.bool false)), none⟩])
 (.ret)) (.skip)))
 (.reg [⟨some 71, .fa 6 (.t 11), none⟩, ⟨some 72, .ld none (.t 71), none⟩, ⟨some 9, .mv (.t 72), none⟩])) (.skip)))))))
 (.reg [⟨some 33, .mv (.t 10), none⟩, ⟨some 34, .bin .num .add (.t 33) (.c (.int .i64 1)), none⟩, ⟨some 10, .mv (.t 34), none⟩])))
def y15a : ACode := .seq (.reg [⟨some 1, .box 24 (.t 0), none⟩, ⟨some 2, .mv (.c (.bool false)), none⟩])
 (.seq (.reg [⟨some 12, .call .full 32 [], none⟩, ⟨some 3, .mv (.t 12), none⟩])
 (.seq (.seq (.reg [⟨some 13, .ld (some 5) (.t 1), none⟩, ⟨some 14, .call .full 19 [(.t 13)], none⟩, ⟨some 15, .bin .num .eql (.t 14) (.c (.int .i64 0)), none⟩])
 (.cond (.t 15) (.seq (.reg [⟨some 16, .mv (.t 3), none⟩, ⟨some 2, .mv (.t 16), none⟩])
 (.ret)) (.skip)))
 (.seq (.reg [⟨some 18, .ld (some 5) (.t 1), none⟩, ⟨some 19, .call .full 33 [(.t 18)], none⟩, ⟨some 17, .mv (.t 19), none⟩, ⟨some 20, .ext 0 (.t 17), none⟩, ⟨some 21, .ext 1 (.t 17), none⟩, ⟨some 22, .ext 2 (.t 17), none⟩, ⟨some 23, .ext 3 (.t 17), none⟩, ⟨some 5, .alloc 49 [(.int .i64 0), .nils, .nils], none⟩, ⟨some 4, .mv (.t 20), none⟩, ⟨none, .st 3 (.t 5) (.t 21), none⟩, ⟨some 6, .mv (.t 22), none⟩, ⟨some 7, .mv (.t 23), none⟩])
 (.seq (.seq (.reg [⟨some 24, .mv (.t 7), none⟩, ⟨some 25, .bin .num .neq (.t 24) (.c (.int .i64 0)), none⟩])
 (.cond (.t 25) (.seq (.reg [⟨some 26, .mv (.t 3), none⟩, ⟨some 2, .mv (.t 26), none⟩])
 (.ret)) (.skip)))
 (.seq (.reg [⟨some 27, .build [(.int .i64 0), (.int .i64 0), (.int .i64 0), (.int .i64 0), (.int .i64 0), (.int .i64 0), (.int .i64 0), (.int .i64 0), (.int .i64 0), (.int .i64 0)] [], none⟩, ⟨some 8, .alloc 56 [(.int .i64 0), (.int .i64 0), (.int .i64 0), (.int .i64 0), (.int .i64 0), (.int .i64 0), (.int .i64 0), (.int .i64 0), (.int .i64 0), (.int .i64 0)], none⟩, ⟨none, .st 10 (.t 8) (.t 27), none⟩])
 (.seq (.reg [⟨some 9, .mv (.c (.int .i64 3)), none⟩])
 (.seq (.seq (.reg [⟨some 10, .mv (.c (.int .i64 0)), none⟩])
 (.block 0 (.loop l15)))
 (.seq (.dreg [(⟨some 73, .mv (.t 3), none⟩, 0), (⟨some 74, .mv (.t 73), none⟩, 1), (⟨some 75, .iaa 10 1 (.t 8) (.c (.int .i64 1)), (some (74, true))⟩, 3), (⟨some 76, .ld none (.t 75), (some (74, true))⟩, 7), (⟨some 77, .ld (some 5) (.t 1), (some (74, true))⟩, 3), (⟨some 78, .call .full 37 [(.t 77), (.c (.int .i64 11))], (some (74, true))⟩, 19), (⟨some 79, .bin .num .eql (.t 76) (.t 78), (some (74, true))⟩, 63), (⟨some 80, .pick (.t 74) (.t 79) (.c (.bool false)), none⟩, 127), (⟨some 81, .mv (.t 80), none⟩, 255), (⟨some 82, .iaa 10 1 (.t 8) (.c (.int .i64 8)), (some (81, true))⟩, 511), (⟨some 83, .ld none (.t 82), (some (81, true))⟩, 1023), (⟨some 84, .ld (some 5) (.t 1), (some (81, true))⟩, 511), (⟨some 85, .call .full 37 [(.t 84), (.c (.int .i64 15))], (some (81, true))⟩, 2559), (⟨some 86, .bin .num .eql (.t 83) (.t 85), (some (81, true))⟩, 8191), (⟨some 87, .pick (.t 81) (.t 86) (.c (.bool false)), none⟩, 16383), (⟨some 88, .mv (.t 87), none⟩, 32767), (⟨some 89, .iaa 10 1 (.t 8) (.c (.int .i64 9)), (some (88, true))⟩, 65535), (⟨some 90, .ld none (.t 89), (some (88, true))⟩, 131071), (⟨some 91, .ld (some 5) (.t 1), (some (88, true))⟩, 65535), (⟨some 92, .call .full 37 [(.t 91), (.c (.int .i64 16))], (some (88, true))⟩, 327679), (⟨some 93, .bin .num .eql (.t 90) (.t 92), (some (88, true))⟩, 1048575), (⟨some 94, .pick (.t 88) (.t 93) (.c (.bool false)), none⟩, 2097151), (⟨some 95, .mv (.t 94), none⟩, 4194303), (⟨some 96, .iaa 10 1 (.t 8) (.c (.int .i64 2)), (some (95, true))⟩, 8388607), (⟨some 97, .ld none (.t 96), (some (95, true))⟩, 16777215), (⟨some 98, .ld (some 5) (.t 1), (some (95, true))⟩, 8388607), (⟨some 99, .call .full 37 [(.t 98), (.c (.int .i64 10))], (some (95, true))⟩, 41943039), (⟨some 100, .ld (some 5) (.t 1), (some (95, true))⟩, 8388607), (⟨some 101, .call .full 37 [(.t 100), (.c (.int .i64 41))], (some (95, true))⟩, 243269631), (⟨some 102, .bin .num .add (.t 99) (.t 101), (some (95, true))⟩, 511705087), (⟨some 103, .bin .num .geq (.t 97) (.t 102), (some (95, true))⟩, 1073741823), (⟨some 104, .pick (.t 95) (.t 103) (.c (.bool false)), none⟩, 2147483647), (⟨some 2, .mv (.t 104), none⟩, 4294967295)])
 (.ret)))))))))
def a15 : AFn := ⟨105, [.tmp 2], y15a⟩
def a16 : AFn := ⟨54, [.tmp 4],
 .seq (.reg [⟨some 2, .box 24 (.t 0), none⟩, ⟨some 4, .mv (.c (.bool false)), none⟩])
 (.seq (.reg [⟨some 14, .call .full 32 [], none⟩, ⟨some 5, .mv (.t 14), none⟩])
 (.seq (.seq (.reg [⟨some 15, .ld (some 5) (.t 2), none⟩, ⟨some 16, .call .full 19 [(.t 15)], none⟩, ⟨some 17, .bin .num .eql (.t 16) (.c (.int .i64 0)), none⟩])
 (.cond (.t 17) (.seq (.reg [⟨some 18, .mv (.t 5), none⟩, ⟨some 4, .mv (.t 18), none⟩])
 (.ret)) (.skip)))
 (.seq (.reg [⟨some 20, .ld (some 5) (.t 2), none⟩, ⟨some 21, .call .full 33 [(.t 20)], none⟩, ⟨some 19, .mv (.t 21), none⟩, ⟨some 22, .ext 0 (.t 19), none⟩, ⟨some 23, .ext 1 (.t 19), none⟩, ⟨some 24, .ext 2 (.t 19), none⟩, ⟨some 25, .ext 3 (.t 19), none⟩, ⟨some 7, .alloc 49 [(.int .i64 0), .nils, .nils], none⟩, ⟨some 6, .mv (.t 22), none⟩, ⟨none, .st 3 (.t 7) (.t 23), none⟩, ⟨some 8, .mv (.t 24), none⟩, ⟨some 9, .mv (.t 25), none⟩])
 (.seq (.seq (.reg [⟨some 26, .mv (.t 9), none⟩, ⟨some 27, .bin .num .neq (.t 26) (.c (.int .i64 0)), none⟩])
 (.cond (.t 27) (.seq (.reg [⟨some 28, .mv (.t 5), none⟩, ⟨some 4, .mv (.t 28), none⟩])
 (.ret)) (.skip)))
 (.seq (.reg [⟨some 30, .mv (.t 6), none⟩, ⟨some 31, .ld (some 3) (.t 7), none⟩, ⟨some 32, .mv (.t 1), none⟩, ⟨some 33, .call .full 38 [(.t 30), (.t 31), (.t 32)], none⟩, ⟨some 29, .mv (.t 33), none⟩, ⟨some 34, .ext 0 (.t 29), none⟩, ⟨some 35, .ext 1 (.t 29), none⟩, ⟨some 10, .mv (.t 34), none⟩, ⟨some 11, .mv (.t 35), none⟩])
 (.seq (.reg [⟨some 37, .mv (.t 6), none⟩, ⟨some 38, .ld (some 3) (.t 7), none⟩, ⟨some 39, .mv (.t 1), none⟩, ⟨some 40, .call .full 39 [(.t 37), (.t 38), (.t 39)], none⟩, ⟨some 36, .mv (.t 40), none⟩, ⟨some 41, .ext 0 (.t 36), none⟩, ⟨some 42, .ext 1 (.t 36), none⟩, ⟨some 12, .mv (.t 41), none⟩, ⟨some 13, .mv (.t 42), none⟩])
 (.seq (.reg [⟨some 43, .mv (.t 5), none⟩, ⟨some 44, .mv (.t 43), none⟩, ⟨some 45, .mv (.t 10), (some (44, true))⟩, ⟨some 46, .mv (.t 12), (some (44, true))⟩, ⟨some 47, .bin .num .eql (.t 45) (.t 46), (some (44, true))⟩, ⟨some 48, .pick (.t 44) (.t 47) (.c (.bool false)), none⟩, ⟨some 49, .mv (.t 48), none⟩, ⟨some 50, .mv (.t 11), (some (49, true))⟩, ⟨some 51, .mv (.t 13), (some (49, true))⟩, ⟨some 52, .bin .num .eql (.t 50) (.t 51), (some (49, true))⟩, ⟨some 53, .pick (.t 49) (.t 52) (.c (.bool false)), none⟩, ⟨some 4, .mv (.t 53), none⟩])
 (.ret))))))))⟩
def l17a : ACode := (.seq (.seq (.reg [⟨some 35, .mv (.t 8), none⟩, ⟨some 36, .fa 2 (.t 5), none⟩, ⟨some 37, .ld none (.t 36), none⟩, ⟨some 38, .len false (.t 37), none⟩, ⟨some 39, .bin .num .lss (.t 35) (.t 38), none⟩])
 (.cond (.t 39) (.skip) (.exit 0)))
 (.seq (.block 1 (.seq (.reg [⟨some 42, .fa 2 (.t 5), none⟩, ⟨some 43, .ld none (.t 42), none⟩, ⟨some 44, .mv (.t 8), none⟩, ⟨some 45, .ia 9 (.t 43) (.t 44), none⟩, ⟨some 46, .ld (some 9) (.t 45), none⟩, ⟨some 9, .alloc 55 [(.int .i64 0), (.int .i64 0), (.int .i64 0), (.int .i64 0), (.int .i64 0), (.int .i64 0), (.int .i64 0), (.str ⟨#[]⟩), .nils], none⟩, ⟨none, .st 9 (.t 9) (.t 46), none⟩])
 (.seq (.reg [⟨some 47, .fa 2 (.t 9), none⟩, ⟨some 48, .ld none (.t 47), none⟩, ⟨some 49, .bin .num .lss (.t 48) (.c (.int .i64 0)), none⟩, ⟨some 50, .mv (.t 49), none⟩, ⟨some 51, .fa 2 (.t 9), (some (50, false))⟩, ⟨some 52, .ld none (.t 51), (some (50, false))⟩, ⟨some 53, .fa 0 (.t 5), (some (50, false))⟩, ⟨some 54, .ld none (.t 53), (some (50, false))⟩, ⟨some 55, .bin .num .geq (.t 52) (.t 54), (some (50, false))⟩, ⟨some 56, .pick (.t 50) (.c (.bool true)) (.t 55), none⟩, ⟨some 57, .mv (.t 56), none⟩, ⟨some 58, .fa 3 (.t 9), (some (57, false))⟩, ⟨some 59, .ld none (.t 58), (some (57, false))⟩, ⟨some 60, .bin .num .lss (.t 59) (.c (.int .i64 0)), (some (57, false))⟩, ⟨some 61, .pick (.t 57) (.c (.bool true)) (.t 60), none⟩, ⟨some 62, .mv (.t 61), none⟩, ⟨some 63, .fa 3 (.t 9), (some (62, false))⟩, ⟨some 64, .ld none (.t 63), (some (62, false))⟩, ⟨some 65, .fa 0 (.t 5), (some (62, false))⟩, ⟨some 66, .ld none (.t 65), (some (62, false))⟩, ⟨some 67, .bin .num .geq (.t 64) (.t 66), (some (62, false))⟩, ⟨some 68, .pick (.t 62) (.c (.bool true)) (.t 67), none⟩, ⟨some 69, .mv (.t 68), none⟩, ⟨some 70, .fa 4 (.t 9), (some (69, false))⟩, ⟨some 71, .ld none (.t 70), (some (69, false))⟩, ⟨some 72, .bin .num .lss (.t 71) (.c (.int .i64 (-1))), (some (69, false))⟩, ⟨some 73, .pick (.t 69) (.c (.bool true)) (.t 72), none⟩, ⟨some 74, .mv (.t 73), none⟩, ⟨some 75, .fa 4 (.t 9), (some (74, false))⟩, ⟨some 76, .ld none (.t 75), (some (74, false))⟩, ⟨some 77, .fa 0 (.t 5), (some (74, false))⟩, ⟨some 78, .ld none (.t 77), (some (74, false))⟩, ⟨some 79, .bin .num .geq (.t 76) (.t 78), (some (74, false))⟩, ⟨some 80, .pick (.t 74) (.c (.bool true)) (.t 79), none⟩, ⟨some 81, .mv (.t 80), none⟩, ⟨some 82, .fa 1 (.t 9), (some (81, false))⟩, ⟨some 83, .ld none (.t 82), (some (81, false))⟩, ⟨some 84, .bin .num .lss (.t 83) (.c (.int .i64 0)), (some (81, false))⟩, ⟨some 85, .pick (.t 81) (.c (.bool true)) (.t 84), none⟩, ⟨some 86, .mv (.t 85), none⟩, ⟨some 87, .fa 1 (.t 9), (some (86, false))⟩, ⟨some 88, .ld none (.t 87), (some (86, false))⟩, ⟨some 89, .mv (.t 4), (some (86, false))⟩, ⟨some 90, .len false (.t 89), (some (86, false))⟩, ⟨some 91, .bin .num .geq (.t 88) (.t 90), (some (86, false))⟩, ⟨some 92, .pick (.t 86) (.c (.bool true)) (.t 91), none⟩, ⟨some 93, .mv (.t 92), none⟩, ⟨some 94, .fa 5 (.t 9), (some (93, false))⟩, ⟨some 95, .ld none (.t 94), (some (93, false))⟩, ⟨some 96, .bin .num .lss (.t 95) (.c (.int .i64 0)), (some (93, false))⟩, ⟨some 97, .pick (.t 93) (.c (.bool true)) (.t 96), none⟩, ⟨some 98, .mv (.t 97), none⟩, ⟨some 99, .fa 6 (.t 9), (some (98, false))⟩, ⟨some 100, .ld none (.t 99), (some (98, false))⟩, ⟨some 101, .bin .num .lss (.t 100) (.c (.int .i64 0)), (some (98, false))⟩, ⟨some 102, .pick (.t 98) (.c (.bool true)) (.t 101), none⟩])
 (.cond (.t 102) (.seq (.reg [⟨some 2, .mv (.c (.bool false)), none⟩])
 (.ret)) (.skip)))))
 (.reg [⟨some 40, .mv (.t 8), none⟩, ⟨some 41, .bin .num .add (.t 40) (.c (.int .i64 1)), none⟩, ⟨some 8, .mv (.t 41), none⟩])))
def l17c : ACode := (.seq (.seq (.reg [⟨some 113, .mv (.t 12), none⟩, ⟨some 114, .mv (.t 4), none⟩, ⟨some 115, .mv (.t 11), none⟩, ⟨some 116, .ia 5 (.t 114) (.t 115), none⟩, ⟨some 117, .fa 3 (.t 116), none⟩, ⟨some 118, .ld none (.t 117), none⟩, ⟨some 119, .len false (.t 118), none⟩, ⟨some 120, .bin .num .lss (.t 113) (.t 119), none⟩])
 (.cond (.t 120) (.skip) (.exit 4)))
 (.seq (.block 5 (.seq (.reg [⟨some 124, .mv (.t 4), none⟩, ⟨some 125, .ld (some 3) (.t 5), none⟩, ⟨some 126, .mv (.t 11), none⟩, ⟨some 127, .bin .num .mul (.c (.int .i64 1000)) (.t 126), none⟩, ⟨some 128, .mv (.t 12), none⟩, ⟨some 129, .bin .num .add (.t 127) (.t 128), none⟩, ⟨some 130, .call .full 38 [(.t 124), (.t 125), (.t 129)], none⟩, ⟨some 123, .mv (.t 130), none⟩, ⟨some 131, .ext 0 (.t 123), none⟩, ⟨some 132, .ext 1 (.t 123), none⟩, ⟨some 13, .mv (.t 131), none⟩, ⟨some 14, .mv (.t 132), none⟩])
 (.seq (.seq (.reg [⟨some 133, .mv (.t 14), none⟩, ⟨some 134, .bin .num .neq (.t 133) (.c (.int .i64 0)), none⟩, ⟨some 135, .mv (.t 134), none⟩, ⟨some 136, .mv (.t 13), (some (135, false))⟩, ⟨some 137, .mv (.t 10), (some (135, false))⟩, ⟨some 138, .bin .num .leq (.t 136) (.t 137), (some (135, false))⟩, ⟨some 139, .pick (.t 135) (.c (.bool true)) (.t 138), none⟩, ⟨some 140, .mv (.t 139), none⟩, ⟨some 141, .mv (.t 13), (some (140, false))⟩, ⟨some 142, .fa 0 (.t 5), (some (140, false))⟩, ⟨some 143, .ld none (.t 142), (some (140, false))⟩, ⟨some 144, .bin .num .geq (.t 141) (.t 143), (some (140, false))⟩, ⟨some 145, .pick (.t 140) (.c (.bool true)) (.t 144), none⟩])
 (.cond (.t 145) (.seq (.reg [⟨some 2, .mv (.c (.bool false)), none⟩])
 (.ret)) (.skip)))
 (.reg [⟨some 146, .mv (.t 13), none⟩, ⟨some 10, .mv (.t 146), none⟩]))))
 (.reg [⟨some 121, .mv (.t 12), none⟩, ⟨some 122, .bin .num .add (.t 121) (.c (.int .i64 1)), none⟩, ⟨some 12, .mv (.t 122), none⟩])))
def l17b : ACode := (.seq (.seq (.reg [⟨some 107, .mv (.t 11), none⟩, ⟨some 108, .mv (.t 4), none⟩, ⟨some 109, .len false (.t 108), none⟩, ⟨some 110, .bin .num .lss (.t 107) (.t 109), none⟩])
 (.cond (.t 110) (.skip) (.exit 2)))
 (.seq (.block 3 (.seq (.reg [⟨some 12, .mv (.c (.int .i64 0)), none⟩])
 (.block 4 (.loop l17c))))
 (.reg [⟨some 111, .mv (.t 11), none⟩, ⟨some 112, .bin .num .add (.t 111) (.c (.int .i64 1)), none⟩, ⟨some 11, .mv (.t 112), none⟩])))
def y17a : ACode := .seq (.reg [⟨some 1, .box 24 (.t 0), none⟩, ⟨some 2, .mv (.c (.bool false)), none⟩])
 (.seq (.reg [⟨some 15, .call .full 32 [], none⟩, ⟨some 3, .mv (.t 15), none⟩])
 (.seq (.seq (.reg [⟨some 16, .ld (some 5) (.t 1), none⟩, ⟨some 17, .call .full 19 [(.t 16)], none⟩, ⟨some 18, .bin .num .eql (.t 17) (.c (.int .i64 0)), none⟩])
 (.cond (.t 18) (.seq (.reg [⟨some 19, .mv (.t 3), none⟩, ⟨some 2, .mv (.t 19), none⟩])
 (.ret)) (.skip)))
 (.seq (.reg [⟨some 21, .ld (some 5) (.t 1), none⟩, ⟨some 22, .call .full 33 [(.t 21)], none⟩, ⟨some 20, .mv (.t 22), none⟩, ⟨some 23, .ext 0 (.t 20), none⟩, ⟨some 24, .ext 1 (.t 20), none⟩, ⟨some 25, .ext 2 (.t 20), none⟩, ⟨some 26, .ext 3 (.t 20), none⟩, ⟨some 5, .alloc 49 [(.int .i64 0), .nils, .nils], none⟩, ⟨some 4, .mv (.t 23), none⟩, ⟨none, .st 3 (.t 5) (.t 24), none⟩, ⟨some 6, .mv (.t 25), none⟩, ⟨some 7, .mv (.t 26), none⟩])
 (.seq (.seq (.reg [⟨some 27, .mv (.t 7), none⟩, ⟨some 28, .bin .num .neq (.t 27) (.c (.int .i64 0)), none⟩])
 (.cond (.t 28) (.seq (.reg [⟨some 29, .mv (.t 3), none⟩, ⟨some 30, .mv (.t 29), none⟩, ⟨some 31, .fa 0 (.t 5), (some (30, true))⟩, ⟨some 32, .ld none (.t 31), (some (30, true))⟩, ⟨some 33, .bin .num .eql (.t 32) (.c (.int .i64 0)), (some (30, true))⟩, ⟨some 34, .pick (.t 30) (.t 33) (.c (.bool false)), none⟩, ⟨some 2, .mv (.t 34), none⟩])
 (.ret)) (.skip)))
 (.seq (.seq (.reg [⟨some 8, .mv (.c (.int .i64 0)), none⟩])
 (.block 0 (.loop l17a)))
 (.seq (.reg [⟨some 103, .ld (some 5) (.t 1), none⟩, ⟨some 104, .call .full 31 [(.t 103)], none⟩, ⟨some 105, .len false (.t 104), none⟩, ⟨some 106, .bin .num .sub (.t 105) (.c (.int .i64 1)), none⟩, ⟨some 10, .mv (.t 106), none⟩])
 (.seq (.seq (.reg [⟨some 11, .mv (.c (.int .i64 0)), none⟩])
 (.block 2 (.loop l17b)))
 (.seq (.reg [⟨some 147, .mv (.t 3), none⟩, ⟨some 148, .mv (.t 147), none⟩, ⟨some 149, .fa 1 (.t 5), (some (148, true))⟩, ⟨some 150, .ld none (.t 149), (some (148, true))⟩, ⟨some 151, .len false (.t 150), (some (148, true))⟩, ⟨some 152, .mv (.t 4), (some (148, true))⟩, ⟨some 153, .len false (.t 152), (some (148, true))⟩, ⟨some 154, .bin .num .eql (.t 151) (.t 153), (some (148, true))⟩, ⟨some 155, .pick (.t 148) (.t 154) (.c (.bool false)), none⟩, ⟨some 2, .mv (.t 155), none⟩])
 (.ret)))))))))
def a17 : AFn := ⟨156, [.tmp 2], y17a⟩
def a19 : AFn := ⟨6, [.tmp 2],
 .seq (.reg [⟨some 1, .box 24 (.t 0), none⟩, ⟨some 2, .mv (.c (.int .i64 0)), none⟩])
 (.seq (.seq (.reg [⟨some 3, .ld (some 5) (.t 1), none⟩, ⟨some 4, .call .full 40 [(.t 3), (.c (.int .i64 1500))], none⟩, ⟨some 5, .bin .num .lss (.t 4) (.c (.int .i64 0)), none⟩])
 (.cond (.t 5) (.seq (.reg [⟨some 2, .mv (.c (.int .i64 0)), none⟩])
 (.ret)) (.skip)))
 (.seq (.reg [⟨some 2, .mv (.c (.int .i64 1)), none⟩])
 (.ret)))⟩
def a20 : AFn := ⟨30, [.tmp 2, .cell 3 (some 5), .tmp 4, .tmp 5],
 .seq (.reg [⟨some 1, .box 24 (.t 0), none⟩, ⟨some 2, .mv (.c .nils), none⟩, ⟨some 3, .alloc 24 [(.int .i64 0), (.str ⟨#[]⟩), (.int .i64 0), .nils, (.int .i64 0)], none⟩, ⟨some 4, .mv (.c (.int .i64 0)), none⟩, ⟨some 5, .mv (.c (.int .i64 0)), none⟩])
 (.seq (.seq (.reg [⟨some 10, .ld (some 5) (.t 1), none⟩, ⟨some 11, .call .full 41 [(.t 10)], none⟩, ⟨some 12, .un .not (.t 11), none⟩])
 (.cond (.t 12) (.seq (.reg [⟨some 13, .build [(.int .i64 0), (.str ⟨#[]⟩), (.int .i64 0), .nils, (.int .i64 0)] [], none⟩, ⟨some 2, .mv (.c .nils), none⟩, ⟨none, .st 5 (.t 3) (.t 13), none⟩, ⟨some 4, .mv (.c (.int .i64 0)), none⟩, ⟨some 5, .mv (.c (.int .i64 30)), none⟩])
 (.ret)) (.skip)))
 (.seq (.reg [⟨some 15, .ld (some 5) (.t 1), none⟩, ⟨some 16, .call .no 42 [(.t 15)], none⟩, ⟨some 14, .mv (.t 16), none⟩, ⟨some 17, .ext 0 (.t 14), none⟩, ⟨some 18, .ext 1 (.t 14), none⟩, ⟨some 19, .ext 2 (.t 14), none⟩, ⟨some 7, .alloc 24 [(.int .i64 0), (.str ⟨#[]⟩), (.int .i64 0), .nils, (.int .i64 0)], none⟩, ⟨some 6, .mv (.t 17), none⟩, ⟨none, .st 5 (.t 7) (.t 18), none⟩, ⟨some 8, .mv (.t 19), none⟩])
 (.seq (.reg [⟨some 9, .alloc 65 [(.int .i64 0), (.int .i64 0)], none⟩])
 (.seq (.seq (.reg [⟨some 20, .mv (.t 8), none⟩, ⟨some 21, .mki 67 (.t 9), none⟩, ⟨some 22, .call .full 43 [(.t 20), (.t 21)], none⟩])
 (.cond (.t 22) (.seq (.dreg [(⟨some 23, .build [(.int .i64 0), (.str ⟨#[]⟩), (.int .i64 0), .nils, (.int .i64 0)] [], none⟩, 0), (⟨some 24, .fa 1 (.t 9), none⟩, 0), (⟨some 25, .ld none (.t 24), none⟩, 2), (⟨some 26, .fa 0 (.t 9), none⟩, 0), (⟨some 27, .ld none (.t 26), none⟩, 8), (⟨some 2, .mv (.c .nils), none⟩, 0), (⟨none, .st 5 (.t 3) (.t 23), none⟩, 33), (⟨some 4, .mv (.t 25), none⟩, 103), (⟨some 5, .mv (.t 27), none⟩, 255)])
 (.ret)) (.skip)))
 (.seq (.dreg [(⟨some 28, .mv (.t 6), none⟩, 0), (⟨some 29, .ld (some 5) (.t 7), none⟩, 0), (⟨some 2, .mv (.t 28), none⟩, 1), (⟨none, .st 5 (.t 3) (.t 29), none⟩, 7), (⟨some 4, .mv (.c (.int .i64 0)), none⟩, 15), (⟨some 5, .mv (.c (.int .i64 0)), none⟩, 31)])
 (.ret))))))⟩
def a24 : AFn := ⟨14, [.cell 2 (some 5)],
 .seq (.reg [⟨some 2, .alloc 24 [(.int .i64 0), (.str ⟨#[]⟩), (.int .i64 0), .nils, (.int .i64 0)], none⟩])
 (.seq (.reg [⟨some 7, .mv (.t 0), none⟩, ⟨some 8, .call .full 47 [(.t 7)], none⟩, ⟨some 9, .call .full 46 [(.t 8)], none⟩, ⟨some 6, .mv (.t 9), none⟩, ⟨some 10, .ext 0 (.t 6), none⟩, ⟨some 11, .ext 1 (.t 6), none⟩, ⟨some 12, .ext 2 (.t 6), none⟩, ⟨some 3, .alloc 24 [(.int .i64 0), (.str ⟨#[]⟩), (.int .i64 0), .nils, (.int .i64 0)], none⟩, ⟨none, .st 5 (.t 3) (.t 10), none⟩, ⟨some 4, .mv (.t 11), none⟩, ⟨some 5, .mv (.t 12), none⟩])
 (.seq (.reg [⟨some 13, .ld (some 5) (.t 3), none⟩, ⟨none, .st 5 (.t 2) (.t 13), none⟩])
 (.ret)))⟩
def a27 : AFn := ⟨5, [.tmp 2],
 .seq (.reg [⟨some 1, .box 24 (.t 0), none⟩, ⟨some 2, .mv (.c (.bool false)), none⟩])
 (.seq (.reg [⟨some 3, .ld (some 5) (.t 1), none⟩, ⟨some 4, .call .full 48 [(.t 3), (.c (.int .i64 100))], none⟩, ⟨some 2, .mv (.t 4), none⟩])
 (.ret))⟩
def a31 : AFn := ⟨23, [.tmp 2],
 .seq (.reg [⟨some 1, .box 24 (.t 0), none⟩, ⟨some 2, .mv (.c .nils), none⟩])
 (.seq (.reg [⟨some 5, .ld (some 5) (.t 1), none⟩, ⟨some 6, .bsl true 5 1 [(.int .i64 0), (.str ⟨#[]⟩), (.int .i64 0), .nils, (.int .i64 0)] [(0, 5, (.t 5))], none⟩, ⟨some 3, .mv (.t 6), none⟩])
 (.seq (.seq (.reg [⟨some 4, .mv (.c (.int .i64 0)), none⟩])
 (.block 0 (.loop (.seq (.seq (.reg [⟨some 7, .mv (.t 4), none⟩, ⟨some 8, .fa 3 (.t 1), none⟩, ⟨some 9, .ld none (.t 8), none⟩, ⟨some 10, .len false (.t 9), none⟩, ⟨some 11, .bin .num .lss (.t 7) (.t 10), none⟩])
 (.cond (.t 11) (.skip) (.exit 0)))
 (.seq (.block 1 (.reg [⟨some 14, .mv (.t 3), none⟩, ⟨some 15, .fa 3 (.t 1), none⟩, ⟨some 16, .ld none (.t 15), none⟩, ⟨some 17, .mv (.t 4), none⟩, ⟨some 18, .ia 5 (.t 16) (.t 17), none⟩, ⟨some 19, .ld (some 5) (.t 18), none⟩, ⟨some 20, .call .full 31 [(.t 19)], none⟩, ⟨some 21, .app 5 64 (.t 14) (.t 20), none⟩, ⟨some 3, .mv (.t 21), none⟩]))
 (.reg [⟨some 12, .mv (.t 4), none⟩, ⟨some 13, .bin .num .add (.t 12) (.c (.int .i64 1)), none⟩, ⟨some 4, .mv (.t 13), none⟩]))))))
 (.seq (.reg [⟨some 22, .mv (.t 3), none⟩, ⟨some 2, .mv (.t 22), none⟩])
 (.ret))))⟩
def a32 : AFn := ⟨62, [.tmp 0],
 .seq (.reg [⟨some 0, .mv (.c (.bool false)), none⟩])
 (.seq (.reg [⟨some 12, .call .full 24 [(.c (.str ⟨#[118, 97, 114, 32, 97, 32, 61, 32, 123, 125]⟩))], none⟩, ⟨some 13, .call .full 33 [(.t 12)], none⟩, ⟨some 11, .mv (.t 13), none⟩, ⟨some 14, .ext 0 (.t 11), none⟩, ⟨some 15, .ext 1 (.t 11), none⟩, ⟨some 16, .ext 2 (.t 11), none⟩, ⟨some 17, .ext 3 (.t 11), none⟩, ⟨some 2, .alloc 49 [(.int .i64 0), .nils, .nils], none⟩, ⟨some 1, .mv (.t 14), none⟩, ⟨none, .st 3 (.t 2) (.t 15), none⟩, ⟨some 3, .mv (.t 16), none⟩, ⟨some 4, .mv (.t 17), none⟩])
 (.seq (.reg [⟨some 19, .call .full 24 [(.c (.str ⟨#[118, 97, 114, 32, 97, 10, 98]⟩))], none⟩, ⟨some 20, .call .full 33 [(.t 19)], none⟩, ⟨some 18, .mv (.t 20), none⟩, ⟨some 21, .ext 0 (.t 18), none⟩, ⟨some 22, .ext 1 (.t 18), none⟩, ⟨some 23, .ext 2 (.t 18), none⟩, ⟨some 24, .ext 3 (.t 18), none⟩, ⟨some 6, .alloc 49 [(.int .i64 0), .nils, .nils], none⟩, ⟨some 5, .mv (.t 21), none⟩, ⟨none, .st 3 (.t 6) (.t 22), none⟩, ⟨some 7, .mv (.t 23), none⟩, ⟨some 8, .mv (.t 24), none⟩])
 (.seq (.seq (.reg [⟨some 25, .mv (.t 4), none⟩, ⟨some 26, .bin .num .neq (.t 25) (.c (.int .i64 0)), none⟩, ⟨some 27, .mv (.t 26), none⟩, ⟨some 28, .fa 2 (.t 2), (some (27, false))⟩, ⟨some 29, .ld none (.t 28), (some (27, false))⟩, ⟨some 30, .len false (.t 29), (some (27, false))⟩, ⟨some 31, .bin .num .neq (.t 30) (.c (.int .i64 2)), (some (27, false))⟩, ⟨some 32, .pick (.t 27) (.c (.bool true)) (.t 31), none⟩])
 (.cond (.t 32) (.seq (.reg [⟨some 0, .mv (.c (.bool false)), none⟩])
 (.ret)) (.skip)))
 (.seq (.reg [⟨some 33, .fa 2 (.t 2), none⟩, ⟨some 34, .ld none (.t 33), none⟩, ⟨some 35, .ia 9 (.t 34) (.c (.int .i64 0)), none⟩, ⟨some 36, .ld (some 9) (.t 35), none⟩, ⟨some 37, .build [(.int .i64 0), (.int .i64 0), (.int .i64 0), (.int .i64 0), (.int .i64 0), (.int .i64 0), (.int .i64 0), (.str ⟨#[]⟩), .nils] [(0, 1, (.c (.int .i64 3))), (2, 1, (.c (.int .i64 2))), (3, 1, (.c (.int .i64 3)))], none⟩, ⟨some 38, .call .full 49 [(.t 36), (.t 37)], none⟩, ⟨some 9, .mv (.t 38), none⟩])
 (.seq (.reg [⟨some 39, .fa 2 (.t 2), none⟩, ⟨some 40, .ld none (.t 39), none⟩, ⟨some 41, .ia 9 (.t 40) (.c (.int .i64 1)), none⟩, ⟨some 42, .ld (some 9) (.t 41), none⟩, ⟨some 43, .build [(.int .i64 0), (.int .i64 0), (.int .i64 0), (.int .i64 0), (.int .i64 0), (.int .i64 0), (.int .i64 0), (.str ⟨#[]⟩), .nils] [(0, 1, (.c (.int .i64 1))), (2, 1, (.c (.int .i64 2))), (6, 1, (.c (.int .i64 4)))], none⟩, ⟨some 44, .call .full 49 [(.t 42), (.t 43)], none⟩, ⟨some 10, .mv (.t 44), none⟩])
 (.seq (.reg [⟨some 45, .mv (.t 9), none⟩, ⟨some 46, .mv (.t 45), none⟩, ⟨some 47, .mv (.t 10), (some (46, true))⟩, ⟨some 48, .pick (.t 46) (.t 47) (.c (.bool false)), none⟩, ⟨some 49, .mv (.t 48), none⟩, ⟨some 50, .fa 0 (.t 2), (some (49, true))⟩, ⟨some 51, .ld none (.t 50), (some (49, true))⟩, ⟨some 52, .bin .num .eql (.t 51) (.c (.int .i64 16)), (some (49, true))⟩, ⟨some 53, .pick (.t 49) (.t 52) (.c (.bool false)), none⟩, ⟨some 54, .mv (.t 53), none⟩, ⟨some 55, .mv (.t 8), (some (54, true))⟩, ⟨some 56, .bin .num .eql (.t 55) (.c (.int .i64 50)), (some (54, true))⟩, ⟨some 57, .pick (.t 54) (.t 56) (.c (.bool false)), none⟩, ⟨some 58, .mv (.t 57), none⟩, ⟨some 59, .mv (.t 7), (some (58, true))⟩, ⟨some 60, .bin .num .eql (.t 59) (.c (.int .i64 2)), (some (58, true))⟩, ⟨some 61, .pick (.t 58) (.t 60) (.c (.bool false)), none⟩, ⟨some 0, .mv (.t 61), none⟩])
 (.ret)))))))⟩
def y33e : ACode := (.seq (.dreg [(⟨some 113, .mv (.t 10), none⟩, 0), (⟨some 114, .ld (some 5) (.t 7), none⟩, 0), (⟨some 115, .fa 1 (.t 14), none⟩, 0), (⟨some 116, .ld none (.t 115), none⟩, 4), (⟨some 117, .ia 5 (.t 116) (.c (.int .i64 0)), none⟩, 12), (⟨some 118, .fa 4 (.t 117), none⟩, 28), (⟨some 119, .ld none (.t 118), none⟩, 60), (⟨some 120, .build [(.int .i64 0), (.int .i64 0), (.int .i64 0)] [(0, 1, (.c (.int .i64 0))), (1, 1, (.c (.int .i64 0))), (2, 1, (.t 119))], none⟩, 124), (⟨some 121, .call .no 52 [(.t 113), (.t 114), (.t 120), (.c (.bool true))], none⟩, 255)])
 (.seq (.reg [⟨some 122, .mv (.t 10), none⟩, ⟨some 123, .nck (.t 122), none⟩, ⟨some 124, .fa 2 (.t 123), none⟩, ⟨some 125, .ld none (.t 124), none⟩, ⟨some 126, .fa 2 (.t 14), none⟩, ⟨none, .st 1 (.t 126) (.t 125), none⟩])
 (.seq (.dreg [(⟨some 127, .mv (.t 6), none⟩, 0), (⟨some 128, .ld (some 3) (.t 14), none⟩, 0), (⟨some 2, .mv (.t 127), none⟩, 1), (⟨none, .st 3 (.t 3) (.t 128), none⟩, 7), (⟨some 4, .mv (.c (.int .i64 0)), none⟩, 15), (⟨some 5, .mv (.c (.int .i64 0)), none⟩, 31)])
 (.ret))))
def l33c : ACode := (.seq (.reg [⟨some 89, .bin .num .lss (.t 88) (.t 87), none⟩])
 (.seq (.cond (.t 89) (.skip) (.exit 4))
 (.seq (.block 5 (.seq (.reg [⟨some 90, .mv (.t 88), none⟩, ⟨some 18, .mv (.t 90), none⟩])
 (.dreg [(⟨some 91, .fa 1 (.t 17), none⟩, 0), (⟨some 92, .ld none (.t 91), none⟩, 1), (⟨some 93, .mv (.t 10), none⟩, 0), (⟨some 94, .nck (.t 93), none⟩, 4), (⟨some 95, .fa 1 (.t 94), none⟩, 12), (⟨some 96, .ld none (.t 95), none⟩, 28), (⟨some 97, .mv (.t 15), none⟩, 0), (⟨some 98, .ia 1 (.t 96) (.t 97), none⟩, 124), (⟨some 99, .ld none (.t 98), none⟩, 252), (⟨some 100, .mv (.t 18), none⟩, 0), (⟨some 101, .bin .num .add (.t 99) (.t 100), none⟩, 1020), (⟨some 102, .bsl true 1 1 [(.int .i64 0)] [(0, 1, (.t 101))], none⟩, 2044), (⟨some 103, .app 1 8 (.t 92) (.t 102), none⟩, 4095), (⟨some 104, .fa 1 (.t 17), none⟩, 8191), (⟨none, .st 1 (.t 104) (.t 103), none⟩, 16383)])))
 (.reg [⟨some 105, .bin .num .add (.t 88) (.c (.int .i64 1)), none⟩, ⟨some 88, .mv (.t 105), none⟩]))))
def l33b : ACode := (.seq (.reg [⟨some 69, .bin .num .lss (.t 68) (.t 67), none⟩])
 (.seq (.cond (.t 69) (.skip) (.exit 2))
 (.seq (.block 3 (.seq (.reg [⟨some 70, .mv (.t 68), none⟩, ⟨some 71, .ia 5 (.t 66) (.t 68), none⟩, ⟨some 72, .ld (some 5) (.t 71), none⟩, ⟨some 16, .alloc 43 [(.int .i64 0), (.str ⟨#[]⟩), (.int .i64 0), .nils, (.int .i64 0)], none⟩, ⟨some 15, .mv (.t 70), none⟩, ⟨none, .st 5 (.t 16) (.t 72), none⟩])
 (.seq (.reg [⟨some 73, .fa 4 (.t 16), none⟩, ⟨some 74, .ld none (.t 73), none⟩, ⟨some 75, .build [(.int .i64 0), .nils, (.int .i64 0), (.int .i64 0), (.int .i64 0)] [(0, 1, (.t 74))], none⟩, ⟨some 17, .alloc 82 [(.int .i64 0), .nils, (.int .i64 0), (.int .i64 0), (.int .i64 0)], none⟩, ⟨none, .st 5 (.t 17) (.t 75), none⟩])
 (.seq (.reg [⟨some 77, .mv (.t 10), none⟩, ⟨some 78, .mv (.t 15), none⟩, ⟨some 79, .call .no 51 [(.t 77), (.t 78)], none⟩, ⟨some 76, .mv (.t 79), none⟩, ⟨some 80, .ext 0 (.t 76), none⟩, ⟨some 81, .ext 1 (.t 76), none⟩, ⟨some 82, .ext 2 (.t 76), none⟩, ⟨some 83, .fa 2 (.t 17), none⟩, ⟨none, .st 1 (.t 83) (.t 80), none⟩, ⟨some 84, .fa 3 (.t 17), none⟩, ⟨none, .st 1 (.t 84) (.t 81), none⟩, ⟨some 85, .fa 4 (.t 17), none⟩, ⟨none, .st 1 (.t 85) (.t 82), none⟩])
 (.seq (.seq (.reg [⟨some 86, .fa 2 (.t 16), none⟩, ⟨some 87, .ld none (.t 86), none⟩, ⟨some 88, .mv (.c (.int .i64 0)), none⟩])
 (.block 4 (.loop l33c)))
 (.reg [⟨some 106, .fa 1 (.t 14), none⟩, ⟨some 107, .ld none (.t 106), none⟩, ⟨some 108, .ld (some 5) (.t 17), none⟩, ⟨some 109, .bsl true 5 1 [(.int .i64 0), .nils, (.int .i64 0), (.int .i64 0), (.int .i64 0)] [(0, 5, (.t 108))], none⟩, ⟨some 110, .app 5 56 (.t 107) (.t 109), none⟩, ⟨some 111, .fa 1 (.t 14), none⟩, ⟨none, .st 1 (.t 111) (.t 110), none⟩]))))))
 (.reg [⟨some 112, .bin .num .add (.t 68) (.c (.int .i64 1)), none⟩, ⟨some 68, .mv (.t 112), none⟩]))))
def l33a : ACode := (.seq (.reg [⟨some 39, .bin .num .lss (.t 38) (.t 37), none⟩])
 (.seq (.cond (.t 39) (.skip) (.exit 0))
 (.seq (.block 1 (.seq (.reg [⟨some 40, .ia 5 (.t 36) (.t 38), none⟩, ⟨some 41, .ld (some 5) (.t 40), none⟩, ⟨some 13, .alloc 43 [(.int .i64 0), (.str ⟨#[]⟩), (.int .i64 0), .nils, (.int .i64 0)], none⟩, ⟨none, .st 5 (.t 13) (.t 41), none⟩])
 (.seq (.reg [⟨some 42, .mv (.t 10), none⟩, ⟨some 43, .mv (.t 10), none⟩, ⟨some 44, .nck (.t 43), none⟩, ⟨some 45, .fa 1 (.t 44), none⟩, ⟨some 46, .ld none (.t 45), none⟩, ⟨some 47, .mv (.t 11), none⟩, ⟨some 48, .bsl true 1 1 [(.int .i64 0)] [(0, 1, (.t 47))], none⟩, ⟨some 49, .app 1 8 (.t 46) (.t 48), none⟩, ⟨some 50, .nck (.t 42), none⟩, ⟨some 51, .fa 1 (.t 50), none⟩, ⟨none, .st 1 (.t 51) (.t 49), none⟩])
 (.reg [⟨some 52, .mv (.t 11), none⟩, ⟨some 53, .fa 3 (.t 13), none⟩, ⟨some 54, .ld none (.t 53), none⟩, ⟨some 55, .len false (.t 54), none⟩, ⟨some 56, .bin .num .add (.t 55) (.c (.int .i64 3)), none⟩, ⟨some 57, .bin .num .add (.t 52) (.t 56), none⟩, ⟨some 11, .mv (.t 57), none⟩]))))
 (.reg [⟨some 58, .bin .num .add (.t 38) (.c (.int .i64 1)), none⟩, ⟨some 38, .mv (.t 58), none⟩]))))
def y33d : ACode := (.seq (.seq (.reg [⟨some 66, .mv (.t 6), none⟩, ⟨some 67, .len false (.t 66), none⟩, ⟨some 68, .mv (.c (.int .i64 0)), none⟩])
 (.block 2 (.loop l33b)))
 y33e)
def y33c : ACode := (.seq (.reg [⟨some 59, .mv (.t 11), none⟩, ⟨some 60, .bin .num .add (.t 59) (.c (.int .i64 9)), none⟩, ⟨some 61, .build [(.int .i64 0), .nils, .nils] [(0, 1, (.t 60))], none⟩, ⟨some 14, .alloc 49 [(.int .i64 0), .nils, .nils], none⟩, ⟨none, .st 3 (.t 14) (.t 61), none⟩])
 (.seq (.seq (.reg [⟨some 62, .fa 0 (.t 14), none⟩, ⟨some 63, .ld none (.t 62), none⟩, ⟨some 64, .bin .num .gtr (.t 63) (.c (.int .i64 100000)), none⟩])
 (.cond (.t 64) (.seq (.reg [⟨some 65, .build [(.int .i64 0), .nils, .nils] [], none⟩, ⟨some 2, .mv (.c .nils), none⟩, ⟨none, .st 3 (.t 3) (.t 65), none⟩, ⟨some 4, .mv (.c (.int .i64 0)), none⟩, ⟨some 5, .mv (.c (.int .i64 52)), none⟩])
 (.ret)) (.skip)))
 y33d))
def y33b : ACode := (.seq (.seq (.reg [⟨some 36, .mv (.t 6), none⟩, ⟨some 37, .len false (.t 36), none⟩, ⟨some 38, .mv (.c (.int .i64 0)), none⟩])
 (.block 0 (.loop l33a)))
 y33c)
def y33a : ACode := .seq (.reg [⟨some 1, .box 24 (.t 0), none⟩, ⟨some 2, .mv (.c .nils), none⟩, ⟨some 3, .alloc 49 [(.int .i64 0), .nils, .nils], none⟩, ⟨some 4, .mv (.c (.int .i64 0)), none⟩, ⟨some 5, .mv (.c (.int .i64 0)), none⟩])
 (.seq (.reg [⟨some 20, .ld (some 5) (.t 1), none⟩, ⟨some 21, .call .full 20 [(.t 20)], none⟩, ⟨some 19, .mv (.t 21), none⟩, ⟨some 22, .ext 0 (.t 19), none⟩, ⟨some 23, .ext 1 (.t 19), none⟩, ⟨some 24, .ext 2 (.t 19), none⟩, ⟨some 25, .ext 3 (.t 19), none⟩, ⟨some 7, .alloc 24 [(.int .i64 0), (.str ⟨#[]⟩), (.int .i64 0), .nils, (.int .i64 0)], none⟩, ⟨some 6, .mv (.t 22), none⟩, ⟨none, .st 5 (.t 7) (.t 23), none⟩, ⟨some 8, .mv (.t 24), none⟩, ⟨some 9, .mv (.t 25), none⟩])
 (.seq (.seq (.reg [⟨some 26, .mv (.t 9), none⟩, ⟨some 27, .bin .num .neq (.t 26) (.c (.int .i64 0)), none⟩])
 (.cond (.t 27) (.seq (.reg [⟨some 28, .build [(.int .i64 0), .nils, .nils] [], none⟩, ⟨some 29, .mv (.t 8), none⟩, ⟨some 30, .mv (.t 9), none⟩, ⟨some 2, .mv (.c .nils), none⟩, ⟨none, .st 3 (.t 3) (.t 28), none⟩, ⟨some 4, .mv (.t 29), none⟩, ⟨some 5, .mv (.t 30), none⟩])
 (.ret)) (.skip)))
 (.seq (.reg [⟨some 31, .mv (.t 6), none⟩, ⟨some 32, .build [.nils, .nils, .nils] [(0, 1, (.t 31))], none⟩, ⟨some 33, .box 80 (.t 32), none⟩, ⟨some 10, .mv (.t 33), none⟩])
 (.seq (.reg [⟨some 34, .ld (some 5) (.t 7), none⟩, ⟨some 35, .call .full 50 [(.t 34)], none⟩, ⟨some 11, .mv (.t 35), none⟩])
 y33b))))
def a33 : AFn := ⟨129, [.tmp 2, .cell 3 (some 3), .tmp 4, .tmp 5], y33a⟩
def a37 : AFn := ⟨28, [.tmp 4],
 .seq (.reg [⟨some 2, .box 24 (.t 0), none⟩, ⟨some 4, .mv (.c (.int .i64 0)), none⟩])
 (.seq (.reg [⟨some 5, .mv (.c (.int .i64 0)), none⟩])
 (.seq (.seq (.reg [⟨some 7, .fa 0 (.t 2), none⟩, ⟨some 8, .ld none (.t 7), none⟩, ⟨some 9, .mv (.t 1), none⟩, ⟨some 10, .bin .num .eql (.t 8) (.t 9), none⟩])
 (.cond (.t 10) (.reg [⟨some 5, .mv (.c (.int .i64 1)), none⟩]) (.skip)))
 (.seq (.seq (.reg [⟨some 6, .mv (.c (.int .i64 0)), none⟩])
 (.block 0 (.loop (.seq (.seq (.reg [⟨some 11, .mv (.t 6), none⟩, ⟨some 12, .fa 3 (.t 2), none⟩, ⟨some 13, .ld none (.t 12), none⟩, ⟨some 14, .len false (.t 13), none⟩, ⟨some 15, .bin .num .lss (.t 11) (.t 14), none⟩])
 (.cond (.t 15) (.skip) (.exit 0)))
 (.seq (.block 1 (.reg [⟨some 18, .mv (.t 5), none⟩, ⟨some 19, .fa 3 (.t 2), none⟩, ⟨some 20, .ld none (.t 19), none⟩, ⟨some 21, .mv (.t 6), none⟩, ⟨some 22, .ia 5 (.t 20) (.t 21), none⟩, ⟨some 23, .ld (some 5) (.t 22), none⟩, ⟨some 24, .mv (.t 1), none⟩, ⟨some 25, .call .full 37 [(.t 23), (.t 24)], none⟩, ⟨some 26, .bin .num .add (.t 18) (.t 25), none⟩, ⟨some 5, .mv (.t 26), none⟩]))
 (.reg [⟨some 16, .mv (.t 6), none⟩, ⟨some 17, .bin .num .add (.t 16) (.c (.int .i64 1)), none⟩, ⟨some 6, .mv (.t 17), none⟩]))))))
 (.seq (.reg [⟨some 27, .mv (.t 5), none⟩, ⟨some 4, .mv (.t 27), none⟩])
 (.ret)))))⟩
def a38 : AFn := ⟨55, [.tmp 6, .tmp 7],
 .seq (.reg [⟨some 4, .box 49 (.t 1), none⟩, ⟨some 6, .mv (.c (.int .i64 0)), none⟩, ⟨some 7, .mv (.c (.int .i64 0)), none⟩])
 (.seq (.reg [⟨some 10, .mv (.t 2), none⟩, ⟨some 11, .bin .num .quo (.t 10) (.c (.int .i64 1000)), none⟩, ⟨some 12, .mv (.t 2), none⟩, ⟨some 13, .bin .num .rem (.t 12) (.c (.int .i64 1000)), none⟩, ⟨some 8, .mv (.t 11), none⟩, ⟨some 9, .mv (.t 13), none⟩])
 (.seq (.seq (.reg [⟨some 14, .mv (.t 2), none⟩, ⟨some 15, .bin .num .lss (.t 14) (.c (.int .i64 0)), none⟩, ⟨some 16, .mv (.t 15), none⟩, ⟨some 17, .mv (.t 0), (some (16, false))⟩, ⟨some 18, .len false (.t 17), (some (16, false))⟩, ⟨some 19, .fa 1 (.t 4), (some (16, false))⟩, ⟨some 20, .ld none (.t 19), (some (16, false))⟩, ⟨some 21, .len false (.t 20), (some (16, false))⟩, ⟨some 22, .bin .num .neq (.t 18) (.t 21), (some (16, false))⟩, ⟨some 23, .pick (.t 16) (.c (.bool true)) (.t 22), none⟩, ⟨some 24, .mv (.t 23), none⟩, ⟨some 25, .mv (.t 8), (some (24, false))⟩, ⟨some 26, .mv (.t 0), (some (24, false))⟩, ⟨some 27, .len false (.t 26), (some (24, false))⟩, ⟨some 28, .bin .num .geq (.t 25) (.t 27), (some (24, false))⟩, ⟨some 29, .pick (.t 24) (.c (.bool true)) (.t 28), none⟩, ⟨some 30, .mv (.t 29), none⟩, ⟨some 31, .mv (.t 9), (some (30, false))⟩, ⟨some 32, .mv (.t 0), (some (30, false))⟩, ⟨some 33, .mv (.t 8), (some (30, false))⟩, ⟨some 34, .ia 5 (.t 32) (.t 33), (some (30, false))⟩, ⟨some 35, .fa 3 (.t 34), (some (30, false))⟩, ⟨some 36, .ld none (.t 35), (some (30, false))⟩, ⟨some 37, .len false (.t 36), (some (30, false))⟩, ⟨some 38, .bin .num .geq (.t 31) (.t 37), (some (30, false))⟩, ⟨some 39, .pick (.t 30) (.c (.bool true)) (.t 38), none⟩])
 (.cond (.t 39) (.seq (.reg [⟨some 6, .mv (.c (.int .i64 0)), none⟩, ⟨some 7, .mv (.c (.int .i64 2)), none⟩])
 (.ret)) (.skip)))
 (.seq (.dreg [(⟨some 40, .fa 1 (.t 4), none⟩, 0), (⟨some 41, .ld none (.t 40), none⟩, 1), (⟨some 42, .mv (.t 8), none⟩, 0), (⟨some 43, .ia 5 (.t 41) (.t 42), none⟩, 7), (⟨some 44, .fa 2 (.t 43), none⟩, 15), (⟨some 45, .ld none (.t 44), none⟩, 31), (⟨some 46, .mv (.t 0), none⟩, 0), (⟨some 47, .mv (.t 8), none⟩, 0), (⟨some 48, .ia 5 (.t 46) (.t 47), none⟩, 192), (⟨some 49, .fa 3 (.t 48), none⟩, 448), (⟨some 50, .ld none (.t 49), none⟩, 960), (⟨some 51, .len false (.t 50), none⟩, 1984), (⟨some 52, .bin .num .sub (.t 45) (.t 51), none⟩, 4095), (⟨some 53, .mv (.t 9), none⟩, 0), (⟨some 54, .bin .num .add (.t 52) (.t 53), none⟩, 16383), (⟨some 6, .mv (.t 54), none⟩, 32767), (⟨some 7, .mv (.c (.int .i64 0)), none⟩, 65535)])
 (.ret))))⟩
def a39 : AFn := ⟨56, [.tmp 6, .tmp 7],
 .seq (.reg [⟨some 4, .box 49 (.t 1), none⟩, ⟨some 6, .mv (.c (.int .i64 0)), none⟩, ⟨some 7, .mv (.c (.int .i64 0)), none⟩])
 (.seq (.seq (.reg [⟨some 9, .mv (.t 0), none⟩, ⟨some 10, .len false (.t 9), none⟩, ⟨some 11, .fa 1 (.t 4), none⟩, ⟨some 12, .ld none (.t 11), none⟩, ⟨some 13, .len false (.t 12), none⟩, ⟨some 14, .bin .num .neq (.t 10) (.t 13), none⟩, ⟨some 15, .mv (.t 14), none⟩, ⟨some 16, .mv (.t 2), (some (15, false))⟩, ⟨some 17, .bin .num .lss (.t 16) (.c (.int .i64 0)), (some (15, false))⟩, ⟨some 18, .pick (.t 15) (.c (.bool true)) (.t 17), none⟩, ⟨some 19, .mv (.t 18), none⟩, ⟨some 20, .mv (.t 2), (some (19, false))⟩, ⟨some 21, .bin .num .quo (.t 20) (.c (.int .i64 1000)), (some (19, false))⟩, ⟨some 22, .mv (.t 0), (some (19, false))⟩, ⟨some 23, .len false (.t 22), (some (19, false))⟩, ⟨some 24, .bin .num .geq (.t 21) (.t 23), (some (19, false))⟩, ⟨some 25, .pick (.t 19) (.c (.bool true)) (.t 24), none⟩, ⟨some 26, .mv (.t 25), none⟩, ⟨some 27, .mv (.t 2), (some (26, false))⟩, ⟨some 28, .bin .num .rem (.t 27) (.c (.int .i64 1000)), (some (26, false))⟩, ⟨some 29, .mv (.t 0), (some (26, false))⟩, ⟨some 30, .mv (.t 2), (some (26, false))⟩, ⟨some 31, .bin .num .quo (.t 30) (.c (.int .i64 1000)), (some (26, false))⟩, ⟨some 32, .ia 5 (.t 29) (.t 31), (some (26, false))⟩, ⟨some 33, .fa 3 (.t 32), (some (26, false))⟩, ⟨some 34, .ld none (.t 33), (some (26, false))⟩, ⟨some 35, .len false (.t 34), (some (26, false))⟩, ⟨some 36, .bin .num .geq (.t 28) (.t 35), (some (26, false))⟩, ⟨some 37, .pick (.t 26) (.c (.bool true)) (.t 36), none⟩])
 (.cond (.t 37) (.seq (.reg [⟨some 6, .mv (.c (.int .i64 0)), none⟩, ⟨some 7, .mv (.c (.int .i64 2)), none⟩])
 (.ret)) (.skip)))
 (.seq (.reg [⟨some 38, .mv (.t 2), none⟩, ⟨some 39, .bin .num .quo (.t 38) (.c (.int .i64 1000)), none⟩, ⟨some 8, .mv (.t 39), none⟩])
 (.seq (.dreg [(⟨some 40, .fa 1 (.t 4), none⟩, 0), (⟨some 41, .ld none (.t 40), none⟩, 1), (⟨some 42, .mv (.t 8), none⟩, 0), (⟨some 43, .ia 5 (.t 41) (.t 42), none⟩, 7), (⟨some 44, .fa 2 (.t 43), none⟩, 15), (⟨some 45, .ld none (.t 44), none⟩, 31), (⟨some 46, .mv (.t 0), none⟩, 0), (⟨some 47, .mv (.t 8), none⟩, 0), (⟨some 48, .ia 5 (.t 46) (.t 47), none⟩, 192), (⟨some 49, .fa 3 (.t 48), none⟩, 448), (⟨some 50, .ld none (.t 49), none⟩, 960), (⟨some 51, .len false (.t 50), none⟩, 1984), (⟨some 52, .bin .num .sub (.t 45) (.t 51), none⟩, 4095), (⟨some 53, .mv (.t 2), none⟩, 0), (⟨some 54, .bin .num .rem (.t 53) (.c (.int .i64 1000)), none⟩, 8192), (⟨some 55, .bin .num .add (.t 52) (.t 54), none⟩, 32767), (⟨some 6, .mv (.t 55), none⟩, 65535), (⟨some 7, .mv (.c (.int .i64 0)), none⟩, 131071)])
 (.ret))))⟩
def a40 : AFn := ⟨27, [.tmp 4],
 .seq (.reg [⟨some 2, .box 24 (.t 0), none⟩, ⟨some 4, .mv (.c (.int .i64 0)), none⟩])
 (.seq (.reg [⟨some 6, .mv (.t 1), none⟩, ⟨some 7, .bin .num .sub (.t 6) (.c (.int .i64 1)), none⟩, ⟨some 1, .mv (.t 7), none⟩])
 (.seq (.seq (.reg [⟨some 5, .mv (.c (.int .i64 0)), none⟩])
 (.block 0 (.loop (.seq (.seq (.reg [⟨some 8, .mv (.t 5), none⟩, ⟨some 9, .fa 3 (.t 2), none⟩, ⟨some 10, .ld none (.t 9), none⟩, ⟨some 11, .len false (.t 10), none⟩, ⟨some 12, .bin .num .lss (.t 8) (.t 11), none⟩, ⟨some 13, .mv (.t 12), none⟩, ⟨some 14, .mv (.t 1), (some (13, true))⟩, ⟨some 15, .bin .num .geq (.t 14) (.c (.int .i64 0)), (some (13, true))⟩, ⟨some 16, .pick (.t 13) (.t 15) (.c (.bool false)), none⟩])
 (.cond (.t 16) (.skip) (.exit 0)))
 (.seq (.block 1 (.reg [⟨some 19, .fa 3 (.t 2), none⟩, ⟨some 20, .ld none (.t 19), none⟩, ⟨some 21, .mv (.t 5), none⟩, ⟨some 22, .ia 5 (.t 20) (.t 21), none⟩, ⟨some 23, .ld (some 5) (.t 22), none⟩, ⟨some 24, .mv (.t 1), none⟩, ⟨some 25, .call .full 40 [(.t 23), (.t 24)], none⟩, ⟨some 1, .mv (.t 25), none⟩]))
 (.reg [⟨some 17, .mv (.t 5), none⟩, ⟨some 18, .bin .num .add (.t 17) (.c (.int .i64 1)), none⟩, ⟨some 5, .mv (.t 18), none⟩]))))))
 (.seq (.reg [⟨some 26, .mv (.t 1), none⟩, ⟨some 4, .mv (.t 26), none⟩])
 (.ret))))⟩
def a41 : AFn := ⟨11, [.tmp 2],
 .seq (.reg [⟨some 1, .box 24 (.t 0), none⟩, ⟨some 2, .mv (.c (.bool false)), none⟩])
 (.seq (.dreg [(⟨some 3, .fa 0 (.t 1), none⟩, 0), (⟨some 4, .ld none (.t 3), none⟩, 1), (⟨some 5, .bin .num .eql (.t 4) (.c (.int .i64 32)), none⟩, 3), (⟨some 6, .mv (.t 5), none⟩, 7), (⟨some 7, .call .no 57 [], (some (6, true))⟩, 15), (⟨some 8, .ld (some 5) (.t 1), (some (6, true))⟩, 15), (⟨some 9, .call .full 58 [(.t 7), (.t 8), (.c (.int .i64 100))], (some (6, true))⟩, 63), (⟨some 10, .pick (.t 6) (.t 9) (.c (.bool false)), none⟩, 127), (⟨some 2, .mv (.t 10), none⟩, 255)])
 (.ret))⟩
def a46 : AFn := ⟨58, [.cell 2 (some 5), .tmp 3, .tmp 4],
 .seq (.reg [qo 2 (.alloc 24 z5), qo 3 (.mv (qi 0)), qo 4 (.mv (qi 0))])
 (.seq (.reg [qv 8 0, qo 9 (.build [.nils, (.int .i64 0), (.int .i64 0), (.int .i64 0)] [(0, 1, (.t 8))]), qo 10 (.box 126 (.t 9)), qv 5 10])
 (.seq (.reg [qv 11 5, qo 12 (.call .no 73 [(.t 11)]), qo 13 (.build z5 [(0, 1, (qi 32)), (3, 1, (.t 12))]), qo 6 (.alloc 24 z5), ⟨none, .st 5 (.t 6) (.t 13), none⟩])
 (.seq (.seq (.reg [qv 14 5, qn 15 14, qf 16 2 15, ql 17 16, qo 18 (.bin .num .eql (.t 17) (qi 0)), qv 19 18, qg 20 (.mv (.t 5)) 19 true, qg 21 (.nck (.t 20)) 19 true, qg 22 (.fa 1 (.t 21)) 19 true, qg 23 (.ld none (.t 22)) 19 true, qg 24 (.mv (.t 0)) 19 true, qg 25 (.len false (.t 24)) 19 true, qg 26 (.bin .num .lss (.t 23) (.t 25)) 19 true, qo 27 (.pick (.t 19) (.t 26) (.c (.bool false)))])
 (.cond (.t 27) (.reg [qv 28 5, qo 29 (.call .full 74 [(.t 28), (.c (.bool true))])]) (.skip)))
 (.seq (.seq (.reg [qv 30 5, qn 31 30, qf 32 2 31, ql 33 32, qo 34 (.bin .num .neq (.t 33) (qi 0))])
 (.cond (.t 34) (.seq (.dreg [(qo 35 (.build z5 []), 0), (qv 36 5, 0), (qn 37 36, 2), (qf 38 3 37, 6), (ql 39 38, 14), (qv 40 5, 0), (qn 41 40, 32), (qf 42 2 41, 96), (ql 43 42, 224), (⟨none, .st 5 (.t 2) (.t 35), none⟩, 1), (qv 3 39, 543), (qv 4 43, 2047)])
 (.ret)) (.skip)))
 (.seq (.reg [qo 44 (.ld (some 5) (.t 6)), qo 45 (.call .full 27 [(.t 44)]), qv 7 45])
 (.seq (.seq (.reg [qv 46 7, qo 47 (.un .not (.t 46))])
 (.cond (.t 47) (.seq (.reg [qo 48 (.build z5 []), ⟨none, .st 5 (.t 2) (.t 48), none⟩, qo 3 (.mv (qi 0)), qo 4 (.mv (qi 41))])
 (.ret)) (.skip)))
 (.seq (.seq (.reg [qv 49 0, qo 50 (.len false (.t 49)), qo 51 (.bin .num .gtr (.t 50) (qi 0))])
 (.cond (.t 51) (.reg [qv 52 0, qo 53 (.ia 5 (.t 52) (qi 0)), qf 54 3 53, ql 55 54, qf 56 4 6, ⟨none, .st 1 (.t 56) (.t 55), none⟩]) (.skip)))
 (.seq (.reg [qo 57 (.ld (some 5) (.t 6)), ⟨none, .st 5 (.t 2) (.t 57), none⟩, qo 3 (.mv (qi 0)), qo 4 (.mv (qi 0))])
 (.ret)))))))))⟩
def a47 : AFn := ⟨13, [.tmp 2],
 .seq (.reg [qo 2 (.mv (.c .nils))])
 (.seq (.reg [qv 7 0, qo 8 (.call .full 75 [(.t 7)]), qv 6 8, qo 9 (.ext 0 (.t 6)), qo 10 (.ext 1 (.t 6)), qo 11 (.ext 2 (.t 6)), qv 3 9, qv 4 10, qv 5 11])
 (.seq (.reg [qv 12 3, qv 2 12])
 (.ret)))⟩
def a48 : AFn := ⟨13, [.tmp 4],
 .seq (.reg [⟨some 2, .box 24 (.t 0), none⟩, ⟨some 4, .mv (.c (.bool false)), none⟩])
 (.seq (.reg [⟨some 5, .fa 0 (.t 2), none⟩, ⟨some 6, .ld none (.t 5), none⟩, ⟨some 7, .bin .num .eql (.t 6) (.c (.int .i64 32)), none⟩, ⟨some 8, .mv (.t 7), none⟩, ⟨some 9, .ld (some 5) (.t 2), (some (8, true))⟩, ⟨some 10, .mv (.t 1), (some (8, true))⟩, ⟨some 11, .call .full 76 [(.t 9), (.t 10)], (some (8, true))⟩, ⟨some 12, .pick (.t 8) (.t 11) (.c (.bool false)), none⟩, ⟨some 4, .mv (.t 12), none⟩])
 (.ret))⟩
def a49 : AFn := ⟨68, [.tmp 4],
 .seq (.reg [⟨some 2, .box 55 (.t 0), none⟩, ⟨some 3, .box 55 (.t 1), none⟩, ⟨some 4, .mv (.c (.bool false)), none⟩])
 (.seq (.reg [⟨some 6, .fa 8 (.t 2), none⟩, ⟨some 7, .ld none (.t 6), none⟩, ⟨some 8, .fa 8 (.t 3), none⟩, ⟨some 9, .ld none (.t 8), none⟩, ⟨some 10, .call .no 56 [(.t 7), (.t 9)], none⟩, ⟨some 5, .mv (.t 10), none⟩])
 (.seq (.reg [⟨some 11, .mv (.t 5), none⟩, ⟨some 12, .mv (.t 11), none⟩, ⟨some 13, .fa 0 (.t 2), (some (12, true))⟩, ⟨some 14, .ld none (.t 13), (some (12, true))⟩, ⟨some 15, .fa 0 (.t 3), (some (12, true))⟩, ⟨some 16, .ld none (.t 15), (some (12, true))⟩, ⟨some 17, .bin .num .eql (.t 14) (.t 16), (some (12, true))⟩, ⟨some 18, .pick (.t 12) (.t 17) (.c (.bool false)), none⟩, ⟨some 19, .mv (.t 18), none⟩, ⟨some 20, .fa 1 (.t 2), (some (19, true))⟩, ⟨some 21, .ld none (.t 20), (some (19, true))⟩, ⟨some 22, .fa 1 (.t 3), (some (19, true))⟩, ⟨some 23, .ld none (.t 22), (some (19, true))⟩, ⟨some 24, .bin .num .eql (.t 21) (.t 23), (some (19, true))⟩, ⟨some 25, .pick (.t 19) (.t 24) (.c (.bool false)), none⟩, ⟨some 26, .mv (.t 25), none⟩, ⟨some 27, .fa 2 (.t 2), (some (26, true))⟩, ⟨some 28, .ld none (.t 27), (some (26, true))⟩, ⟨some 29, .fa 2 (.t 3), (some (26, true))⟩, ⟨some 30, .ld none (.t 29), (some (26, true))⟩, ⟨some 31, .bin .num .eql (.t 28) (.t 30), (some (26, true))⟩, ⟨some 32, .pick (.t 26) (.t 31) (.c (.bool false)), none⟩, ⟨some 33, .mv (.t 32), none⟩, ⟨some 34, .fa 3 (.t 2), (some (33, true))⟩, ⟨some 35, .ld none (.t 34), (some (33, true))⟩, ⟨some 36, .fa 3 (.t 3), (some (33, true))⟩, ⟨some 37, .ld none (.t 36), (some (33, true))⟩, ⟨some 38, .bin .num .eql (.t 35) (.t 37), (some (33, true))⟩, ⟨some 39, .pick (.t 33) (.t 38) (.c (.bool false)), none⟩, ⟨some 40, .mv (.t 39), none⟩, ⟨some 41, .fa 4 (.t 2), (some (40, true))⟩, ⟨some 42, .ld none (.t 41), (some (40, true))⟩, ⟨some 43, .fa 4 (.t 3), (some (40, true))⟩, ⟨some 44, .ld none (.t 43), (some (40, true))⟩, ⟨some 45, .bin .num .eql (.t 42) (.t 44), (some (40, true))⟩, ⟨some 46, .pick (.t 40) (.t 45) (.c (.bool false)), none⟩, ⟨some 47, .mv (.t 46), none⟩, ⟨some 48, .fa 5 (.t 2), (some (47, true))⟩, ⟨some 49, .ld none (.t 48), (some (47, true))⟩, ⟨some 50, .fa 5 (.t 3), (some (47, true))⟩, ⟨some 51, .ld none (.t 50), (some (47, true))⟩, ⟨some 52, .bin .num .eql (.t 49) (.t 51), (some (47, true))⟩, ⟨some 53, .pick (.t 47) (.t 52) (.c (.bool false)), none⟩, ⟨some 54, .mv (.t 53), none⟩, ⟨some 55, .fa 6 (.t 2), (some (54, true))⟩, ⟨some 56, .ld none (.t 55), (some (54, true))⟩, ⟨some 57, .fa 6 (.t 3), (some (54, true))⟩, ⟨some 58, .ld none (.t 57), (some (54, true))⟩, ⟨some 59, .bin .num .eql (.t 56) (.t 58), (some (54, true))⟩, ⟨some 60, .pick (.t 54) (.t 59) (.c (.bool false)), none⟩, ⟨some 61, .mv (.t 60), none⟩, ⟨some 62, .fa 7 (.t 2), (some (61, true))⟩, ⟨some 63, .ld none (.t 62), (some (61, true))⟩, ⟨some 64, .fa 7 (.t 3), (some (61, true))⟩, ⟨some 65, .ld none (.t 64), (some (61, true))⟩, ⟨some 66, .bin .str .eql (.t 63) (.t 65), (some (61, true))⟩, ⟨some 67, .pick (.t 61) (.t 66) (.c (.bool false)), none⟩, ⟨some 4, .mv (.t 67), none⟩])
 (.ret)))⟩
def a50 : AFn := ⟨8, [.tmp 2],
 .seq (.reg [⟨some 1, .box 24 (.t 0), none⟩, ⟨some 2, .mv (.c (.int .i64 0)), none⟩])
 (.seq (.reg [⟨some 3, .alloc 3 [(.int .i64 0)], none⟩, ⟨none, .st 1 (.t 3) (.c (.int .i64 0)), none⟩])
 (.seq (.reg [⟨some 4, .ld (some 5) (.t 1), none⟩, ⟨some 5, .mkf 78 [] [(.t 3)], none⟩, ⟨some 6, .call .full 77 [(.t 4), (.t 5)], none⟩])
 (.seq (.reg [⟨some 7, .ld none (.t 3), none⟩, ⟨some 2, .mv (.t 7), none⟩])
 (.ret))))⟩
def a51 : AFn := ⟨30, [.tmp 4, .tmp 5, .tmp 6],
 .seq (.reg [⟨some 4, .mv (.c (.int .i64 0)), none⟩, ⟨some 5, .mv (.c (.int .i64 0)), none⟩, ⟨some 6, .mv (.c (.int .i64 0)), none⟩])
 (.seq (.dreg [(⟨some 8, .mv (.t 0), none⟩, 0), (⟨some 9, .nck (.t 8), none⟩, 1), (⟨some 10, .fa 1 (.t 9), none⟩, 3), (⟨some 11, .ld none (.t 10), none⟩, 7), (⟨some 12, .mv (.t 1), none⟩, 0), (⟨some 13, .ia 1 (.t 11) (.t 12), none⟩, 31), (⟨some 14, .ld none (.t 13), none⟩, 63), (⟨some 15, .mv (.t 0), none⟩, 0), (⟨some 16, .nck (.t 15), none⟩, 128), (⟨some 17, .fa 0 (.t 16), none⟩, 384), (⟨some 18, .ld none (.t 17), none⟩, 896), (⟨some 19, .mv (.t 1), none⟩, 0), (⟨some 20, .ia 5 (.t 18) (.t 19), none⟩, 3968), (⟨some 21, .fa 3 (.t 20), none⟩, 8064), (⟨some 22, .ld none (.t 21), none⟩, 16256), (⟨some 23, .len false (.t 22), none⟩, 32640), (⟨some 24, .bin .num .add (.t 14) (.t 23), none⟩, 65535), (⟨some 7, .mv (.t 24), none⟩, 131071)])
 (.seq (.reg [⟨some 25, .mv (.t 7), none⟩, ⟨some 26, .mv (.t 7), none⟩, ⟨some 27, .bin .num .add (.t 26) (.c (.int .i64 1)), none⟩, ⟨some 28, .mv (.t 7), none⟩, ⟨some 29, .bin .num .add (.t 28) (.c (.int .i64 2)), none⟩, ⟨some 4, .mv (.t 25), none⟩, ⟨some 5, .mv (.t 27), none⟩, ⟨some 6, .mv (.t 29), none⟩])
 (.ret)))⟩
def body52 : ACode := (.seq (.reg [⟨some 55, .bin .num .lss (.t 54) (.t 53), none⟩])
 (.seq (.cond (.t 55) (.skip) (.exit 2))
 (.seq (.block 3 (.seq (.reg [⟨some 56, .mv (.t 54), none⟩, ⟨some 57, .ia 5 (.t 52) (.t 54), none⟩, ⟨some 58, .ld (some 5) (.t 57), none⟩, ⟨some 12, .alloc 24 [(.int .i64 0), (.str ⟨#[]⟩), (.int .i64 0), .nils, (.int .i64 0)], none⟩, ⟨some 11, .mv (.t 56), none⟩, ⟨none, .st 5 (.t 12) (.t 58), none⟩])
 (.seq (.reg [⟨some 59, .fa 2 (.t 6), none⟩, ⟨some 60, .ld none (.t 59), none⟩, ⟨some 13, .mv (.t 60), none⟩])
 (.seq (.seq (.reg [⟨some 61, .fa 0 (.t 5), none⟩, ⟨some 62, .ld none (.t 61), none⟩, ⟨some 63, .bin .num .eql (.t 62) (.c (.int .i64 38)), none⟩, ⟨some 64, .mv (.t 63), none⟩, ⟨some 65, .mv (.t 11), (some (64, true))⟩, ⟨some 66, .bin .num .eql (.t 65) (.c (.int .i64 0)), (some (64, true))⟩, ⟨some 67, .pick (.t 64) (.t 66) (.c (.bool false)), none⟩])
 (.cond (.t 67) (.reg [⟨some 68, .mv (.t 0), none⟩, ⟨some 69, .fa 2 (.t 5), none⟩, ⟨some 70, .ld none (.t 69), none⟩, ⟨some 71, .call .no 82 [(.t 68), (.t 70)], none⟩, ⟨some 13, .mv (.t 71), none⟩]) (.skip)))
 (.dreg [(⟨some 72, .mv (.t 0), none⟩, 0), (⟨some 73, .ld (some 5) (.t 12), none⟩, 0), (⟨some 74, .ld none (.t 8), none⟩, 0), (⟨some 75, .mv (.t 11), none⟩, 0), (⟨some 76, .ia 1 (.t 74) (.t 75), none⟩, 12), (⟨some 77, .ld none (.t 76), none⟩, 28), (⟨some 78, .fa 1 (.t 6), none⟩, 0), (⟨some 79, .ld none (.t 78), none⟩, 64), (⟨some 80, .mv (.t 13), none⟩, 0), (⟨some 81, .build [(.int .i64 0), (.int .i64 0), (.int .i64 0)] [(0, 1, (.t 77)), (1, 1, (.t 79)), (2, 1, (.t 80))], none⟩, 508), (⟨some 82, .fa 0 (.t 5), none⟩, 0), (⟨some 83, .ld none (.t 82), none⟩, 1024), (⟨some 84, .bin .num .neq (.t 83) (.c (.int .i64 17)), none⟩, 3072), (⟨some 85, .mv (.t 84), none⟩, 7168), (⟨some 86, .mv (.t 11), (some (85, false))⟩, 15360), (⟨some 87, .bin .num .gtr (.t 86) (.c (.int .i64 0)), (some (85, false))⟩, 31744), (⟨some 88, .pick (.t 85) (.c (.bool true)) (.t 87), none⟩, 64512), (⟨some 89, .call .no 52 [(.t 72), (.t 73), (.t 81), (.t 88)], none⟩, 131071)])))))
 (.reg [⟨some 90, .bin .num .add (.t 54) (.c (.int .i64 1)), none⟩, ⟨some 54, .mv (.t 90), none⟩]))))
def a52 : AFn := ⟨91, [],
 .seq (.reg [⟨some 5, .box 24 (.t 1), none⟩, ⟨some 6, .box 87 (.t 2), none⟩])
 (.seq (.seq (.reg [⟨some 14, .fa 0 (.t 5), none⟩, ⟨some 15, .ld none (.t 14), none⟩, ⟨some 16, .bin .num .eql (.t 15) (.c (.int .i64 41)), none⟩, ⟨some 17, .mv (.t 16), none⟩, ⟨some 18, .fa 0 (.t 5), (some (17, false))⟩, ⟨some 19, .ld none (.t 18), (some (17, false))⟩, ⟨some 20, .bin .num .eql (.t 19) (.c (.int .i64 10)), (some (17, false))⟩, ⟨some 21, .pick (.t 17) (.c (.bool true)) (.t 20), none⟩])
 (.cond (.t 21) (.seq (.reg [⟨some 22, .mv (.t 0), none⟩, ⟨some 23, .ld (some 5) (.t 5), none⟩, ⟨some 24, .ld (some 3) (.t 6), none⟩, ⟨some 25, .call .no 79 [(.t 22), (.t 23), (.t 24)], none⟩])
 (.ret)) (.skip)))
 (.seq (.reg [⟨some 8, .alloc 53 [.nils], none⟩])
 (.seq (.seq (.reg [⟨some 26, .ld (some 5) (.t 5), none⟩, ⟨some 27, .fa 0 (.t 6), none⟩, ⟨some 28, .ld none (.t 27), none⟩, ⟨some 29, .call .no 80 [(.t 26), (.t 28)], none⟩])
 (.block 0 (.rf (.t 29) [30, 31] (.reg [⟨some 9, .mv (.t 30), none⟩]) (.block 1 (.reg [⟨some 32, .ld none (.t 8), none⟩, ⟨some 33, .mv (.t 9), none⟩, ⟨some 34, .bsl true 1 1 [(.int .i64 0)] [(0, 1, (.t 33))], none⟩, ⟨some 35, .app 1 8 (.t 32) (.t 34), none⟩, ⟨none, .st 1 (.t 8) (.t 35), none⟩])))))
 (.seq (.seq (.dreg [(⟨some 36, .mv (.t 0), none⟩, 0), (⟨some 37, .call .no 81 [(.t 36)], none⟩, 1), (⟨some 38, .fa 0 (.t 5), none⟩, 0), (⟨some 39, .ld none (.t 38), none⟩, 4), (⟨some 40, .lkp false .nilf false (.t 37) (.t 39), none⟩, 15), (⟨some 10, .mv (.t 40), none⟩, 31)])
 (.seq (.reg [⟨some 41, .mv (.t 10), none⟩, ⟨some 42, .bin .fnc .neq (.t 41) (.c .nilf), none⟩, ⟨some 43, .mv (.t 42), none⟩, ⟨some 44, .mv (.t 3), (some (43, true))⟩, ⟨some 45, .pick (.t 43) (.t 44) (.c (.bool false)), none⟩])
 (.cond (.t 45) (.reg [⟨some 46, .mv (.t 10), none⟩, ⟨some 47, .ld (some 5) (.t 5), none⟩, ⟨some 48, .ld (some 3) (.t 6), none⟩, ⟨some 49, .ld none (.t 8), none⟩, ⟨some 50, .callv .no (.t 46) [(.t 47), (.t 48), (.t 49)], none⟩]) (.skip))))
 (.seq (.reg [⟨some 51, .fa 3 (.t 5), none⟩, ⟨some 52, .ld none (.t 51), none⟩, ⟨some 53, .len false (.t 52), none⟩, ⟨some 54, .mv (.c (.int .i64 0)), none⟩])
 (.block 2 (.loop body52)))))))⟩
def a56 : AFn := ⟨26, [.tmp 4],
 .seq (.reg [⟨some 4, .mv (.c (.bool false)), none⟩])
 (.seq (.seq (.reg [⟨some 6, .mv (.t 0), none⟩, ⟨some 7, .len false (.t 6), none⟩, ⟨some 8, .mv (.t 1), none⟩, ⟨some 9, .len false (.t 8), none⟩, ⟨some 10, .bin .num .neq (.t 7) (.t 9), none⟩])
 (.cond (.t 10) (.seq (.reg [⟨some 4, .mv (.c (.bool false)), none⟩])
 (.ret)) (.skip)))
 (.seq (.seq (.reg [⟨some 5, .mv (.c (.int .i64 0)), none⟩])
 (.block 0 (.loop (.seq (.seq (.reg [⟨some 11, .mv (.t 5), none⟩, ⟨some 12, .mv (.t 0), none⟩, ⟨some 13, .len false (.t 12), none⟩, ⟨some 14, .bin .num .lss (.t 11) (.t 13), none⟩])
 (.cond (.t 14) (.skip) (.exit 0)))
 (.seq (.block 1 (.seq (.dreg [(⟨some 17, .mv (.t 0), none⟩, 0), (⟨some 18, .mv (.t 5), none⟩, 0), (⟨some 19, .ia 1 (.t 17) (.t 18), none⟩, 3), (⟨some 20, .ld none (.t 19), none⟩, 7), (⟨some 21, .mv (.t 1), none⟩, 0), (⟨some 22, .mv (.t 5), none⟩, 0), (⟨some 23, .ia 1 (.t 21) (.t 22), none⟩, 48), (⟨some 24, .ld none (.t 23), none⟩, 112), (⟨some 25, .bin .num .neq (.t 20) (.t 24), none⟩, 255)])
 (.cond (.t 25) (.seq (.reg [⟨some 4, .mv (.c (.bool false)), none⟩])
 (.ret)) (.skip))))
 (.reg [⟨some 15, .mv (.t 5), none⟩, ⟨some 16, .bin .num .add (.t 15) (.c (.int .i64 1)), none⟩, ⟨some 5, .mv (.t 16), none⟩]))))))
 (.seq (.reg [⟨some 4, .mv (.c (.bool true)), none⟩])
 (.ret))))⟩
def a57 : AFn := ⟨38, [.tmp 0],
 .seq (.reg [⟨some 0, .mv (.c .nilm), none⟩])
 (.seq (.reg [⟨some 1, .mkm, none⟩, ⟨some 2, .build [.nilf, (.int .i64 0), (.int .i64 0)] [(0, 1, (.c (.fn 87 [] []))), (1, 1, (.c (.int .i64 0))), (2, 1, (.c (.int .i64 0)))], none⟩, ⟨none, .upd false (.t 1) (.c (.int .i64 1)) (.t 2), none⟩, ⟨some 3, .build [.nilf, (.int .i64 0), (.int .i64 0)] [(0, 1, (.c (.fn 88 [] []))), (1, 1, (.c (.int .i64 0))), (2, 1, (.c (.int .i64 0)))], none⟩, ⟨none, .upd false (.t 1) (.c (.int .i64 2)) (.t 3), none⟩, ⟨some 4, .build [.nilf, (.int .i64 0), (.int .i64 0)] [(0, 1, (.c (.fn 89 [] []))), (1, 1, (.c (.int .i64 0))), (2, 1, (.c (.int .i64 0)))], none⟩, ⟨none, .upd false (.t 1) (.c (.int .i64 3)) (.t 4), none⟩, ⟨some 5, .build [.nilf, (.int .i64 0), (.int .i64 0)] [(0, 1, (.c (.fn 88 [] []))), (1, 1, (.c (.int .i64 0))), (2, 1, (.c (.int .i64 0)))], none⟩, ⟨none, .upd false (.t 1) (.c (.int .i64 4)) (.t 5), none⟩, ⟨some 6, .build [.nilf, (.int .i64 0), (.int .i64 0)] [(0, 1, (.c (.fn 88 [] []))), (1, 1, (.c (.int .i64 0))), (2, 1, (.c (.int .i64 0)))], none⟩, ⟨none, .upd false (.t 1) (.c (.int .i64 5)) (.t 6), none⟩, ⟨some 7, .build [.nilf, (.int .i64 0), (.int .i64 0)] [(0, 1, (.c (.fn 88 [] []))), (1, 1, (.c (.int .i64 0))), (2, 1, (.c (.int .i64 0)))], none⟩, ⟨none, .upd false (.t 1) (.c (.int .i64 6)) (.t 7), none⟩, ⟨some 8, .build [.nilf, (.int .i64 0), (.int .i64 0)] [(0, 1, (.c (.fn 88 [] []))), (1, 1, (.c (.int .i64 0))), (2, 1, (.c (.int .i64 0)))], none⟩, ⟨none, .upd false (.t 1) (.c (.int .i64 7)) (.t 8), none⟩, ⟨some 9, .build [.nilf, (.int .i64 0), (.int .i64 0)] [(0, 1, (.c (.fn 88 [] []))), (1, 1, (.c (.int .i64 0))), (2, 1, (.c (.int .i64 0)))], none⟩, ⟨none, .upd false (.t 1) (.c (.int .i64 8)) (.t 9), none⟩, ⟨some 10, .build [.nilf, (.int .i64 0), (.int .i64 0)] [(0, 1, (.c (.fn 88 [] []))), (1, 1, (.c (.int .i64 0))), (2, 1, (.c (.int .i64 0)))], none⟩, ⟨none, .upd false (.t 1) (.c (.int .i64 9)) (.t 10), none⟩, ⟨some 11, .build [.nilf, (.int .i64 0), (.int .i64 0)] [(0, 1, (.c (.fn 90 [] []))), (1, 1, (.c (.int .i64 1))), (2, 1, (.c (.int .i64 201)))], none⟩, ⟨none, .upd false (.t 1) (.c (.int .i64 10)) (.t 11), none⟩, ⟨some 12, .build [.nilf, (.int .i64 0), (.int .i64 0)] [(0, 1, (.c (.fn 88 [] []))), (1, 1, (.c (.int .i64 0))), (2, 1, (.c (.int .i64 200)))], none⟩, ⟨none, .upd false (.t 1) (.c (.int .i64 11)) (.t 12), none⟩, ⟨some 13, .build [.nilf, (.int .i64 0), (.int .i64 0)] [(0, 1, (.c (.fn 89 [] []))), (1, 1, (.c (.int .i64 1))), (2, 1, (.c (.int .i64 1)))], none⟩, ⟨none, .upd false (.t 1) (.c (.int .i64 12)) (.t 13), none⟩, ⟨some 14, .build [.nilf, (.int .i64 0), (.int .i64 0)] [(0, 1, (.c (.fn 91 [] []))), (1, 1, (.c (.int .i64 1))), (2, 1, (.c (.int .i64 1)))], none⟩, ⟨none, .upd false (.t 1) (.c (.int .i64 13)) (.t 14), none⟩, ⟨some 15, .build [.nilf, (.int .i64 0), (.int .i64 0)] [(0, 1, (.c (.fn 88 [] []))), (1, 1, (.c (.int .i64 2))), (2, 1, (.c (.int .i64 2)))], none⟩, ⟨none, .upd false (.t 1) (.c (.int .i64 14)) (.t 15), none⟩, ⟨some 16, .build [.nilf, (.int .i64 0), (.int .i64 0)] [(0, 1, (.c (.fn 88 [] []))), (1, 1, (.c (.int .i64 1))), (2, 1, (.c (.int .i64 200)))], none⟩, ⟨none, .upd false (.t 1) (.c (.int .i64 15)) (.t 16), none⟩, ⟨some 17, .build [.nilf, (.int .i64 0), (.int .i64 0)] [(0, 1, (.c (.fn 88 [] []))), (1, 1, (.c (.int .i64 1))), (2, 1, (.c (.int .i64 200)))], none⟩, ⟨none, .upd false (.t 1) (.c (.int .i64 16)) (.t 17), none⟩, ⟨some 18, .build [.nilf, (.int .i64 0), (.int .i64 0)] [(0, 1, (.c (.fn 88 [] []))), (1, 1, (.c (.int .i64 2))), (2, 1, (.c (.int .i64 2)))], none⟩, ⟨none, .upd false (.t 1) (.c (.int .i64 17)) (.t 18), none⟩, ⟨some 19, .build [.nilf, (.int .i64 0), (.int .i64 0)] [(0, 1, (.c (.fn 92 [] []))), (1, 1, (.c (.int .i64 2))), (2, 1, (.c (.int .i64 2)))], none⟩, ⟨none, .upd false (.t 1) (.c (.int .i64 18)) (.t 19), none⟩, ⟨some 20, .build [.nilf, (.int .i64 0), (.int .i64 0)] [(0, 1, (.c (.fn 88 [] []))), (1, 1, (.c (.int .i64 1))), (2, 1, (.c (.int .i64 1)))], none⟩, ⟨none, .upd false (.t 1) (.c (.int .i64 19)) (.t 20), none⟩, ⟨some 21, .build [.nilf, (.int .i64 0), (.int .i64 0)] [(0, 1, (.c (.fn 88 [] []))), (1, 1, (.c (.int .i64 1))), (2, 1, (.c (.int .i64 1)))], none⟩, ⟨none, .upd false (.t 1) (.c (.int .i64 20)) (.t 21), none⟩, ⟨some 22, .build [.nilf, (.int .i64 0), (.int .i64 0)] [(0, 1, (.c (.fn 88 [] []))), (1, 1, (.c (.int .i64 2))), (2, 1, (.c (.int .i64 2)))], none⟩, ⟨none, .upd false (.t 1) (.c (.int .i64 21)) (.t 22), none⟩, ⟨some 23, .build [.nilf, (.int .i64 0), (.int .i64 0)] [(0, 1, (.c (.fn 88 [] []))), (1, 1, (.c (.int .i64 2))), (2, 1, (.c (.int .i64 2)))], none⟩, ⟨none, .upd false (.t 1) (.c (.int .i64 22)) (.t 23), none⟩, ⟨some 24, .build [.nilf, (.int .i64 0), (.int .i64 0)] [(0, 1, (.c (.fn 88 [] []))), (1, 1, (.c (.int .i64 3))), (2, 1, (.c (.int .i64 3)))], none⟩, ⟨none, .upd false (.t 1) (.c (.int .i64 23)) (.t 24), none⟩, ⟨some 25, .build [.nilf, (.int .i64 0), (.int .i64 0)] [(0, 1, (.c (.fn 87 [] []))), (1, 1, (.c (.int .i64 0))), (2, 1, (.c (.int .i64 1)))], none⟩, ⟨none, .upd false (.t 1) (.c (.int .i64 30)) (.t 25), none⟩, ⟨some 26, .build [.nilf, (.int .i64 0), (.int .i64 0)] [(0, 1, (.c (.fn 88 [] []))), (1, 1, (.c (.int .i64 1))), (2, 1, (.c (.int .i64 1)))], none⟩, ⟨none, .upd false (.t 1) (.c (.int .i64 31)) (.t 26), none⟩, ⟨some 27, .build [.nilf, (.int .i64 0), (.int .i64 0)] [(0, 1, (.c (.fn 88 [] []))), (1, 1, (.c (.int .i64 0))), (2, 1, (.c (.int .i64 1073741824)))], none⟩, ⟨none, .upd false (.t 1) (.c (.int .i64 32)) (.t 27), none⟩, ⟨some 28, .build [.nilf, (.int .i64 0), (.int .i64 0)] [(0, 1, (.c (.fn 88 [] []))), (1, 1, (.c (.int .i64 2))), (2, 1, (.c (.int .i64 3)))], none⟩, ⟨none, .upd false (.t 1) (.c (.int .i64 33)) (.t 28), none⟩, ⟨some 29, .build [.nilf, (.int .i64 0), (.int .i64 0)] [(0, 1, (.c (.fn 88 [] []))), (1, 1, (.c (.int .i64 2))), (2, 1, (.c (.int .i64 2)))], none⟩, ⟨none, .upd false (.t 1) (.c (.int .i64 34)) (.t 29), none⟩, ⟨some 30, .build [.nilf, (.int .i64 0), (.int .i64 0)] [(0, 1, (.c (.fn 87 [] []))), (1, 1, (.c (.int .i64 2))), (2, 1, (.c (.int .i64 2)))], none⟩, ⟨none, .upd false (.t 1) (.c (.int .i64 35)) (.t 30), none⟩, ⟨some 31, .build [.nilf, (.int .i64 0), (.int .i64 0)] [(0, 1, (.c (.fn 88 [] []))), (1, 1, (.c (.int .i64 0))), (2, 1, (.c (.int .i64 1)))], none⟩, ⟨none, .upd false (.t 1) (.c (.int .i64 36)) (.t 31), none⟩, ⟨some 32, .build [.nilf, (.int .i64 0), (.int .i64 0)] [(0, 1, (.c (.fn 88 [] []))), (1, 1, (.c (.int .i64 1))), (2, 1, (.c (.int .i64 1)))], none⟩, ⟨none, .upd false (.t 1) (.c (.int .i64 37)) (.t 32), none⟩, ⟨some 33, .build [.nilf, (.int .i64 0), (.int .i64 0)] [(0, 1, (.c (.fn 87 [] []))), (1, 1, (.c (.int .i64 2))), (2, 1, (.c (.int .i64 2)))], none⟩, ⟨none, .upd false (.t 1) (.c (.int .i64 38)) (.t 33), none⟩, ⟨some 34, .build [.nilf, (.int .i64 0), (.int .i64 0)] [(0, 1, (.c (.fn 88 [] []))), (1, 1, (.c (.int .i64 0))), (2, 1, (.c (.int .i64 0)))], none⟩, ⟨none, .upd false (.t 1) (.c (.int .i64 39)) (.t 34), none⟩, ⟨some 35, .build [.nilf, (.int .i64 0), (.int .i64 0)] [(0, 1, (.c (.fn 88 [] []))), (1, 1, (.c (.int .i64 0))), (2, 1, (.c (.int .i64 0)))], none⟩, ⟨none, .upd false (.t 1) (.c (.int .i64 40)) (.t 35), none⟩, ⟨some 36, .build [.nilf, (.int .i64 0), (.int .i64 0)] [(0, 1, (.c (.fn 87 [] []))), (1, 1, (.c (.int .i64 1))), (2, 1, (.c (.int .i64 201)))], none⟩, ⟨none, .upd false (.t 1) (.c (.int .i64 41)) (.t 36), none⟩, ⟨some 37, .mv (.t 1), none⟩, ⟨some 0, .mv (.t 37), none⟩])
 (.ret))⟩
def a58 : AFn := ⟨90, [.tmp 6],
 .seq (.reg [⟨some 4, .box 24 (.t 1), none⟩, ⟨some 6, .mv (.c (.bool false)), none⟩])
 (.seq (.reg [⟨some 12, .mv (.t 0), none⟩, ⟨some 13, .fa 0 (.t 4), none⟩, ⟨some 14, .ld none (.t 13), none⟩, ⟨some 15, .lkp false (.agg [.nilf, (.int .i64 0), (.int .i64 0)]) true (.t 12) (.t 14), none⟩, ⟨some 11, .mv (.t 15), none⟩, ⟨some 16, .ext 0 (.t 11), none⟩, ⟨some 17, .ext 1 (.t 11), none⟩, ⟨some 7, .alloc 146 [.nilf, (.int .i64 0), (.int .i64 0)], none⟩, ⟨none, .st 3 (.t 7) (.t 16), none⟩, ⟨some 8, .mv (.t 17), none⟩])
 (.seq (.seq (.reg [⟨some 18, .mv (.t 2), none⟩, ⟨some 19, .bin .num .eql (.t 18) (.c (.int .i64 0)), none⟩, ⟨some 20, .mv (.t 19), none⟩, ⟨some 21, .mv (.t 8), (some (20, false))⟩, ⟨some 22, .un .not (.t 21), (some (20, false))⟩, ⟨some 23, .pick (.t 20) (.c (.bool true)) (.t 22), none⟩, ⟨some 24, .mv (.t 23), none⟩, ⟨some 25, .fa 0 (.t 7), (some (24, false))⟩, ⟨some 26, .ld none (.t 25), (some (24, false))⟩, ⟨some 27, .fa 1 (.t 4), (some (24, false))⟩, ⟨some 28, .ld none (.t 27), (some (24, false))⟩, ⟨some 29, .callv .no (.t 26) [(.t 28)], (some (24, false))⟩, ⟨some 30, .un .not (.t 29), (some (24, false))⟩, ⟨some 31, .pick (.t 24) (.c (.bool true)) (.t 30), none⟩, ⟨some 32, .mv (.t 31), none⟩, ⟨some 33, .fa 3 (.t 4), (some (32, false))⟩, ⟨some 34, .ld none (.t 33), (some (32, false))⟩, ⟨some 35, .len false (.t 34), (some (32, false))⟩, ⟨some 36, .fa 1 (.t 7), (some (32, false))⟩, ⟨some 37, .ld none (.t 36), (some (32, false))⟩, ⟨some 38, .bin .num .lss (.t 35) (.t 37), (some (32, false))⟩, ⟨some 39, .pick (.t 32) (.c (.bool true)) (.t 38), none⟩, ⟨some 40, .mv (.t 39), none⟩, ⟨some 41, .fa 3 (.t 4), (some (40, false))⟩, ⟨some 42, .ld none (.t 41), (some (40, false))⟩, ⟨some 43, .len false (.t 42), (some (40, false))⟩, ⟨some 44, .fa 2 (.t 7), (some (40, false))⟩, ⟨some 45, .ld none (.t 44), (some (40, false))⟩, ⟨some 46, .bin .num .gtr (.t 43) (.t 45), (some (40, false))⟩, ⟨some 47, .pick (.t 40) (.c (.bool true)) (.t 46), none⟩])
 (.cond (.t 47) (.seq (.reg [⟨some 6, .mv (.c (.bool false)), none⟩])
 (.ret)) (.skip)))
 (.seq (.seq (.reg [⟨some 48, .fa 2 (.t 4), none⟩, ⟨some 49, .ld none (.t 48), none⟩, ⟨some 50, .bin .num .neq (.t 49) (.c (.int .i64 0)), none⟩, ⟨some 51, .mv (.t 50), none⟩, ⟨some 52, .fa 0 (.t 4), (some (51, true))⟩, ⟨some 53, .ld none (.t 52), (some (51, true))⟩, ⟨some 54, .bin .num .neq (.t 53) (.c (.int .i64 2)), (some (51, true))⟩, ⟨some 55, .mv (.t 54), (some (51, true))⟩, ⟨some 56, .fa 2 (.t 4), (some (55, false))⟩, ⟨some 57, .ld none (.t 56), (some (55, false))⟩, ⟨some 58, .bin .num .lss (.t 57) (.c (.int .i64 0)), (some (55, false))⟩, ⟨some 59, .pick (.t 55) (.c (.bool true)) (.t 58), (some (51, true))⟩, ⟨some 60, .mv (.t 59), (some (51, true))⟩, ⟨some 61, .fa 2 (.t 4), (some (60, false))⟩, ⟨some 62, .ld none (.t 61), (some (60, false))⟩, ⟨some 63, .bin .num .gtr (.t 62) (.c (.int .i64 999999999999999)), (some (60, false))⟩, ⟨some 64, .pick (.t 60) (.c (.bool true)) (.t 63), (some (51, true))⟩, ⟨some 65, .pick (.t 51) (.t 64) (.c (.bool false)), none⟩])
 (.cond (.t 65) (.seq (.reg [⟨some 6, .mv (.c (.bool false)), none⟩])
 (.ret)) (.skip)))
 (.seq (.seq (.reg [⟨some 66, .fa 3 (.t 4), none⟩, ⟨some 67, .ld none (.t 66), none⟩, ⟨some 68, .len false (.t 67), none⟩, ⟨some 69, .mv (.c (.int .i64 0)), none⟩])
 (.block 0 (.loop (.seq (.reg [⟨some 70, .bin .num .lss (.t 69) (.t 68), none⟩])
 (.seq (.cond (.t 70) (.skip) (.exit 0))
 (.seq (.block 1 (.seq (.reg [⟨some 71, .mv (.t 69), none⟩, ⟨some 72, .ia 5 (.t 67) (.t 69), none⟩, ⟨some 73, .ld (some 5) (.t 72), none⟩, ⟨some 10, .alloc 24 [(.int .i64 0), (.str ⟨#[]⟩), (.int .i64 0), .nils, (.int .i64 0)], none⟩, ⟨some 9, .mv (.t 71), none⟩, ⟨none, .st 5 (.t 10) (.t 73), none⟩])
 (.seq (.dreg [(⟨some 74, .ld (some 5) (.t 4), none⟩, 0), (⟨some 75, .mv (.t 9), none⟩, 0), (⟨some 76, .call .no 93 [(.t 74), (.t 75)], none⟩, 3), (⟨some 77, .fa 0 (.t 10), none⟩, 0), (⟨some 78, .ld none (.t 77), none⟩, 8), (⟨some 79, .callv .quiet (.t 76) [(.t 78)], none⟩, 31), (⟨some 80, .un .not (.t 79), none⟩, 63), (⟨some 81, .mv (.t 80), none⟩, 127), (⟨some 82, .mv (.t 0), (some (81, false))⟩, 255), (⟨some 83, .ld (some 5) (.t 10), (some (81, false))⟩, 255), (⟨some 84, .mv (.t 2), (some (81, false))⟩, 255), (⟨some 85, .bin .num .sub (.t 84) (.c (.int .i64 1)), (some (81, false))⟩, 1279), (⟨some 86, .call .full 58 [(.t 82), (.t 83), (.t 85)], (some (81, false))⟩, 4095), (⟨some 87, .un .not (.t 86), (some (81, false))⟩, 8191), (⟨some 88, .pick (.t 81) (.c (.bool true)) (.t 87), none⟩, 16383)])
 (.cond (.t 88) (.seq (.reg [⟨some 6, .mv (.c (.bool false)), none⟩])
 (.ret)) (.skip)))))
 (.reg [⟨some 89, .bin .num .add (.t 69) (.c (.int .i64 1)), none⟩, ⟨some 69, .mv (.t 89), none⟩])))))))
 (.seq (.reg [⟨some 6, .mv (.c (.bool true)), none⟩])
 (.ret))))))⟩
def a60 : AFn := ⟨47, [.tmp 2],
 .seq (.reg [⟨some 2, .mv (.c .nili), none⟩])
 (.seq (.reg [⟨some 3, .mv (.c (.int .i64 0)), none⟩])
 (.seq (.seq (.reg [⟨some 9, .mv (.t 0), none⟩, ⟨some 10, .len false (.t 9), none⟩, ⟨some 11, .mv (.c (.int .i64 0)), none⟩])
 (.block 0 (.loop (.seq (.reg [⟨some 12, .bin .num .lss (.t 11) (.t 10), none⟩])
 (.seq (.cond (.t 12) (.skip) (.exit 0))
 (.seq (.block 1 (.seq (.reg [⟨some 13, .ia 1 (.t 9) (.t 11), none⟩, ⟨some 14, .ld none (.t 13), none⟩, ⟨some 5, .mv (.t 14), none⟩])
 (.seq (.reg [⟨some 15, .mv (.t 5), none⟩, ⟨some 16, .bin .ifc .neq (.t 15) (.c .nili), none⟩])
 (.cond (.t 16) (.reg [⟨some 17, .mv (.t 3), none⟩, ⟨some 18, .bin .num .add (.t 17) (.c (.int .i64 1)), none⟩, ⟨some 3, .mv (.t 18), none⟩]) (.skip)))))
 (.reg [⟨some 19, .bin .num .add (.t 11) (.c (.int .i64 1)), none⟩, ⟨some 11, .mv (.t 19), none⟩])))))))
 (.seq (.seq (.reg [⟨some 20, .mv (.t 3), none⟩, ⟨some 21, .bin .num .eql (.t 20) (.c (.int .i64 0)), none⟩])
 (.cond (.t 21) (.seq (.reg [⟨some 2, .mv (.c .nili), none⟩])
 (.ret)) (.skip)))
 (.seq (.reg [⟨some 22, .mv (.t 3), none⟩, ⟨some 23, .mks 1 16 [.nili] (.c (.int .i64 0)) (.t 22), none⟩, ⟨some 24, .build [.nils] [(0, 1, (.t 23))], none⟩, ⟨some 25, .box 153 (.t 24), none⟩, ⟨some 6, .mv (.t 25), none⟩])
 (.seq (.seq (.reg [⟨some 26, .mv (.t 0), none⟩, ⟨some 27, .len false (.t 26), none⟩, ⟨some 28, .mv (.c (.int .i64 0)), none⟩])
 (.block 2 (.loop (.seq (.reg [⟨some 29, .bin .num .lss (.t 28) (.t 27), none⟩])
 (.seq (.cond (.t 29) (.skip) (.exit 2))
 (.seq (.block 3 (.seq (.reg [⟨some 30, .ia 1 (.t 26) (.t 28), none⟩, ⟨some 31, .ld none (.t 30), none⟩, ⟨some 8, .mv (.t 31), none⟩])
 (.seq (.reg [⟨some 32, .mv (.t 8), none⟩, ⟨some 33, .bin .ifc .neq (.t 32) (.c .nili), none⟩])
 (.cond (.t 33) (.reg [⟨some 34, .mv (.t 6), none⟩, ⟨some 35, .mv (.t 6), none⟩, ⟨some 36, .nck (.t 35), none⟩, ⟨some 37, .fa 0 (.t 36), none⟩, ⟨some 38, .ld none (.t 37), none⟩, ⟨some 39, .mv (.t 8), none⟩, ⟨some 40, .bsl true 1 1 [.nili] [(0, 1, (.t 39))], none⟩, ⟨some 41, .app 1 16 (.t 38) (.t 40), none⟩, ⟨some 42, .nck (.t 34), none⟩, ⟨some 43, .fa 0 (.t 42), none⟩, ⟨none, .st 1 (.t 43) (.t 41), none⟩]) (.skip)))))
 (.reg [⟨some 44, .bin .num .add (.t 28) (.c (.int .i64 1)), none⟩, ⟨some 28, .mv (.t 44), none⟩])))))))
 (.seq (.reg [⟨some 45, .mv (.t 6), none⟩, ⟨some 46, .mki 151 (.t 45), none⟩, ⟨some 2, .mv (.t 46), none⟩])
 (.ret)))))))⟩
def a61 : AFn := ⟨41, [.tmp 6],
 .seq (.reg [⟨some 6, .mv (.c (.int .i64 0)), none⟩])
 (.seq (.seq (.reg [⟨some 7, .mv (.t 0), none⟩, ⟨some 8, .nck (.t 7), none⟩, ⟨some 9, .fa 0 (.t 8), none⟩, ⟨some 10, .ld none (.t 9), none⟩, ⟨some 11, .len false (.t 10), none⟩, ⟨some 12, .bin .num .eql (.t 11) (.c (.int .i64 500)), none⟩, ⟨some 13, .mv (.t 12), none⟩, ⟨some 14, .mv (.t 1), (some (13, false))⟩, ⟨some 15, .nck (.t 14), (some (13, false))⟩, ⟨some 16, .fa 0 (.t 15), (some (13, false))⟩, ⟨some 17, .fa 3 (.t 16), (some (13, false))⟩, ⟨some 18, .ld none (.t 17), (some (13, false))⟩, ⟨some 19, .len false (.t 18), (some (13, false))⟩, ⟨some 20, .bin .num .gtr (.t 19) (.c (.int .i64 200)), (some (13, false))⟩, ⟨some 21, .pick (.t 13) (.c (.bool true)) (.t 20), none⟩])
 (.cond (.t 21) (.reg [⟨some 22, .mv (.t 2), none⟩, ⟨some 23, .build [(.int .i64 0), (.int .i64 0)] [(0, 1, (.c (.int .i64 52))), (1, 1, (.t 22))], none⟩, ⟨some 24, .mki 65 (.t 23), none⟩, ⟨none, .pan (.t 24), none⟩]) (.skip)))
 (.seq (.reg [⟨some 25, .mv (.t 0), none⟩, ⟨some 26, .mv (.t 0), none⟩, ⟨some 27, .nck (.t 26), none⟩, ⟨some 28, .fa 0 (.t 27), none⟩, ⟨some 29, .ld none (.t 28), none⟩, ⟨some 30, .mv (.t 1), none⟩, ⟨some 31, .bsl true 1 1 [.nilp] [(0, 1, (.t 30))], none⟩, ⟨some 32, .app 1 8 (.t 29) (.t 31), none⟩, ⟨some 33, .nck (.t 25), none⟩, ⟨some 34, .fa 0 (.t 33), none⟩, ⟨none, .st 1 (.t 34) (.t 32), none⟩])
 (.seq (.reg [⟨some 35, .mv (.t 0), none⟩, ⟨some 36, .nck (.t 35), none⟩, ⟨some 37, .fa 0 (.t 36), none⟩, ⟨some 38, .ld none (.t 37), none⟩, ⟨some 39, .len false (.t 38), none⟩, ⟨some 40, .bin .num .sub (.t 39) (.c (.int .i64 1)), none⟩, ⟨some 6, .mv (.t 40), none⟩])
 (.ret))))⟩
def a62 : AFn := ⟨58, [.tmp 8],
 .seq (.reg [⟨some 4, .box 43 (.t 0), none⟩, ⟨some 7, .box 24 (.t 3), none⟩, ⟨some 8, .mv (.c .nilp), none⟩])
 (.seq (.reg [⟨some 13, .ld (some 5) (.t 4), none⟩, ⟨some 14, .mkm, none⟩, ⟨some 15, .build [(.int .i64 0), (.str ⟨#[]⟩), (.int .i64 0), .nils, (.int .i64 0), .nilm] [(0, 5, (.t 13)), (5, 1, (.t 14))], none⟩, ⟨some 16, .box 108 (.t 15), none⟩, ⟨some 9, .alloc 104 [.nilp], none⟩, ⟨none, .st 1 (.t 9) (.t 16), none⟩])
 (.seq (.seq (.reg [⟨some 17, .mv (.t 1), none⟩, ⟨some 18, .len false (.t 17), none⟩, ⟨some 19, .mv (.c (.int .i64 0)), none⟩])
 (.block 0 (.loop (.seq (.reg [⟨some 20, .bin .num .lss (.t 19) (.t 18), none⟩])
 (.seq (.cond (.t 20) (.skip) (.exit 0))
 (.seq (.block 1 (.seq (.reg [⟨some 21, .ia 5 (.t 17) (.t 19), none⟩, ⟨some 22, .ld (some 5) (.t 21), none⟩, ⟨some 11, .alloc 24 [(.int .i64 0), (.str ⟨#[]⟩), (.int .i64 0), .nils, (.int .i64 0)], none⟩, ⟨none, .st 5 (.t 11) (.t 22), none⟩])
 (.reg [⟨some 23, .ld none (.t 9), none⟩, ⟨some 24, .fa 1 (.t 11), none⟩, ⟨some 25, .ld none (.t 24), none⟩, ⟨some 26, .call .no 94 [(.t 23), (.t 25)], none⟩])))
 (.reg [⟨some 27, .bin .num .add (.t 19) (.c (.int .i64 1)), none⟩, ⟨some 19, .mv (.t 27), none⟩])))))))
 (.seq (.dreg [(⟨some 28, .ld none (.t 9), none⟩, 0), (⟨some 29, .ld none (.t 9), none⟩, 0), (⟨some 30, .nck (.t 29), none⟩, 2), (⟨some 31, .fa 0 (.t 30), none⟩, 6), (⟨some 32, .fa 3 (.t 31), none⟩, 14), (⟨some 33, .ld none (.t 32), none⟩, 30), (⟨some 34, .len false (.t 33), none⟩, 62), (⟨some 35, .nck (.t 28), none⟩, 127), (⟨some 36, .fa 0 (.t 35), none⟩, 255), (⟨some 37, .fa 2 (.t 36), none⟩, 511), (⟨none, .st 1 (.t 37) (.t 34), none⟩, 1023)])
 (.seq (.seq (.reg [⟨some 38, .mv (.t 2), none⟩, ⟨some 39, .bin .str .neq (.t 38) (.c (.str ⟨#[]⟩)), none⟩])
 (.cond (.t 39) (.reg [⟨some 40, .ld none (.t 9), none⟩, ⟨some 41, .mv (.t 2), none⟩, ⟨some 42, .call .no 94 [(.t 40), (.t 41)], none⟩]) (.skip)))
 (.seq (.seq (.reg [⟨some 43, .ld (some 5) (.t 7), none⟩, ⟨some 44, .call .no 95 [(.t 43)], none⟩])
 (.block 2 (.rf (.t 44) [45] (.reg [⟨some 12, .alloc 24 [(.int .i64 0), (.str ⟨#[]⟩), (.int .i64 0), .nils, (.int .i64 0)], none⟩, ⟨none, .st 5 (.t 12) (.t 45), none⟩]) (.block 3 (.seq (.reg [⟨some 46, .fa 0 (.t 12), none⟩, ⟨some 47, .ld none (.t 46), none⟩])
 (.block 4 (.seq (.seq (.reg [⟨some 49, .bin .num .eql (.t 47) (.c (.int .i64 30)), none⟩, ⟨some 48, .mv (.t 49), none⟩])
 (.cond (.t 48) (.skip) (.seq (.reg [⟨some 50, .bin .num .eql (.t 47) (.c (.int .i64 35)), none⟩, ⟨some 48, .mv (.t 50), none⟩])
 (.cond (.t 48) (.skip) (.seq (.reg [⟨some 51, .bin .num .eql (.t 47) (.c (.int .i64 38)), none⟩, ⟨some 48, .mv (.t 51), none⟩])
 (.cond (.t 48) (.skip) (.reg [⟨some 52, .bin .num .eql (.t 47) (.c (.int .i64 41)), none⟩, ⟨some 48, .mv (.t 52), none⟩])))))))
 (.cond (.t 48) (.reg [⟨some 53, .ld none (.t 9), none⟩, ⟨some 54, .fa 1 (.t 12), none⟩, ⟨some 55, .ld none (.t 54), none⟩, ⟨some 56, .call .no 94 [(.t 53), (.t 55)], none⟩]) (.skip)))))))))
 (.seq (.reg [⟨some 57, .ld none (.t 9), none⟩, ⟨some 8, .mv (.t 57), none⟩])
 (.ret)))))))⟩
def a63 : AFn := ⟨93, [.cell 8 (some 5)],
 .seq (.reg [⟨some 5, .box 24 (.t 1), none⟩, ⟨some 8, .alloc 24 [(.int .i64 0), (.str ⟨#[]⟩), (.int .i64 0), .nils, (.int .i64 0)], none⟩])
 (.seq (.seq (.reg [⟨some 13, .ld (some 5) (.t 5), none⟩, ⟨some 14, .call .full 96 [(.t 13)], none⟩])
 (.cond (.t 14) (.seq (.reg [⟨some 15, .mv (.t 0), none⟩, ⟨some 16, .ld (some 5) (.t 5), none⟩, ⟨some 17, .mv (.t 2), none⟩, ⟨some 18, .call .no 97 [(.t 15), (.t 16), (.t 17)], none⟩, ⟨none, .st 5 (.t 8) (.t 18), none⟩])
 (.ret)) (.skip)))
 (.seq (.reg [⟨some 9, .mv (.c (.int .i64 0)), none⟩])
 (.seq (.seq (.reg [⟨some 19, .fa 0 (.t 5), none⟩, ⟨some 20, .ld none (.t 19), none⟩])
 (.block 0 (.seq (.reg [⟨some 22, .bin .num .eql (.t 20) (.c (.int .i64 1)), none⟩, ⟨some 21, .mv (.t 22), none⟩])
 (.cond (.t 21) (.seq (.reg [⟨some 23, .mv (.t 0), none⟩, ⟨some 24, .mv (.t 2), none⟩, ⟨some 25, .fa 1 (.t 5), none⟩, ⟨some 26, .ld none (.t 25), none⟩, ⟨some 27, .call .full 98 [(.t 23), (.t 24), (.t 26)], none⟩, ⟨some 28, .fa 2 (.t 5), none⟩, ⟨none, .st 1 (.t 28) (.t 27), none⟩])
 (.seq (.reg [⟨some 29, .fa 2 (.t 5), none⟩, ⟨some 30, .ld none (.t 29), none⟩, ⟨some 31, .bin .num .lss (.t 30) (.c (.int .i64 0)), none⟩])
 (.cond (.t 31) (.reg [⟨some 9, .mv (.c (.int .i64 50)), none⟩]) (.skip)))) (.seq (.reg [⟨some 33, .bin .num .eql (.t 20) (.c (.int .i64 35)), none⟩, ⟨some 32, .mv (.t 33), none⟩])
 (.cond (.t 32) (.seq (.reg [⟨some 3, .mv (.c (.bool true)), none⟩])
 (.reg [⟨some 34, .mv (.t 0), none⟩, ⟨some 35, .mv (.t 2), none⟩, ⟨some 36, .fa 1 (.t 5), none⟩, ⟨some 37, .ld none (.t 36), none⟩, ⟨some 38, .call .full 98 [(.t 34), (.t 35), (.t 37)], none⟩, ⟨some 39, .fa 2 (.t 5), none⟩, ⟨none, .st 1 (.t 39) (.t 38), none⟩])) (.seq (.seq (.reg [⟨some 41, .bin .num .eql (.t 20) (.c (.int .i64 30)), none⟩, ⟨some 40, .mv (.t 41), none⟩])
 (.cond (.t 40) (.skip) (.reg [⟨some 42, .bin .num .eql (.t 20) (.c (.int .i64 38)), none⟩, ⟨some 40, .mv (.t 42), none⟩])))
 (.cond (.t 40) (.reg [⟨some 43, .mv (.t 0), none⟩, ⟨some 44, .mv (.t 2), none⟩, ⟨some 45, .fa 1 (.t 5), none⟩, ⟨some 46, .ld none (.t 45), none⟩, ⟨some 47, .call .full 98 [(.t 43), (.t 44), (.t 46)], none⟩, ⟨some 48, .fa 2 (.t 5), none⟩, ⟨none, .st 1 (.t 48) (.t 47), none⟩]) (.seq (.seq (.reg [⟨some 50, .bin .num .eql (.t 20) (.c (.int .i64 11)), none⟩, ⟨some 49, .mv (.t 50), none⟩])
 (.cond (.t 49) (.skip) (.seq (.reg [⟨some 51, .bin .num .eql (.t 20) (.c (.int .i64 16)), none⟩, ⟨some 49, .mv (.t 51), none⟩])
 (.cond (.t 49) (.skip) (.reg [⟨some 52, .bin .num .eql (.t 20) (.c (.int .i64 15)), none⟩, ⟨some 49, .mv (.t 52), none⟩])))))
 (.cond (.t 49) (.reg [⟨some 53, .mv (.t 0), none⟩, ⟨some 54, .call .keep 99 [(.t 53), (.c (.int .i64 1))], none⟩, ⟨some 55, .fa 2 (.t 5), none⟩, ⟨none, .st 1 (.t 55) (.t 54), none⟩]) (.seq (.reg [⟨some 57, .bin .num .eql (.t 20) (.c (.int .i64 34)), none⟩, ⟨some 56, .mv (.t 57), none⟩])
 (.cond (.t 56) (.reg [⟨some 3, .mv (.c (.bool true)), none⟩]) (.seq (.reg [⟨some 59, .bin .num .eql (.t 20) (.c (.int .i64 36)), none⟩, ⟨some 58, .mv (.t 59), none⟩])
 (.cond (.t 58) (.seq (.reg [⟨some 60, .mv (.t 2), none⟩, ⟨some 61, .bin .num .eql (.t 60) (.c (.int .i64 0)), none⟩])
 (.cond (.t 61) (.reg [⟨some 9, .mv (.c (.int .i64 51)), none⟩]) (.skip))) (.seq (.seq (.reg [⟨some 63, .bin .num .eql (.t 20) (.c (.int .i64 39)), none⟩, ⟨some 62, .mv (.t 63), none⟩])
 (.cond (.t 62) (.skip) (.reg [⟨some 64, .bin .num .eql (.t 20) (.c (.int .i64 40)), none⟩, ⟨some 62, .mv (.t 64), none⟩])))
 (.cond (.t 62) (.seq (.reg [⟨some 65, .mv (.t 3), none⟩, ⟨some 66, .un .not (.t 65), none⟩])
 (.cond (.t 66) (.reg [⟨some 9, .mv (.c (.int .i64 51)), none⟩]) (.skip))) (.skip)))))))))))))))))
 (.seq (.seq (.reg [⟨some 67, .mv (.t 9), none⟩, ⟨some 68, .bin .num .neq (.t 67) (.c (.int .i64 0)), none⟩])
 (.cond (.t 68) (.reg [⟨some 69, .mv (.t 9), none⟩, ⟨some 70, .fa 4 (.t 5), none⟩, ⟨some 71, .ld none (.t 70), none⟩, ⟨some 72, .build [(.int .i64 0), (.int .i64 0)] [(0, 1, (.t 69)), (1, 1, (.t 71))], none⟩, ⟨some 73, .mki 65 (.t 72), none⟩, ⟨none, .pan (.t 73), none⟩]) (.skip)))
 (.seq (.reg [⟨some 10, .mv (.c .nils), none⟩])
 (.seq (.seq (.reg [⟨some 74, .fa 3 (.t 5), none⟩, ⟨some 75, .ld none (.t 74), none⟩, ⟨some 76, .len false (.t 75), none⟩, ⟨some 77, .mv (.c (.int .i64 0)), none⟩])
 (.block 1 (.loop (.seq (.reg [⟨some 78, .bin .num .lss (.t 77) (.t 76), none⟩])
 (.seq (.cond (.t 78) (.skip) (.exit 1))
 (.seq (.block 2 (.seq (.reg [⟨some 79, .ia 5 (.t 75) (.t 77), none⟩, ⟨some 80, .ld (some 5) (.t 79), none⟩, ⟨some 12, .alloc 24 [(.int .i64 0), (.str ⟨#[]⟩), (.int .i64 0), .nils, (.int .i64 0)], none⟩, ⟨none, .st 5 (.t 12) (.t 80), none⟩])
 (.reg [⟨some 81, .mv (.t 10), none⟩, ⟨some 82, .mv (.t 0), none⟩, ⟨some 83, .ld (some 5) (.t 12), none⟩, ⟨some 84, .mv (.t 2), none⟩, ⟨some 85, .mv (.t 3), none⟩, ⟨some 86, .call .no 63 [(.t 82), (.t 83), (.t 84), (.t 85)], none⟩, ⟨some 87, .bsl true 5 1 [(.int .i64 0), (.str ⟨#[]⟩), (.int .i64 0), .nils, (.int .i64 0)] [(0, 5, (.t 86))], none⟩, ⟨some 88, .app 5 64 (.t 81) (.t 87), none⟩, ⟨some 10, .mv (.t 88), none⟩])))
 (.reg [⟨some 89, .bin .num .add (.t 77) (.c (.int .i64 1)), none⟩, ⟨some 77, .mv (.t 89), none⟩])))))))
 (.seq (.reg [⟨some 90, .mv (.t 10), none⟩, ⟨some 91, .fa 3 (.t 5), none⟩, ⟨none, .st 1 (.t 91) (.t 90), none⟩])
 (.seq (.reg [⟨some 92, .ld (some 5) (.t 5), none⟩, ⟨none, .st 5 (.t 8) (.t 92), none⟩])
 (.ret)))))))))⟩
def a73 : AFn := ⟨29, [.tmp 2],
 .seq (.reg [qo 2 (.mv (.c .nils))])
 (.seq (.reg [qo 3 (.mv (.c .nils))])
 (.seq (.block 0 (.loop (.seq (.seq (.reg [qv 6 0, qn 7 6, qf 8 2 7, ql 9 8, qo 10 (.bin .num .eql (.t 9) (qi 0)), qv 11 10, qg 12 (.mv (.t 0)) 11 true, qg 13 (.call .no 103 [(.t 12), (qi 0)]) 11 true, qg 14 (.fld 0 none (.t 13)) 11 true, qg 15 (.bin .num .neq (.t 14) (qi 0)) 11 true, qo 16 (.pick (.t 11) (.t 15) (.c (.bool false)))])
 (.cond (.t 16) (.skip) (.exit 0)))
 (.block 1 (.seq (.reg [qv 17 0, qo 18 (.call .no 104 [(.t 17), (qs #[125])]), qv 4 18])
 (.seq (.seq (.reg [qv 19 4])
 (.cond (.t 19) (.exit 0) (.skip)))
 (.seq (.reg [qv 20 0, qo 21 (.call .no 105 [(.t 20), (qs #[59])]), qv 5 21])
 (.seq (.seq (.reg [qv 22 5])
 (.cond (.t 22) (.exit 1) (.skip)))
 (.reg [qv 23 3, qv 24 0, qo 25 (.call .no 106 [(.t 24)]), qo 26 (.bsl true 5 1 z5 [(0, 5, (.t 25))]), qo 27 (.app 5 64 (.t 23) (.t 26)), qv 3 27])))))))))
 (.seq (.reg [qv 28 3, qv 2 28])
 (.ret))))⟩
def a74 : AFn := ⟨54, [.cell 4 (some 5)],
 .seq (.reg [qo 4 (.alloc 24 z5)])
 (.seq (.reg [qv 6 0, qo 7 (.call .no 103 [(.t 6), (qi 0)]), qo 5 (.alloc 130 z6), ⟨none, .st 5 (.t 5) (.t 7), none⟩])
 (.seq (.seq (.reg [qf 8 0 5, ql 9 8, qo 10 (.bin .num .eql (.t 9) (qi 2)), qv 11 10, qg 12 (.fa 1 (.t 5)) 11 true, qg 13 (.ld none (.t 12)) 11 true, qg 14 (.bin .str .eql (.t 13) (qs #[119, 105, 116, 104])) 11 true, qo 15 (.pick (.t 11) (.t 14) (.c (.bool false)))])
 (.cond (.t 15) (.reg [qv 16 0, qo 17 (.call .no 107 [(.t 16), (qi 42)])]) (.seq (.reg [qf 18 0 5, ql 19 18, qo 20 (.bin .num .eql (.t 19) (qi 5)), qv 21 20, qg 22 (.fa 1 (.t 5)) 21 true, qg 23 (.ld none (.t 22)) 21 true, qg 24 (.bin .str .eql (.t 23) (qs #[47])) 21 true, qo 25 (.pick (.t 21) (.t 24) (.c (.bool false))), qv 26 25, qg 27 (.mv (.t 1)) 26 true, qo 28 (.pick (.t 26) (.t 27) (.c (.bool false)))])
 (.cond (.t 28) (.reg [qv 29 0, qo 30 (.call .no 107 [(.t 29), (qi 44)])]) (.seq (.reg [qf 31 0 5, ql 32 31, qo 33 (.bin .num .eql (.t 32) (qi 5)), qv 34 33, qg 35 (.fa 1 (.t 5)) 34 true, qg 36 (.ld none (.t 35)) 34 true, qg 37 (.bin .str .eql (.t 36) (qs #[47])) 34 true, qo 38 (.pick (.t 34) (.t 37) (.c (.bool false))), qv 39 38, qg 40 (.fa 0 (.t 5)) 39 false, qg 41 (.ld none (.t 40)) 39 false, qg 42 (.bin .num .eql (.t 41) (qi 2)) 39 false, qg 43 (.mv (.t 42)) 39 false, qg 44 (.fa 1 (.t 5)) 43 true, qg 45 (.ld none (.t 44)) 43 true, qg 46 (.call .no 108 [(.t 45)]) 43 true, qg 47 (.pick (.t 43) (.t 46) (.c (.bool false))) 39 false, qo 48 (.pick (.t 39) (.c (.bool true)) (.t 47))])
 (.cond (.t 48) (.reg [qv 49 0, qo 50 (.call .no 107 [(.t 49), (qi 47)])]) (.reg [qv 51 0, qo 52 (.call .no 107 [(.t 51), (qi 40)])])))))))
 (.seq (.reg [qo 53 (.build z5 []), ⟨none, .st 5 (.t 4) (.t 53), none⟩])
 (.ret))))⟩
def a75 : AFn := ⟨75, [.tmp 2, .tmp 3, .tmp 4],
 .seq (.reg [qo 2 (.mv (.c .nils)), qo 3 (.mv (qi 0)), qo 4 (.mv (qi 0))])
 (.seq (.seq (.reg [qv 14 0, qo 15 (.len true (.t 14)), qo 16 (.bin .num .gtr (.t 15) (qi 65536))])
 (.cond (.t 16) (.seq (.reg [qo 2 (.mv (.c .nils)), qo 3 (.mv (qi 0)), qo 4 (.mv (qi 20))])
 (.ret)) (.skip)))
 (.seq (.reg [qo 5 (.mv (.c .nils))])
 (.seq (.reg [qo 6 (.mv (qi 1))])
 (.seq (.reg [qo 7 (.mv (.c (.bool false)))])
 (.seq (.reg [qo 8 (.mv (qi 0))])
 (.seq (.block 0 (.loop (.seq (.seq (.reg [qv 17 8, qv 18 0, qo 19 (.len true (.t 18)), qo 20 (.bin .num .lss (.t 17) (.t 19))])
 (.cond (.t 20) (.skip) (.exit 0)))
 (.block 1 (.seq (.reg [qv 21 0, qv 22 8, qo 23 (.slc none (.t 21) (some (.t 22)) none), qo 24 (.call .full 109 [(.t 23)]), qv 9 24])
 (.seq (.seq (.reg [qv 25 9, qo 26 (.bin .num .lss (.t 25) (qi 0))])
 (.cond (.t 26) (.seq (.reg [qv 27 6, qo 2 (.mv (.c .nils)), qv 3 27, qo 4 (.mv (qi 23))])
 (.ret)) (.skip)))
 (.seq (.seq (.reg [qv 28 8, qv 10 28])
 (.block 2 (.loop (.seq (.seq (.reg [qv 29 10, qv 30 8, qv 31 9, qo 32 (.bin .num .add (.t 30) (.t 31)), qo 33 (.bin .num .lss (.t 29) (.t 32))])
 (.cond (.t 33) (.skip) (.exit 2)))
 (.seq (.block 3 (.seq (.reg [qv 36 0, qv 37 10, qo 38 (.ixs (.t 36) (.t 37)), qo 39 (.bin .num .eql (.t 38) (.c (.int .u8 10)))])
 (.cond (.t 39) (.seq (.reg [qv 40 6, qo 41 (.bin .num .add (.t 40) (qi 1)), qv 6 41])
 (.reg [qo 7 (.mv (.c (.bool true)))])) (.skip))))
 (.reg [qv 34 10, qo 35 (.bin .num .add (.t 34) (qi 1)), qv 10 35]))))))
 (.seq (.seq (.reg [qv 42 9, qo 43 (.bin .num .gtr (.t 42) (qi 0))])
 (.cond (.t 43) (.seq (.reg [qv 44 8, qv 45 9, qo 46 (.bin .num .add (.t 44) (.t 45)), qv 8 46])
 (.exit 1)) (.skip)))
 (.seq (.reg [qv 48 0, qv 49 8, qo 50 (.slc none (.t 48) (some (.t 49)) none), qo 51 (.call .full 110 [(.t 50)]), qv 47 51, qo 52 (.ext 0 (.t 47)), qo 53 (.ext 1 (.t 47)), qo 54 (.ext 2 (.t 47)), qo 11 (.alloc 130 z6), ⟨none, .st 5 (.t 11) (.t 52), none⟩, qv 12 53, qv 13 54])
 (.seq (.seq (.reg [qv 55 13, qo 56 (.bin .num .neq (.t 55) (qi 0))])
 (.cond (.t 56) (.seq (.reg [qv 57 6, qv 58 13, qo 2 (.mv (.c .nils)), qv 3 57, qv 4 58])
 (.ret)) (.skip)))
 (.seq (.seq (.reg [qv 59 5, qo 60 (.len false (.t 59)), qo 61 (.bin .num .eql (.t 60) (qi 20000))])
 (.cond (.t 61) (.seq (.reg [qv 62 6, qo 2 (.mv (.c .nils)), qv 3 62, qo 4 (.mv (qi 20))])
 (.ret)) (.skip)))
 (.seq (.reg [qv 63 6, qf 64 3 11, ⟨none, .st 1 (.t 64) (.t 63), none⟩])
 (.seq (.reg [qv 65 7, qf 66 4 11, ⟨none, .st 1 (.t 66) (.t 65), none⟩])
 (.seq (.reg [qv 67 5, qo 68 (.ld (some 5) (.t 11)), qo 69 (.bsl true 5 1 z6 [(0, 5, (.t 68))]), qo 70 (.app 5 48 (.t 67) (.t 69)), qv 5 70])
 (.seq (.reg [qo 7 (.mv (.c (.bool false)))])
 (.reg [qv 71 8, qv 72 12, qo 73 (.bin .num .add (.t 71) (.t 72)), qv 8 73]))))))))))))))))
 (.seq (.reg [qv 74 5, qv 2 74, qo 3 (.mv (qi 0)), qo 4 (.mv (qi 0))])
 (.ret))))))))⟩
def a76 : AFn := ⟨220, [.tmp 4],
 .seq (.reg [⟨some 2, .box 24 (.t 0), none⟩, ⟨some 4, .mv (.c (.bool false)), none⟩])
 (.seq (.seq (.reg [⟨some 9, .mv (.t 1), none⟩, ⟨some 10, .bin .num .lss (.t 9) (.c (.int .i64 1)), none⟩, ⟨some 11, .mv (.t 10), none⟩, ⟨some 12, .fa 2 (.t 2), (some (11, false))⟩, ⟨some 13, .ld none (.t 12), (some (11, false))⟩, ⟨some 14, .bin .num .neq (.t 13) (.c (.int .i64 0)), (some (11, false))⟩, ⟨some 15, .pick (.t 11) (.c (.bool true)) (.t 14), none⟩])
 (.cond (.t 15) (.seq (.reg [⟨some 4, .mv (.c (.bool false)), none⟩])
 (.ret)) (.skip)))
 (.seq (.reg [⟨some 16, .fa 1 (.t 2), none⟩, ⟨some 17, .ld none (.t 16), none⟩, ⟨some 18, .call .full 111 [(.t 17)], none⟩, ⟨some 5, .mv (.t 18), none⟩])
 (.seq (.reg [⟨some 19, .fa 3 (.t 2), none⟩, ⟨some 20, .ld none (.t 19), none⟩, ⟨some 21, .len false (.t 20), none⟩, ⟨some 6, .mv (.t 21), none⟩])
 (.seq (.reg [⟨some 22, .fa 1 (.t 2), none⟩, ⟨some 23, .ld none (.t 22), none⟩, ⟨some 24, .bin .str .eql (.t 23) (.c (.str ⟨#[]⟩)), none⟩, ⟨some 7, .mv (.t 24), none⟩])
 (.seq (.seq (.reg [⟨some 25, .fa 0 (.t 2), none⟩, ⟨some 26, .ld none (.t 25), none⟩])
 (.block 0 (.seq (.reg [⟨some 28, .bin .num .eql (.t 26) (.c (.int .i64 30)), none⟩, ⟨some 27, .mv (.t 28), none⟩])
 (.cond (.t 27) (.seq (.reg [⟨some 29, .mv (.t 5), none⟩, ⟨some 30, .mv (.t 29), none⟩, ⟨some 31, .mv (.t 6), (some (30, true))⟩, ⟨some 32, .bin .num .leq (.t 31) (.c (.int .i64 1)), (some (30, true))⟩, ⟨some 33, .pick (.t 30) (.t 32) (.c (.bool false)), none⟩, ⟨some 34, .mv (.t 33), none⟩, ⟨some 35, .fa 3 (.t 2), (some (34, true))⟩, ⟨some 36, .ld none (.t 35), (some (34, true))⟩, ⟨some 37, .mv (.t 1), (some (34, true))⟩, ⟨some 38, .bin .num .sub (.t 37) (.c (.int .i64 1)), (some (34, true))⟩, ⟨some 39, .call .full 112 [(.t 36), (.t 38)], (some (34, true))⟩, ⟨some 40, .pick (.t 34) (.t 39) (.c (.bool false)), none⟩, ⟨some 4, .mv (.t 40), none⟩])
 (.ret)) (.seq (.seq (.reg [⟨some 42, .bin .num .eql (.t 26) (.c (.int .i64 31)), none⟩, ⟨some 41, .mv (.t 42), none⟩])
 (.cond (.t 41) (.skip) (.reg [⟨some 43, .bin .num .eql (.t 26) (.c (.int .i64 37)), none⟩, ⟨some 41, .mv (.t 43), none⟩])))
 (.cond (.t 41) (.seq (.reg [⟨some 44, .mv (.t 7), none⟩, ⟨some 45, .mv (.t 44), none⟩, ⟨some 46, .mv (.t 6), (some (45, true))⟩, ⟨some 47, .bin .num .eql (.t 46) (.c (.int .i64 1)), (some (45, true))⟩, ⟨some 48, .pick (.t 45) (.t 47) (.c (.bool false)), none⟩, ⟨some 49, .mv (.t 48), none⟩, ⟨some 50, .fa 3 (.t 2), (some (49, true))⟩, ⟨some 51, .ld none (.t 50), (some (49, true))⟩, ⟨some 52, .mv (.t 1), (some (49, true))⟩, ⟨some 53, .bin .num .sub (.t 52) (.c (.int .i64 1)), (some (49, true))⟩, ⟨some 54, .call .full 112 [(.t 51), (.t 53)], (some (49, true))⟩, ⟨some 55, .pick (.t 49) (.t 54) (.c (.bool false)), none⟩, ⟨some 4, .mv (.t 55), none⟩])
 (.ret)) (.seq (.reg [⟨some 57, .bin .num .eql (.t 26) (.c (.int .i64 36)), none⟩, ⟨some 56, .mv (.t 57), none⟩])
 (.cond (.t 56) (.seq (.reg [⟨some 58, .mv (.t 7), none⟩, ⟨some 59, .mv (.t 58), none⟩, ⟨some 60, .mv (.t 6), (some (59, true))⟩, ⟨some 61, .bin .num .leq (.t 60) (.c (.int .i64 1)), (some (59, true))⟩, ⟨some 62, .pick (.t 59) (.t 61) (.c (.bool false)), none⟩, ⟨some 63, .mv (.t 62), none⟩, ⟨some 64, .fa 3 (.t 2), (some (63, true))⟩, ⟨some 65, .ld none (.t 64), (some (63, true))⟩, ⟨some 66, .mv (.t 1), (some (63, true))⟩, ⟨some 67, .bin .num .sub (.t 66) (.c (.int .i64 1)), (some (63, true))⟩, ⟨some 68, .call .full 112 [(.t 65), (.t 67)], (some (63, true))⟩, ⟨some 69, .pick (.t 63) (.t 68) (.c (.bool false)), none⟩, ⟨some 4, .mv (.t 69), none⟩])
 (.ret)) (.seq (.seq (.reg [⟨some 71, .bin .num .eql (.t 26) (.c (.int .i64 39)), none⟩, ⟨some 70, .mv (.t 71), none⟩])
 (.cond (.t 70) (.skip) (.reg [⟨some 72, .bin .num .eql (.t 26) (.c (.int .i64 40)), none⟩, ⟨some 70, .mv (.t 72), none⟩])))
 (.cond (.t 70) (.seq (.reg [⟨some 73, .mv (.t 7), none⟩, ⟨some 74, .mv (.t 73), none⟩, ⟨some 75, .mv (.t 6), (some (74, true))⟩, ⟨some 76, .bin .num .eql (.t 75) (.c (.int .i64 0)), (some (74, true))⟩, ⟨some 77, .pick (.t 74) (.t 76) (.c (.bool false)), none⟩, ⟨some 4, .mv (.t 77), none⟩])
 (.ret)) (.seq (.reg [⟨some 79, .bin .num .eql (.t 26) (.c (.int .i64 32)), none⟩, ⟨some 78, .mv (.t 79), none⟩])
 (.cond (.t 78) (.seq (.seq (.reg [⟨some 8, .mv (.c (.int .i64 0)), none⟩])
 (.block 1 (.loop (.seq (.seq (.reg [⟨some 80, .mv (.t 8), none⟩, ⟨some 81, .mv (.t 6), none⟩, ⟨some 82, .bin .num .lss (.t 80) (.t 81), none⟩])
 (.cond (.t 82) (.skip) (.exit 1)))
 (.seq (.block 2 (.seq (.reg [⟨some 85, .fa 3 (.t 2), none⟩, ⟨some 86, .ld none (.t 85), none⟩, ⟨some 87, .mv (.t 8), none⟩, ⟨some 88, .ia 5 (.t 86) (.t 87), none⟩, ⟨some 89, .ld (some 5) (.t 88), none⟩, ⟨some 90, .mv (.t 1), none⟩, ⟨some 91, .bin .num .sub (.t 90) (.c (.int .i64 1)), none⟩, ⟨some 92, .call .full 76 [(.t 89), (.t 91)], none⟩, ⟨some 93, .un .not (.t 92), none⟩])
 (.cond (.t 93) (.seq (.reg [⟨some 4, .mv (.c (.bool false)), none⟩])
 (.ret)) (.skip))))
 (.reg [⟨some 83, .mv (.t 8), none⟩, ⟨some 84, .bin .num .add (.t 83) (.c (.int .i64 1)), none⟩, ⟨some 8, .mv (.t 84), none⟩]))))))
 (.seq (.reg [⟨some 94, .mv (.t 7), none⟩, ⟨some 4, .mv (.t 94), none⟩])
 (.ret))) (.seq (.reg [⟨some 96, .bin .num .eql (.t 26) (.c (.int .i64 33)), none⟩, ⟨some 95, .mv (.t 96), none⟩])
 (.cond (.t 95) (.seq (.reg [⟨some 97, .mv (.t 7), none⟩, ⟨some 98, .mv (.t 97), none⟩, ⟨some 99, .mv (.t 6), (some (98, true))⟩, ⟨some 100, .bin .num .eql (.t 99) (.c (.int .i64 2)), (some (98, true))⟩, ⟨some 101, .mv (.t 100), (some (98, true))⟩, ⟨some 102, .mv (.t 6), (some (101, false))⟩, ⟨some 103, .bin .num .eql (.t 102) (.c (.int .i64 3)), (some (101, false))⟩, ⟨some 104, .pick (.t 101) (.c (.bool true)) (.t 103), (some (98, true))⟩, ⟨some 105, .pick (.t 98) (.t 104) (.c (.bool false)), none⟩, ⟨some 106, .mv (.t 105), none⟩, ⟨some 107, .fa 3 (.t 2), (some (106, true))⟩, ⟨some 108, .ld none (.t 107), (some (106, true))⟩, ⟨some 109, .ia 5 (.t 108) (.c (.int .i64 0)), (some (106, true))⟩, ⟨some 110, .ld (some 5) (.t 109), (some (106, true))⟩, ⟨some 111, .mv (.t 1), (some (106, true))⟩, ⟨some 112, .bin .num .sub (.t 111) (.c (.int .i64 1)), (some (106, true))⟩, ⟨some 113, .call .full 113 [(.t 110), (.t 112)], (some (106, true))⟩, ⟨some 114, .pick (.t 106) (.t 113) (.c (.bool false)), none⟩, ⟨some 115, .mv (.t 114), none⟩, ⟨some 116, .fa 3 (.t 2), (some (115, true))⟩, ⟨some 117, .ld none (.t 116), (some (115, true))⟩, ⟨some 118, .ia 5 (.t 117) (.c (.int .i64 1)), (some (115, true))⟩, ⟨some 119, .ld (some 5) (.t 118), (some (115, true))⟩, ⟨some 120, .mv (.t 1), (some (115, true))⟩, ⟨some 121, .bin .num .sub (.t 120) (.c (.int .i64 1)), (some (115, true))⟩, ⟨some 122, .call .full 48 [(.t 119), (.t 121)], (some (115, true))⟩, ⟨some 123, .pick (.t 115) (.t 122) (.c (.bool false)), none⟩, ⟨some 124, .mv (.t 123), none⟩, ⟨some 125, .fa 3 (.t 2), (some (124, true))⟩, ⟨some 126, .ld none (.t 125), (some (124, true))⟩, ⟨some 127, .mv (.t 6), (some (124, true))⟩, ⟨some 128, .bin .num .sub (.t 127) (.c (.int .i64 1)), (some (124, true))⟩, ⟨some 129, .ia 5 (.t 126) (.t 128), (some (124, true))⟩, ⟨some 130, .ld (some 5) (.t 129), (some (124, true))⟩, ⟨some 131, .mv (.t 1), (some (124, true))⟩, ⟨some 132, .bin .num .sub (.t 131) (.c (.int .i64 1)), (some (124, true))⟩, ⟨some 133, .call .full 48 [(.t 130), (.t 132)], (some (124, true))⟩, ⟨some 134, .pick (.t 124) (.t 133) (.c (.bool false)), none⟩, ⟨some 4, .mv (.t 134), none⟩])
 (.ret)) (.seq (.reg [⟨some 136, .bin .num .eql (.t 26) (.c (.int .i64 34)), none⟩, ⟨some 135, .mv (.t 136), none⟩])
 (.cond (.t 135) (.seq (.reg [⟨some 137, .mv (.t 7), none⟩, ⟨some 138, .mv (.t 137), none⟩, ⟨some 139, .mv (.t 6), (some (138, true))⟩, ⟨some 140, .bin .num .eql (.t 139) (.c (.int .i64 2)), (some (138, true))⟩, ⟨some 141, .pick (.t 138) (.t 140) (.c (.bool false)), none⟩, ⟨some 142, .mv (.t 141), none⟩, ⟨some 143, .fa 3 (.t 2), (some (142, true))⟩, ⟨some 144, .ld none (.t 143), (some (142, true))⟩, ⟨some 145, .ia 5 (.t 144) (.c (.int .i64 0)), (some (142, true))⟩, ⟨some 146, .ld (some 5) (.t 145), (some (142, true))⟩, ⟨some 147, .mv (.t 1), (some (142, true))⟩, ⟨some 148, .bin .num .sub (.t 147) (.c (.int .i64 1)), (some (142, true))⟩, ⟨some 149, .call .full 113 [(.t 146), (.t 148)], (some (142, true))⟩, ⟨some 150, .pick (.t 142) (.t 149) (.c (.bool false)), none⟩, ⟨some 151, .mv (.t 150), none⟩, ⟨some 152, .fa 3 (.t 2), (some (151, true))⟩, ⟨some 153, .ld none (.t 152), (some (151, true))⟩, ⟨some 154, .ia 5 (.t 153) (.c (.int .i64 1)), (some (151, true))⟩, ⟨some 155, .ld (some 5) (.t 154), (some (151, true))⟩, ⟨some 156, .mv (.t 1), (some (151, true))⟩, ⟨some 157, .bin .num .sub (.t 156) (.c (.int .i64 1)), (some (151, true))⟩, ⟨some 158, .call .full 48 [(.t 155), (.t 157)], (some (151, true))⟩, ⟨some 159, .pick (.t 151) (.t 158) (.c (.bool false)), none⟩, ⟨some 4, .mv (.t 159), none⟩])
 (.ret)) (.seq (.reg [⟨some 161, .bin .num .eql (.t 26) (.c (.int .i64 35)), none⟩, ⟨some 160, .mv (.t 161), none⟩])
 (.cond (.t 160) (.seq (.reg [⟨some 162, .mv (.t 5), none⟩, ⟨some 163, .mv (.t 162), none⟩, ⟨some 164, .mv (.t 6), (some (163, true))⟩, ⟨some 165, .bin .num .eql (.t 164) (.c (.int .i64 2)), (some (163, true))⟩, ⟨some 166, .pick (.t 163) (.t 165) (.c (.bool false)), none⟩, ⟨some 167, .mv (.t 166), none⟩, ⟨some 168, .fa 3 (.t 2), (some (167, true))⟩, ⟨some 169, .ld none (.t 168), (some (167, true))⟩, ⟨some 170, .ia 5 (.t 169) (.c (.int .i64 0)), (some (167, true))⟩, ⟨some 171, .ld (some 5) (.t 170), (some (167, true))⟩, ⟨some 172, .mv (.t 1), (some (167, true))⟩, ⟨some 173, .bin .num .sub (.t 172) (.c (.int .i64 1)), (some (167, true))⟩, ⟨some 174, .call .full 113 [(.t 171), (.t 173)], (some (167, true))⟩, ⟨some 175, .pick (.t 167) (.t 174) (.c (.bool false)), none⟩, ⟨some 176, .mv (.t 175), none⟩, ⟨some 177, .fa 3 (.t 2), (some (176, true))⟩, ⟨some 178, .ld none (.t 177), (some (176, true))⟩, ⟨some 179, .ia 5 (.t 178) (.c (.int .i64 1)), (some (176, true))⟩, ⟨some 180, .ld (some 5) (.t 179), (some (176, true))⟩, ⟨some 181, .mv (.t 1), (some (176, true))⟩, ⟨some 182, .bin .num .sub (.t 181) (.c (.int .i64 1)), (some (176, true))⟩, ⟨some 183, .call .full 48 [(.t 180), (.t 182)], (some (176, true))⟩, ⟨some 184, .pick (.t 176) (.t 183) (.c (.bool false)), none⟩, ⟨some 4, .mv (.t 184), none⟩])
 (.ret)) (.seq (.reg [⟨some 186, .bin .num .eql (.t 26) (.c (.int .i64 38)), none⟩, ⟨some 185, .mv (.t 186), none⟩])
 (.cond (.t 185) (.seq (.reg [⟨some 187, .mv (.t 5), none⟩, ⟨some 188, .mv (.t 187), none⟩, ⟨some 189, .mv (.t 6), (some (188, true))⟩, ⟨some 190, .bin .num .eql (.t 189) (.c (.int .i64 2)), (some (188, true))⟩, ⟨some 191, .pick (.t 188) (.t 190) (.c (.bool false)), none⟩, ⟨some 192, .mv (.t 191), none⟩, ⟨some 193, .fa 3 (.t 2), (some (192, true))⟩, ⟨some 194, .ld none (.t 193), (some (192, true))⟩, ⟨some 195, .ia 5 (.t 194) (.c (.int .i64 0)), (some (192, true))⟩, ⟨some 196, .ld (some 5) (.t 195), (some (192, true))⟩, ⟨some 197, .mv (.t 1), (some (192, true))⟩, ⟨some 198, .bin .num .sub (.t 197) (.c (.int .i64 1)), (some (192, true))⟩, ⟨some 199, .call .full 48 [(.t 196), (.t 198)], (some (192, true))⟩, ⟨some 200, .pick (.t 192) (.t 199) (.c (.bool false)), none⟩, ⟨some 201, .mv (.t 200), none⟩, ⟨some 202, .fa 3 (.t 2), (some (201, true))⟩, ⟨some 203, .ld none (.t 202), (some (201, true))⟩, ⟨some 204, .ia 5 (.t 203) (.c (.int .i64 1)), (some (201, true))⟩, ⟨some 205, .ld (some 5) (.t 204), (some (201, true))⟩, ⟨some 206, .mv (.t 1), (some (201, true))⟩, ⟨some 207, .bin .num .sub (.t 206) (.c (.int .i64 1)), (some (201, true))⟩, ⟨some 208, .call .full 48 [(.t 205), (.t 207)], (some (201, true))⟩, ⟨some 209, .pick (.t 201) (.t 208) (.c (.bool false)), none⟩, ⟨some 4, .mv (.t 209), none⟩])
 (.ret)) (.seq (.reg [⟨some 211, .bin .num .eql (.t 26) (.c (.int .i64 41)), none⟩, ⟨some 210, .mv (.t 211), none⟩])
 (.cond (.t 210) (.seq (.reg [⟨some 212, .mv (.t 5), none⟩, ⟨some 213, .mv (.t 212), none⟩, ⟨some 214, .fa 3 (.t 2), (some (213, true))⟩, ⟨some 215, .ld none (.t 214), (some (213, true))⟩, ⟨some 216, .mv (.t 1), (some (213, true))⟩, ⟨some 217, .bin .num .sub (.t 216) (.c (.int .i64 1)), (some (213, true))⟩, ⟨some 218, .call .full 114 [(.t 215), (.t 217)], (some (213, true))⟩, ⟨some 219, .pick (.t 213) (.t 218) (.c (.bool false)), none⟩, ⟨some 4, .mv (.t 219), none⟩])
 (.ret)) (.skip)))))))))))))))))))))))
 (.seq (.reg [⟨some 4, .mv (.c (.bool false)), none⟩])
 (.ret)))))))⟩
def a77 : AFn := ⟨12, [],
 .seq (.reg [⟨some 2, .box 24 (.t 0), none⟩, ⟨some 3, .box 33 (.t 1), none⟩])
 (.scope (.seq (.skip)
 (.seq (.reg [⟨some 5, .ld (some 5) (.t 2), none⟩, ⟨some 6, .call .no 115 [(.t 5)], none⟩])
 (.block 0 (.rf (.t 6) [7] (.reg [⟨some 4, .alloc 24 [(.int .i64 0), (.str ⟨#[]⟩), (.int .i64 0), .nils, (.int .i64 0)], none⟩, ⟨none, .st 5 (.t 4) (.t 7), none⟩]) (.block 1 (.seq (.reg [⟨some 8, .ld none (.t 3), none⟩, ⟨some 9, .ld (some 5) (.t 4), none⟩, ⟨some 10, .callv .no (.t 8) [(.t 9)], none⟩, ⟨some 11, .un .not (.t 10), none⟩])
 (.cond (.t 11) (.exit 0) (.skip)))))))))⟩
def a78 : AFn := ⟨6, [.tmp 3],
 .seq (.reg [⟨some 2, .box 24 (.t 0), none⟩, ⟨some 3, .mv (.c (.bool false)), none⟩])
 (.seq (.reg [⟨some 4, .ld none (.t 1), none⟩, ⟨some 5, .bin .num .add (.t 4) (.c (.int .i64 1)), none⟩, ⟨none, .st 1 (.t 1) (.t 5), none⟩])
 (.seq (.reg [⟨some 3, .mv (.c (.bool true)), none⟩])
 (.ret)))⟩
def asg79 : ACode := (.seq (.reg [⟨some 13, .mv (.t 106), none⟩])
 (.reg [⟨some 14, .alloc 24 [(.int .i64 0), (.str ⟨#[]⟩), (.int .i64 0), .nils, (.int .i64 0)], none⟩, ⟨none, .st 5 (.t 14) (.t 107), none⟩]))
def body79 : ACode := (.block 1 (.seq (.seq (.reg [⟨some 108, .fa 0 (.t 14), none⟩, ⟨some 109, .ld none (.t 108), none⟩, ⟨some 110, .bin .num .neq (.t 109) (.c (.int .i64 32)), none⟩])
 (.cond (.t 110) (.exit 1) (.skip)))
 (.reg [⟨some 111, .ld none (.t 3), none⟩, ⟨some 112, .ld (some 5) (.t 14), none⟩, ⟨some 113, .mv (.t 13), none⟩, ⟨some 114, .ld none (.t 6), none⟩, ⟨some 115, .ld none (.t 12), none⟩, ⟨some 116, .build [(.int .i64 0), (.int .i64 0), (.int .i64 0)] [(0, 1, (.t 113)), (1, 1, (.t 114)), (2, 1, (.t 115))], none⟩, ⟨some 117, .call .no 52 [(.t 111), (.t 112), (.t 116), (.c (.bool true))], none⟩])))
def y79c : ACode := (.seq (.reg [⟨some 96, .ld none (.t 3), none⟩, ⟨some 97, .ld none (.t 6), none⟩, ⟨some 98, .call .no 51 [(.t 96), (.t 97)], none⟩, ⟨some 95, .mv (.t 98), none⟩, ⟨some 99, .ext 0 (.t 95), none⟩, ⟨some 100, .ext 1 (.t 95), none⟩, ⟨some 101, .ext 2 (.t 95), none⟩, ⟨some 12, .alloc 3 [(.int .i64 0)], none⟩, ⟨some 10, .mv (.t 99), none⟩, ⟨some 11, .mv (.t 100), none⟩, ⟨none, .st 1 (.t 12) (.t 101), none⟩])
 (.seq (.skip)
 (.seq (.reg [⟨some 102, .ld (some 5) (.t 4), none⟩, ⟨some 103, .fa 0 (.t 5), none⟩, ⟨some 104, .ld none (.t 103), none⟩, ⟨some 105, .call .no 80 [(.t 102), (.t 104)], none⟩])
 (.block 0 (.rf (.t 105) [106, 107] asg79 body79)))))
def y79b : ACode := (.seq (.seq (.reg [⟨some 60, .mv (.t 7), none⟩, ⟨some 61, .fa 1 (.t 4), none⟩, ⟨some 62, .ld none (.t 61), none⟩, ⟨some 63, .call .full 116 [(.t 60), (.t 62)], none⟩, ⟨some 9, .mv (.t 63), none⟩])
 (.seq (.dreg [(⟨some 64, .fa 0 (.t 4), none⟩, 0), (⟨some 65, .ld none (.t 64), none⟩, 1), (⟨some 66, .bin .num .eql (.t 65) (.c (.int .i64 10)), none⟩, 3), (⟨some 67, .mv (.t 66), none⟩, 7), (⟨some 68, .mv (.t 9), (some (67, true))⟩, 15), (⟨some 69, .ld none (.t 3), (some (67, true))⟩, 15), (⟨some 70, .nck (.t 69), (some (67, true))⟩, 47), (⟨some 71, .fa 0 (.t 70), (some (67, true))⟩, 111), (⟨some 72, .ld none (.t 71), (some (67, true))⟩, 239), (⟨some 73, .ld none (.t 6), (some (67, true))⟩, 15), (⟨some 74, .ia 5 (.t 72) (.t 73), (some (67, true))⟩, 1007), (⟨some 75, .fa 2 (.t 74), (some (67, true))⟩, 2031), (⟨some 76, .ld none (.t 75), (some (67, true))⟩, 4079), (⟨some 77, .bin .num .geq (.t 68) (.t 76), (some (67, true))⟩, 8191), (⟨some 78, .pick (.t 67) (.t 77) (.c (.bool false)), none⟩, 16383)])
 (.cond (.t 78) (.seq (.dreg [(⟨some 79, .ld none (.t 3), none⟩, 0), (⟨some 80, .nck (.t 79), none⟩, 1), (⟨some 81, .fa 1 (.t 80), none⟩, 3), (⟨some 82, .ld none (.t 81), none⟩, 7), (⟨some 83, .ld none (.t 6), none⟩, 0), (⟨some 84, .ia 1 (.t 82) (.t 83), none⟩, 31), (⟨some 85, .ld none (.t 84), none⟩, 63), (⟨some 86, .mv (.t 9), none⟩, 0), (⟨some 87, .bin .num .add (.t 85) (.t 86), none⟩, 255), (⟨some 88, .fa 2 (.t 8), none⟩, 511), (⟨none, .st 1 (.t 88) (.t 87), none⟩, 1023)])
 (.reg [⟨some 89, .ld none (.t 3), none⟩, ⟨some 90, .fa 1 (.t 5), none⟩, ⟨some 91, .ld none (.t 90), none⟩, ⟨some 92, .ld (some 9) (.t 8), none⟩, ⟨some 93, .bsl true 9 1 [(.int .i64 0), (.int .i64 0), (.int .i64 0), (.int .i64 0), (.int .i64 0), (.int .i64 0), (.int .i64 0), (.str ⟨#[]⟩), .nils] [(0, 9, (.t 92))], none⟩, ⟨some 94, .call .no 117 [(.t 89), (.t 91), (.t 93)], none⟩])) (.skip))))
 y79c)
def y79a : ACode := .seq (.reg [⟨some 3, .box 78 (.t 0), none⟩, ⟨some 4, .box 24 (.t 1), none⟩, ⟨some 5, .box 87 (.t 2), none⟩])
 (.scope (.seq (.reg [⟨some 15, .fa 2 (.t 4), none⟩, ⟨some 16, .ld none (.t 15), none⟩, ⟨some 6, .alloc 3 [(.int .i64 0)], none⟩, ⟨none, .st 1 (.t 6) (.t 16), none⟩])
 (.seq (.dreg [(⟨some 17, .ld none (.t 3), none⟩, 0), (⟨some 18, .nck (.t 17), none⟩, 1), (⟨some 19, .fa 0 (.t 18), none⟩, 3), (⟨some 20, .ld none (.t 19), none⟩, 7), (⟨some 21, .ld none (.t 6), none⟩, 0), (⟨some 22, .ia 5 (.t 20) (.t 21), none⟩, 31), (⟨some 23, .fa 3 (.t 22), none⟩, 63), (⟨some 24, .ld none (.t 23), none⟩, 127), (⟨some 7, .mv (.t 24), none⟩, 255)])
 (.seq (.reg [⟨some 25, .fa 0 (.t 5), none⟩, ⟨some 26, .ld none (.t 25), none⟩, ⟨some 27, .ld none (.t 6), none⟩, ⟨some 28, .build [(.int .i64 0), (.int .i64 0), (.int .i64 0), (.int .i64 0), (.int .i64 0), (.int .i64 0), (.int .i64 0), (.str ⟨#[]⟩), .nils] [(0, 1, (.c (.int .i64 2))), (2, 1, (.t 26)), (5, 1, (.t 27))], none⟩, ⟨some 8, .alloc 55 [(.int .i64 0), (.int .i64 0), (.int .i64 0), (.int .i64 0), (.int .i64 0), (.int .i64 0), (.int .i64 0), (.str ⟨#[]⟩), .nils], none⟩, ⟨none, .st 9 (.t 8) (.t 28), none⟩])
 (.seq (.seq (.reg [⟨some 29, .fa 0 (.t 4), none⟩, ⟨some 30, .ld none (.t 29), none⟩, ⟨some 31, .bin .num .eql (.t 30) (.c (.int .i64 41)), none⟩])
 (.cond (.t 31) (.dreg [(⟨some 32, .ld none (.t 3), none⟩, 0), (⟨some 33, .nck (.t 32), none⟩, 1), (⟨some 34, .fa 1 (.t 33), none⟩, 3), (⟨some 35, .ld none (.t 34), none⟩, 7), (⟨some 36, .fa 1 (.t 5), none⟩, 0), (⟨some 37, .ld none (.t 36), none⟩, 16), (⟨some 38, .ia 1 (.t 35) (.t 37), none⟩, 63), (⟨some 39, .ld none (.t 38), none⟩, 127), (⟨some 40, .ld none (.t 3), none⟩, 0), (⟨some 41, .nck (.t 40), none⟩, 256), (⟨some 42, .fa 0 (.t 41), none⟩, 768), (⟨some 43, .ld none (.t 42), none⟩, 1792), (⟨some 44, .fa 1 (.t 5), none⟩, 0), (⟨some 45, .ld none (.t 44), none⟩, 4096), (⟨some 46, .ia 5 (.t 43) (.t 45), none⟩, 16128), (⟨some 47, .fa 3 (.t 46), none⟩, 32512), (⟨some 48, .ld none (.t 47), none⟩, 65280), (⟨some 49, .fa 1 (.t 4), none⟩, 0), (⟨some 50, .ld none (.t 49), none⟩, 131072), (⟨some 51, .call .full 116 [(.t 48), (.t 50)], none⟩, 524032), (⟨some 52, .bin .num .add (.t 39) (.t 51), none⟩, 1048575), (⟨some 53, .fa 2 (.t 8), none⟩, 2097151), (⟨none, .st 1 (.t 53) (.t 52), none⟩, 4194303)]) (.skip)))
 (.seq (.reg [⟨some 54, .ld none (.t 3), none⟩, ⟨some 55, .fa 1 (.t 5), none⟩, ⟨some 56, .ld none (.t 55), none⟩, ⟨some 57, .ld (some 9) (.t 8), none⟩, ⟨some 58, .bsl true 9 1 [(.int .i64 0), (.int .i64 0), (.int .i64 0), (.int .i64 0), (.int .i64 0), (.int .i64 0), (.int .i64 0), (.str ⟨#[]⟩), .nils] [(0, 9, (.t 57))], none⟩, ⟨some 59, .call .no 117 [(.t 54), (.t 56), (.t 58)], none⟩])
 y79b))))))
def a79 : AFn := ⟨118, [], y79a⟩
def a80 : AFn := ⟨6, [.tmp 4],
 .seq (.reg [⟨some 2, .box 24 (.t 0), none⟩, ⟨some 3, .box 3 (.t 1), none⟩, ⟨some 4, .mv (.c .nilf), none⟩])
 (.seq (.reg [⟨some 5, .mkf 118 [] [(.t 3), (.t 2)], none⟩, ⟨some 4, .mv (.t 5), none⟩])
 (.ret))⟩
def a81 : AFn := ⟨33, [.tmp 2],
 .seq (.reg [⟨some 2, .mv (.c .nilm), none⟩])
 (.seq (.reg [⟨some 3, .mkm, none⟩, ⟨some 4, .mv (.t 0), none⟩, ⟨some 5, .mkf 119 [(.t 4)] [], none⟩, ⟨none, .upd false (.t 3) (.c (.int .i64 1)) (.t 5), none⟩, ⟨some 6, .mv (.t 0), none⟩, ⟨some 7, .mkf 120 [(.t 6)] [], none⟩, ⟨none, .upd false (.t 3) (.c (.int .i64 8)) (.t 7), none⟩, ⟨some 8, .mv (.t 0), none⟩, ⟨some 9, .mkf 121 [(.t 8)] [], none⟩, ⟨none, .upd false (.t 3) (.c (.int .i64 11)) (.t 9), none⟩, ⟨some 10, .mv (.t 0), none⟩, ⟨some 11, .mkf 122 [(.t 10)] [], none⟩, ⟨none, .upd false (.t 3) (.c (.int .i64 13)) (.t 11), none⟩, ⟨some 12, .mv (.t 0), none⟩, ⟨some 13, .mkf 122 [(.t 12)] [], none⟩, ⟨none, .upd false (.t 3) (.c (.int .i64 14)) (.t 13), none⟩, ⟨some 14, .mv (.t 0), none⟩, ⟨some 15, .mkf 123 [(.t 14)] [], none⟩, ⟨none, .upd false (.t 3) (.c (.int .i64 17)) (.t 15), none⟩, ⟨some 16, .mv (.t 0), none⟩, ⟨some 17, .mkf 124 [(.t 16)] [], none⟩, ⟨none, .upd false (.t 3) (.c (.int .i64 21)) (.t 17), none⟩, ⟨some 18, .mv (.t 0), none⟩, ⟨some 19, .mkf 124 [(.t 18)] [], none⟩, ⟨none, .upd false (.t 3) (.c (.int .i64 22)) (.t 19), none⟩, ⟨some 20, .mv (.t 0), none⟩, ⟨some 21, .mkf 124 [(.t 20)] [], none⟩, ⟨none, .upd false (.t 3) (.c (.int .i64 23)) (.t 21), none⟩, ⟨some 22, .mv (.t 0), none⟩, ⟨some 23, .mkf 125 [(.t 22)] [], none⟩, ⟨none, .upd false (.t 3) (.c (.int .i64 15)) (.t 23), none⟩, ⟨some 24, .mv (.t 0), none⟩, ⟨some 25, .mkf 125 [(.t 24)] [], none⟩, ⟨none, .upd false (.t 3) (.c (.int .i64 16)) (.t 25), none⟩, ⟨some 26, .mv (.t 0), none⟩, ⟨some 27, .mkf 126 [(.t 26)] [], none⟩, ⟨none, .upd false (.t 3) (.c (.int .i64 30)) (.t 27), none⟩, ⟨some 28, .mv (.t 0), none⟩, ⟨some 29, .mkf 127 [(.t 28)] [], none⟩, ⟨none, .upd false (.t 3) (.c (.int .i64 36)) (.t 29), none⟩, ⟨some 30, .mv (.t 0), none⟩, ⟨some 31, .mkf 127 [(.t 30)] [], none⟩, ⟨none, .upd false (.t 3) (.c (.int .i64 37)) (.t 31), none⟩, ⟨some 32, .mv (.t 3), none⟩, ⟨some 2, .mv (.t 32), none⟩])
 (.ret))⟩
def a82 : AFn := ⟨16, [.tmp 4],
 .seq (.reg [⟨some 4, .mv (.c (.int .i64 0)), none⟩])
 (.seq (.reg [⟨some 5, .mv (.t 0), none⟩, ⟨some 6, .nck (.t 5), none⟩, ⟨some 7, .fa 1 (.t 6), none⟩, ⟨some 8, .ld none (.t 7), none⟩, ⟨some 9, .mv (.t 1), none⟩, ⟨some 10, .bin .num .quo (.t 9) (.c (.int .i64 1000)), none⟩, ⟨some 11, .ia 1 (.t 8) (.t 10), none⟩, ⟨some 12, .ld none (.t 11), none⟩, ⟨some 13, .mv (.t 1), none⟩, ⟨some 14, .bin .num .rem (.t 13) (.c (.int .i64 1000)), none⟩, ⟨some 15, .bin .num .add (.t 12) (.t 14), none⟩, ⟨some 4, .mv (.t 15), none⟩])
 (.ret))⟩
def a87 : AFn := ⟨22, [.tmp 2],
 .seq (.reg [⟨some 2, .mv (.c (.bool false)), none⟩])
 (.seq (.reg [⟨some 3, .mv (.t 0), none⟩, ⟨some 4, .bin .str .neq (.t 3) (.c (.str ⟨#[]⟩)), none⟩, ⟨some 5, .mv (.t 4), none⟩, ⟨some 6, .mv (.t 0), (some (5, true))⟩, ⟨some 7, .ixs (.t 6) (.c (.int .i64 0)), (some (5, true))⟩, ⟨some 8, .call .full 131 [(.t 7)], (some (5, true))⟩, ⟨some 9, .pick (.t 5) (.t 8) (.c (.bool false)), none⟩, ⟨some 10, .mv (.t 9), none⟩, ⟨some 11, .mv (.t 0), (some (10, true))⟩, ⟨some 12, .call .full 132 [(.t 11)], (some (10, true))⟩, ⟨some 13, .mv (.t 0), (some (10, true))⟩, ⟨some 14, .len true (.t 13), (some (10, true))⟩, ⟨some 15, .bin .num .eql (.t 12) (.t 14), (some (10, true))⟩, ⟨some 16, .pick (.t 10) (.t 15) (.c (.bool false)), none⟩, ⟨some 17, .mv (.t 16), none⟩, ⟨some 18, .mv (.t 0), (some (17, true))⟩, ⟨some 19, .call .full 133 [(.t 18)], (some (17, true))⟩, ⟨some 20, .un .not (.t 19), (some (17, true))⟩, ⟨some 21, .pick (.t 17) (.t 20) (.c (.bool false)), none⟩, ⟨some 2, .mv (.t 21), none⟩])
 (.ret))⟩
def a88 : AFn := ⟨5, [.tmp 2],
 .seq (.reg [⟨some 2, .mv (.c (.bool false)), none⟩])
 (.seq (.reg [⟨some 3, .mv (.t 0), none⟩, ⟨some 4, .bin .str .eql (.t 3) (.c (.str ⟨#[]⟩)), none⟩, ⟨some 2, .mv (.t 4), none⟩])
 (.ret))⟩
def a89 : AFn := ⟨3, [.tmp 2],
 .seq (.reg [⟨some 2, .mv (.c (.bool false)), none⟩])
 (.seq (.reg [⟨some 2, .mv (.c (.bool true)), none⟩])
 (.ret))⟩
def a90 : AFn := ⟨9, [.tmp 2],
 .seq (.reg [⟨some 2, .mv (.c (.bool false)), none⟩])
 (.seq (.reg [⟨some 3, .mv (.t 0), none⟩, ⟨some 4, .bin .str .eql (.t 3) (.c (.str ⟨#[]⟩)), none⟩, ⟨some 5, .mv (.t 4), none⟩, ⟨some 6, .mv (.t 0), (some (5, false))⟩, ⟨some 7, .call .full 87 [(.t 6)], (some (5, false))⟩, ⟨some 8, .pick (.t 5) (.c (.bool true)) (.t 7), none⟩, ⟨some 2, .mv (.t 8), none⟩])
 (.ret))⟩
def a91 : AFn := ⟨9, [.tmp 2],
 .seq (.reg [⟨some 2, .mv (.c (.bool false)), none⟩])
 (.seq (.reg [⟨some 3, .mv (.t 0), none⟩, ⟨some 4, .call .full 87 [(.t 3)], none⟩, ⟨some 5, .mv (.t 4), none⟩, ⟨some 6, .mv (.t 0), (some (5, false))⟩, ⟨some 7, .call .full 133 [(.t 6)], (some (5, false))⟩, ⟨some 8, .pick (.t 5) (.c (.bool true)) (.t 7), none⟩, ⟨some 2, .mv (.t 8), none⟩])
 (.ret))⟩
def a92 : AFn := ⟨10, [.tmp 2],
 .seq (.reg [⟨some 2, .mv (.c (.bool false)), none⟩])
 (.seq (.reg [⟨some 3, .mv (.t 0), none⟩, ⟨some 4, .bin .str .neq (.t 3) (.c (.str ⟨#[]⟩)), none⟩, ⟨some 5, .mv (.t 4), none⟩, ⟨some 6, .call .full 135 [(.c (.str ⟨#[43, 32, 45, 32, 42, 32, 60, 32, 60, 61, 32, 61, 61, 61, 32, 33, 61, 61]⟩))], (some (5, true))⟩, ⟨some 7, .mv (.t 0), (some (5, true))⟩, ⟨some 8, .call .full 134 [(.t 6), (.t 7)], (some (5, true))⟩, ⟨some 9, .pick (.t 5) (.t 8) (.c (.bool false)), none⟩, ⟨some 2, .mv (.t 9), none⟩])
 (.ret))⟩
def a93 : AFn := ⟨38, [.tmp 4],
 .seq (.reg [⟨some 2, .box 24 (.t 0), none⟩, ⟨some 4, .mv (.c .nilf), none⟩])
 (.seq (.reg [⟨some 5, .mv (.c (.fn 136 [] [])), none⟩])
 (.seq (.reg [⟨some 6, .mv (.c (.fn 137 [] [])), none⟩])
 (.seq (.seq (.reg [⟨some 7, .fa 0 (.t 2), none⟩, ⟨some 8, .ld none (.t 7), none⟩])
 (.block 0 (.seq (.seq (.reg [⟨some 10, .bin .num .eql (.t 8) (.c (.int .i64 10)), none⟩, ⟨some 9, .mv (.t 10), none⟩])
 (.cond (.t 9) (.skip) (.reg [⟨some 11, .bin .num .eql (.t 8) (.c (.int .i64 41)), none⟩, ⟨some 9, .mv (.t 11), none⟩])))
 (.cond (.t 9) (.seq (.seq (.reg [⟨some 12, .mv (.t 1), none⟩, ⟨some 13, .fa 3 (.t 2), none⟩, ⟨some 14, .ld none (.t 13), none⟩, ⟨some 15, .len false (.t 14), none⟩, ⟨some 16, .bin .num .sub (.t 15) (.c (.int .i64 1)), none⟩, ⟨some 17, .bin .num .eql (.t 12) (.t 16), none⟩])
 (.cond (.t 17) (.seq (.reg [⟨some 18, .mv (.t 5), none⟩, ⟨some 4, .mv (.t 18), none⟩])
 (.ret)) (.skip)))
 (.seq (.reg [⟨some 4, .mv (.c (.fn 139 [] [])), none⟩])
 (.ret))) (.seq (.reg [⟨some 20, .bin .num .eql (.t 8) (.c (.int .i64 11)), none⟩, ⟨some 19, .mv (.t 20), none⟩])
 (.cond (.t 19) (.seq (.reg [⟨some 4, .mv (.c (.fn 140 [] [])), none⟩])
 (.ret)) (.seq (.reg [⟨some 22, .bin .num .eql (.t 8) (.c (.int .i64 32)), none⟩, ⟨some 21, .mv (.t 22), none⟩])
 (.cond (.t 21) (.seq (.reg [⟨some 4, .mv (.c (.fn 141 [] [])), none⟩])
 (.ret)) (.seq (.reg [⟨some 24, .bin .num .eql (.t 8) (.c (.int .i64 17)), none⟩, ⟨some 23, .mv (.t 24), none⟩])
 (.cond (.t 23) (.seq (.reg [⟨some 25, .mv (.t 1), none⟩, ⟨some 26, .bin .num .eql (.t 25) (.c (.int .i64 0)), none⟩])
 (.cond (.t 26) (.seq (.reg [⟨some 4, .mv (.c (.fn 142 [] [])), none⟩])
 (.ret)) (.skip))) (.seq (.reg [⟨some 28, .bin .num .eql (.t 8) (.c (.int .i64 38)), none⟩, ⟨some 27, .mv (.t 28), none⟩])
 (.cond (.t 27) (.seq (.reg [⟨some 29, .mv (.t 5), none⟩, ⟨some 4, .mv (.t 29), none⟩])
 (.ret)) (.seq (.seq (.reg [⟨some 31, .bin .num .eql (.t 8) (.c (.int .i64 33)), none⟩, ⟨some 30, .mv (.t 31), none⟩])
 (.cond (.t 30) (.skip) (.seq (.reg [⟨some 32, .bin .num .eql (.t 8) (.c (.int .i64 34)), none⟩, ⟨some 30, .mv (.t 32), none⟩])
 (.cond (.t 30) (.skip) (.reg [⟨some 33, .bin .num .eql (.t 8) (.c (.int .i64 35)), none⟩, ⟨some 30, .mv (.t 33), none⟩])))))
 (.cond (.t 30) (.seq (.reg [⟨some 34, .mv (.t 1), none⟩, ⟨some 35, .bin .num .gtr (.t 34) (.c (.int .i64 0)), none⟩])
 (.cond (.t 35) (.seq (.reg [⟨some 36, .mv (.t 5), none⟩, ⟨some 4, .mv (.t 36), none⟩])
 (.ret)) (.skip))) (.skip)))))))))))))))
 (.seq (.reg [⟨some 37, .mv (.t 6), none⟩, ⟨some 4, .mv (.t 37), none⟩])
 (.ret)))))⟩
def a94 : AFn := ⟨40, [],
 .seq (.reg [⟨some 7, .mv (.t 0), none⟩, ⟨some 8, .nck (.t 7), none⟩, ⟨some 9, .fa 5 (.t 8), none⟩, ⟨some 10, .ld none (.t 9), none⟩, ⟨some 11, .mv (.t 1), none⟩, ⟨some 12, .lkp true (.int .i64 0) true (.t 10) (.t 11), none⟩, ⟨some 6, .mv (.t 12), none⟩, ⟨some 13, .ext 0 (.t 6), none⟩, ⟨some 14, .ext 1 (.t 6), none⟩, ⟨some 4, .mv (.t 13), none⟩, ⟨some 5, .mv (.t 14), none⟩])
 (.seq (.reg [⟨some 15, .mv (.t 5), none⟩, ⟨some 16, .un .not (.t 15), none⟩])
 (.cond (.t 16) (.seq (.dreg [(⟨some 17, .mv (.t 0), none⟩, 0), (⟨some 18, .nck (.t 17), none⟩, 1), (⟨some 19, .fa 5 (.t 18), none⟩, 3), (⟨some 20, .ld none (.t 19), none⟩, 7), (⟨some 21, .mv (.t 1), none⟩, 0), (⟨some 22, .mv (.t 0), none⟩, 0), (⟨some 23, .nck (.t 22), none⟩, 32), (⟨some 24, .fa 0 (.t 23), none⟩, 96), (⟨some 25, .fa 3 (.t 24), none⟩, 224), (⟨some 26, .ld none (.t 25), none⟩, 480), (⟨some 27, .len false (.t 26), none⟩, 992), (⟨none, .upd true (.t 20) (.t 21) (.t 27), none⟩, 2047)])
 (.reg [⟨some 28, .mv (.t 0), none⟩, ⟨some 29, .mv (.t 0), none⟩, ⟨some 30, .nck (.t 29), none⟩, ⟨some 31, .fa 0 (.t 30), none⟩, ⟨some 32, .fa 3 (.t 31), none⟩, ⟨some 33, .ld none (.t 32), none⟩, ⟨some 34, .mv (.t 1), none⟩, ⟨some 35, .bsl true 1 1 [(.str ⟨#[]⟩)] [(0, 1, (.t 34))], none⟩, ⟨some 36, .app 1 16 (.t 33) (.t 35), none⟩, ⟨some 37, .nck (.t 28), none⟩, ⟨some 38, .fa 0 (.t 37), none⟩, ⟨some 39, .fa 3 (.t 38), none⟩, ⟨none, .st 1 (.t 39) (.t 36), none⟩])) (.skip)))⟩
def a95 : AFn := ⟨4, [.tmp 2],
 .seq (.reg [⟨some 1, .box 24 (.t 0), none⟩, ⟨some 2, .mv (.c .nilf), none⟩])
 (.seq (.reg [⟨some 3, .mkf 143 [] [(.t 1)], none⟩, ⟨some 2, .mv (.t 3), none⟩])
 (.ret))⟩
def a96 : AFn := ⟨11, [.tmp 2],
 .seq (.reg [⟨some 1, .box 24 (.t 0), none⟩, ⟨some 2, .mv (.c (.bool false)), none⟩])
 (.seq (.reg [⟨some 3, .fa 0 (.t 1), none⟩, ⟨some 4, .ld none (.t 3), none⟩, ⟨some 5, .bin .num .eql (.t 4) (.c (.int .i64 41)), none⟩, ⟨some 6, .mv (.t 5), none⟩, ⟨some 7, .fa 0 (.t 1), (some (6, false))⟩, ⟨some 8, .ld none (.t 7), (some (6, false))⟩, ⟨some 9, .bin .num .eql (.t 8) (.c (.int .i64 10)), (some (6, false))⟩, ⟨some 10, .pick (.t 6) (.c (.bool true)) (.t 9), none⟩, ⟨some 2, .mv (.t 10), none⟩])
 (.ret))⟩
def a97 : AFn := ⟨77, [.cell 6 (some 5)],
 .seq (.reg [⟨some 4, .box 24 (.t 1), none⟩, ⟨some 6, .alloc 24 [(.int .i64 0), (.str ⟨#[]⟩), (.int .i64 0), .nils, (.int .i64 0)], none⟩])
 (.seq (.reg [⟨some 12, .fa 3 (.t 4), none⟩, ⟨some 13, .ld none (.t 12), none⟩, ⟨some 14, .len false (.t 13), none⟩, ⟨some 15, .bin .num .sub (.t 14) (.c (.int .i64 1)), none⟩, ⟨some 7, .mv (.t 15), none⟩])
 (.seq (.reg [⟨some 8, .mv (.c (.str ⟨#[]⟩)), none⟩])
 (.seq (.seq (.reg [⟨some 16, .fa 0 (.t 4), none⟩, ⟨some 17, .ld none (.t 16), none⟩, ⟨some 18, .bin .num .eql (.t 17) (.c (.int .i64 10)), none⟩])
 (.cond (.t 18) (.reg [⟨some 19, .fa 1 (.t 4), none⟩, ⟨some 20, .ld none (.t 19), none⟩, ⟨some 8, .mv (.t 20), none⟩]) (.skip)))
 (.seq (.dreg [(⟨some 21, .mv (.t 0), none⟩, 0), (⟨some 22, .mv (.t 2), none⟩, 0), (⟨some 23, .fa 1 (.t 4), none⟩, 0), (⟨some 24, .ld none (.t 23), none⟩, 4), (⟨some 25, .mv (.t 0), none⟩, 0), (⟨some 26, .call .keep 99 [(.t 25), (.c (.int .i64 2))], none⟩, 16), (⟨some 27, .build [(.int .i64 0), (.str ⟨#[]⟩), (.int .i64 0), .nils, (.int .i64 0)] [(0, 1, (.t 22)), (1, 1, (.t 24)), (4, 1, (.t 26))], none⟩, 62), (⟨some 28, .fa 3 (.t 4), none⟩, 0), (⟨some 29, .ld none (.t 28), none⟩, 128), (⟨some 30, .mv (.t 7), none⟩, 0), (⟨some 31, .slc (some 5) (.t 29) none (some (.t 30)), none⟩, 896), (⟨some 32, .mv (.t 8), none⟩, 0), (⟨some 33, .fa 3 (.t 4), none⟩, 0), (⟨some 34, .ld none (.t 33), none⟩, 4096), (⟨some 35, .mv (.t 7), none⟩, 0), (⟨some 36, .ia 5 (.t 34) (.t 35), none⟩, 28672), (⟨some 37, .ld (some 5) (.t 36), none⟩, 61440), (⟨some 38, .call .no 62 [(.t 27), (.t 31), (.t 32), (.t 37)], none⟩, 131070), (⟨some 39, .fa 4 (.t 4), none⟩, 0), (⟨some 40, .ld none (.t 39), none⟩, 262144), (⟨some 41, .call .no 61 [(.t 21), (.t 38), (.t 40)], none⟩, 1048575), (⟨some 9, .mv (.t 41), none⟩, 2097151)])
 (.seq (.reg [⟨some 42, .mv (.t 9), none⟩, ⟨some 43, .fa 2 (.t 4), none⟩, ⟨none, .st 1 (.t 43) (.t 42), none⟩])
 (.seq (.reg [⟨some 44, .fa 3 (.t 4), none⟩, ⟨some 45, .ld none (.t 44), none⟩, ⟨some 46, .call .no 144 [(.t 45)], none⟩, ⟨some 10, .mv (.t 46), none⟩])
 (.seq (.seq (.reg [⟨some 47, .mv (.t 7), none⟩, ⟨some 48, .mv (.c (.int .i64 0)), none⟩])
 (.block 0 (.loop (.seq (.reg [⟨some 49, .bin .num .lss (.t 48) (.t 47), none⟩])
 (.seq (.cond (.t 49) (.skip) (.exit 0))
 (.seq (.block 1 (.seq (.reg [⟨some 50, .mv (.t 48), none⟩, ⟨some 11, .mv (.t 50), none⟩])
 (.reg [⟨some 51, .mv (.t 10), none⟩, ⟨some 52, .mv (.t 11), none⟩, ⟨some 53, .mv (.t 0), none⟩, ⟨some 54, .mv (.t 9), none⟩, ⟨some 55, .mv (.t 10), none⟩, ⟨some 56, .mv (.t 11), none⟩, ⟨some 57, .ia 5 (.t 55) (.t 56), none⟩, ⟨some 58, .fa 1 (.t 57), none⟩, ⟨some 59, .ld none (.t 58), none⟩, ⟨some 60, .call .full 98 [(.t 53), (.t 54), (.t 59)], none⟩, ⟨some 61, .ia 5 (.t 51) (.t 52), none⟩, ⟨some 62, .fa 2 (.t 61), none⟩, ⟨none, .st 1 (.t 62) (.t 60), none⟩])))
 (.reg [⟨some 63, .bin .num .add (.t 48) (.c (.int .i64 1)), none⟩, ⟨some 48, .mv (.t 63), none⟩])))))))
 (.seq (.reg [⟨some 64, .mv (.t 10), none⟩, ⟨some 65, .mv (.t 7), none⟩, ⟨some 66, .mv (.t 0), none⟩, ⟨some 67, .mv (.t 10), none⟩, ⟨some 68, .mv (.t 7), none⟩, ⟨some 69, .ia 5 (.t 67) (.t 68), none⟩, ⟨some 70, .ld (some 5) (.t 69), none⟩, ⟨some 71, .mv (.t 9), none⟩, ⟨some 72, .call .no 63 [(.t 66), (.t 70), (.t 71), (.c (.bool false))], none⟩, ⟨some 73, .ia 5 (.t 64) (.t 65), none⟩, ⟨none, .st 5 (.t 73) (.t 72), none⟩])
 (.seq (.reg [⟨some 74, .frz (.t 10), none⟩, ⟨some 75, .fa 3 (.t 4), none⟩, ⟨none, .st 1 (.t 75) (.t 74), none⟩])
 (.seq (.reg [⟨some 76, .ld (some 5) (.t 4), none⟩, ⟨none, .st 5 (.t 6) (.t 76), none⟩])
 (.ret)))))))))))⟩
def a98 : AFn := ⟨44, [.tmp 6],
 .seq (.reg [⟨some 6, .mv (.c (.int .i64 0)), none⟩])
 (.scope (.seq (.reg [⟨some 7, .mv (.c (.int .i64 (-1))), none⟩])
 (.seq (.skip)
 (.seq (.block 0 (.loop (.seq (.seq (.reg [⟨some 10, .mv (.t 1), none⟩, ⟨some 11, .bin .num .geq (.t 10) (.c (.int .i64 0)), none⟩])
 (.cond (.t 11) (.skip) (.exit 0)))
 (.seq (.block 1 (.seq (.reg [⟨some 24, .mv (.t 0), none⟩, ⟨some 25, .nck (.t 24), none⟩, ⟨some 26, .fa 0 (.t 25), none⟩, ⟨some 27, .ld none (.t 26), none⟩, ⟨some 28, .mv (.t 1), none⟩, ⟨some 29, .ia 1 (.t 27) (.t 28), none⟩, ⟨some 30, .ld none (.t 29), none⟩, ⟨some 31, .nck (.t 30), none⟩, ⟨some 32, .fa 5 (.t 31), none⟩, ⟨some 33, .ld none (.t 32), none⟩, ⟨some 34, .mv (.t 2), none⟩, ⟨some 35, .lkp true (.int .i64 0) true (.t 33) (.t 34), none⟩, ⟨some 23, .mv (.t 35), none⟩, ⟨some 36, .ext 0 (.t 23), none⟩, ⟨some 37, .ext 1 (.t 23), none⟩, ⟨some 8, .mv (.t 36), none⟩, ⟨some 9, .mv (.t 37), none⟩])
 (.seq (.reg [⟨some 38, .mv (.t 9), none⟩])
 (.cond (.t 38) (.seq (.reg [⟨some 39, .mv (.t 1), none⟩, ⟨some 40, .bin .num .mul (.t 39) (.c (.int .i64 1000)), none⟩, ⟨some 41, .mv (.t 8), none⟩, ⟨some 42, .bin .num .add (.t 40) (.t 41), none⟩, ⟨some 7, .mv (.t 42), none⟩])
 (.exit 0)) (.skip)))))
 (.reg [⟨some 12, .mv (.t 0), none⟩, ⟨some 13, .nck (.t 12), none⟩, ⟨some 14, .fa 0 (.t 13), none⟩, ⟨some 15, .ld none (.t 14), none⟩, ⟨some 16, .mv (.t 1), none⟩, ⟨some 17, .ia 1 (.t 15) (.t 16), none⟩, ⟨some 18, .ld none (.t 17), none⟩, ⟨some 19, .nck (.t 18), none⟩, ⟨some 20, .fa 0 (.t 19), none⟩, ⟨some 21, .fa 0 (.t 20), none⟩, ⟨some 22, .ld none (.t 21), none⟩, ⟨some 1, .mv (.t 22), none⟩])))))
 (.seq (.reg [⟨some 43, .mv (.t 7), none⟩, ⟨some 6, .mv (.t 43), none⟩])
 (.ret))))))⟩
def a99 : AFn := ⟨19, [.tmp 4],
 .seq (.reg [⟨some 4, .mv (.c (.int .i64 0)), none⟩])
 (.seq (.reg [⟨some 5, .mv (.t 0), none⟩, ⟨some 6, .nck (.t 5), none⟩, ⟨some 7, .fa 1 (.t 6), none⟩, ⟨some 8, .ld none (.t 7), none⟩, ⟨some 9, .mv (.t 1), none⟩, ⟨some 10, .bin .num .add (.t 8) (.t 9), none⟩, ⟨some 11, .nck (.t 5), none⟩, ⟨some 12, .fa 1 (.t 11), none⟩, ⟨none, .st 1 (.t 12) (.t 10), none⟩])
 (.seq (.reg [⟨some 13, .mv (.t 0), none⟩, ⟨some 14, .nck (.t 13), none⟩, ⟨some 15, .fa 1 (.t 14), none⟩, ⟨some 16, .ld none (.t 15), none⟩, ⟨some 17, .mv (.t 1), none⟩, ⟨some 18, .bin .num .sub (.t 16) (.t 17), none⟩, ⟨some 4, .mv (.t 18), none⟩])
 (.ret)))⟩
def a103 : AFn := ⟨30, [.cell 4 (some 5)],
 .seq (.reg [qo 4 (.alloc 130 z6)])
 (.seq (.seq (.dreg [(qv 5 0, 0), (qn 6 5, 1), (qf 7 1 6, 3), (ql 8 7, 7), (qv 9 1, 0), (qo 10 (.bin .num .add (.t 8) (.t 9)), 31), (qv 11 0, 0), (qn 12 11, 64), (qf 13 0 12, 192), (ql 14 13, 448), (qo 15 (.len false (.t 14)), 960), (qo 16 (.bin .num .lss (.t 10) (.t 15)), 2047)])
 (.cond (.t 16) (.seq (.dreg [(qv 17 0, 0), (qn 18 17, 1), (qf 19 0 18, 3), (ql 20 19, 7), (qv 21 0, 0), (qn 22 21, 16), (qf 23 1 22, 48), (ql 24 23, 112), (qv 25 1, 0), (qo 26 (.bin .num .add (.t 24) (.t 25)), 496), (qo 27 (.ia 5 (.t 20) (.t 26)), 1023), (qo 28 (.ld (some 5) (.t 27)), 2047), (⟨none, .st 5 (.t 4) (.t 28), none⟩, 4095)])
 (.ret)) (.skip)))
 (.seq (.reg [qo 29 (.build z6 []), ⟨none, .st 5 (.t 4) (.t 29), none⟩])
 (.ret)))⟩
def a104 : AFn := ⟨29, [.tmp 4],
 .seq (.reg [qo 4 (.mv (.c (.bool false)))])
 (.seq (.reg [qv 6 0, qo 7 (.call .no 103 [(.t 6), (qi 0)]), qo 5 (.alloc 130 z6), ⟨none, .st 5 (.t 5) (.t 7), none⟩])
 (.seq (.reg [qv 8 0, qn 9 8, qf 10 2 9, ql 11 10, qo 12 (.bin .num .eql (.t 11) (qi 0)), qv 13 12, qg 14 (.fa 0 (.t 5)) 13 true, qg 15 (.ld none (.t 14)) 13 true, qg 16 (.bin .num .eql (.t 15) (qi 5)) 13 true, qg 17 (.mv (.t 16)) 13 true, qg 18 (.fa 0 (.t 5)) 17 false, qg 19 (.ld none (.t 18)) 17 false, qg 20 (.bin .num .eql (.t 19) (qi 2)) 17 false, qg 21 (.pick (.t 17) (.c (.bool true)) (.t 20)) 13 true, qo 22 (.pick (.t 13) (.t 21) (.c (.bool false))), qv 23 22, qg 24 (.fa 1 (.t 5)) 23 true, qg 25 (.ld none (.t 24)) 23 true, qg 26 (.mv (.t 1)) 23 true, qg 27 (.bin .str .eql (.t 25) (.t 26)) 23 true, qo 28 (.pick (.t 23) (.t 27) (.c (.bool false))), qv 4 28])
 (.ret)))⟩
def a105 : AFn := ⟨18, [.tmp 4],
 .seq (.reg [qo 4 (.mv (.c (.bool false)))])
 (.seq (.reg [qv 6 0, qv 7 1, qo 8 (.call .no 104 [(.t 6), (.t 7)]), qv 5 8])
 (.seq (.seq (.reg [qv 9 5])
 (.cond (.t 9) (.reg [qv 10 0, qn 11 10, qf 12 1 11, ql 13 12, qo 14 (.bin .num .add (.t 13) (qi 1)), qn 15 10, qf 16 1 15, ⟨none, .st 1 (.t 16) (.t 14), none⟩]) (.skip)))
 (.seq (.reg [qv 17 5, qv 4 17])
 (.ret))))⟩
def a106 : AFn := ⟨72, [.cell 2 (some 5)],
 .seq (.reg [qo 2 (.alloc 24 z5)])
 (.seq (.reg [qv 7 0, qo 8 (.call .no 103 [(.t 7), (qi 0)]), qo 3 (.alloc 130 z6), ⟨none, .st 5 (.t 3) (.t 8), none⟩])
 (.seq (.reg [qf 9 3 3, ql 10 9, qo 11 (.build z5 [(4, 1, (.t 10))]), qo 4 (.alloc 24 z5), ⟨none, .st 5 (.t 4) (.t 11), none⟩])
 (.seq (.seq (.reg [qf 12 0 3, ql 13 12, qo 14 (.bin .num .eql (.t 13) (qi 5)), qv 15 14, qg 16 (.fa 1 (.t 3)) 15 true, qg 17 (.ld none (.t 16)) 15 true, qg 18 (.bin .str .eql (.t 17) (qs #[123])) 15 true, qo 19 (.pick (.t 15) (.t 18) (.c (.bool false)))])
 (.cond (.t 19) (.seq (.reg [qv 20 0, qo 21 (.call .no 145 [(.t 20)]), ⟨none, .st 5 (.t 2) (.t 21), none⟩])
 (.ret)) (.skip)))
 (.seq (.seq (.reg [qf 22 0 3, ql 23 22, qo 24 (.bin .num .eql (.t 23) (qi 2))])
 (.cond (.t 24) (.seq (.reg [qv 25 0, qf 26 1 3, ql 27 26, qo 28 (.call .no 146 [(.t 25), (.t 4), (.t 27)]), qv 5 28])
 (.seq (.reg [qv 29 5])
 (.cond (.t 29) (.seq (.reg [qo 30 (.ld (some 5) (.t 4)), ⟨none, .st 5 (.t 2) (.t 30), none⟩])
 (.ret)) (.skip)))) (.skip)))
 (.seq (.reg [qv 31 0, qo 32 (.call .no 103 [(.t 31), (qi 1)]), qo 6 (.alloc 130 z6), ⟨none, .st 5 (.t 6) (.t 32), none⟩])
 (.seq (.seq (.reg [qf 33 0 3, ql 34 33, qo 35 (.bin .num .eql (.t 34) (qi 1)), qv 36 35, qg 37 (.fa 0 (.t 6)) 36 true, qg 38 (.ld none (.t 37)) 36 true, qg 39 (.bin .num .eql (.t 38) (qi 5)) 36 true, qo 40 (.pick (.t 36) (.t 39) (.c (.bool false))), qv 41 40, qg 42 (.fa 1 (.t 6)) 41 true, qg 43 (.ld none (.t 42)) 41 true, qg 44 (.bin .str .eql (.t 43) (qs #[58])) 41 true, qo 45 (.pick (.t 41) (.t 44) (.c (.bool false)))])
 (.cond (.t 45) (.seq (.reg [qf 46 1 3, ql 47 46, qo 48 (.bin .str .neq (.t 47) (qs #[101, 118, 97, 108])), qv 49 48, qg 50 (.fa 1 (.t 3)) 49 true, qg 51 (.ld none (.t 50)) 49 true, qg 52 (.bin .str .neq (.t 51) (qs #[97, 114, 103, 117, 109, 101, 110, 116, 115])) 49 true, qo 53 (.pick (.t 49) (.t 52) (.c (.bool false)))])
 (.cond (.t 53) (.seq (.reg [qv 54 0, qn 55 54, qf 56 1 55, ql 57 56, qo 58 (.bin .num .add (.t 57) (qi 1)), qn 59 54, qf 60 1 59, ⟨none, .st 1 (.t 60) (.t 58), none⟩])
 (.seq (.reg [qv 61 0, qo 62 (.call .no 107 [(.t 61), (qi 45)])])
 (.seq (.reg [qo 63 (.ld (some 5) (.t 4)), ⟨none, .st 5 (.t 2) (.t 63), none⟩])
 (.ret)))) (.skip))) (.skip)))
 (.seq (.reg [qf 64 0 4, ⟨none, .st 1 (.t 64) (qi 31), none⟩])
 (.seq (.reg [qv 65 0, qo 66 (.call .no 147 [(.t 65)]), qo 67 (.bsl true 5 1 z5 [(0, 5, (.t 66))]), qf 68 3 4, ⟨none, .st 1 (.t 68) (.t 67), none⟩])
 (.seq (.reg [qv 69 0, qo 70 (.call .no 148 [(.t 69)])])
 (.seq (.reg [qo 71 (.ld (some 5) (.t 4)), ⟨none, .st 5 (.t 2) (.t 71), none⟩])
 (.ret)))))))))))⟩
def a107 : AFn := ⟨59, [],
 .seq (.seq (.reg [qv 4 0, qn 5 4, qf 6 2 5, ql 7 6, qo 8 (.bin .num .neq (.t 7) (qi 0))])
 (.cond (.t 8) (.ret) (.skip)))
 (.seq (.reg [qv 9 0, qv 10 1, qn 11 9, qf 12 2 11, ⟨none, .st 1 (.t 12) (.t 10), none⟩])
 (.seq (.dreg [(qv 13 0, 0), (qn 14 13, 1), (qf 15 1 14, 3), (ql 16 15, 7), (qv 17 0, 0), (qn 18 17, 16), (qf 19 0 18, 48), (ql 20 19, 112), (qo 21 (.len false (.t 20)), 240), (qo 22 (.bin .num .lss (.t 16) (.t 21)), 511)])
 (.cond (.t 22) (.dreg [(qv 23 0, 0), (qv 24 0, 0), (qn 25 24, 2), (qf 26 0 25, 6), (ql 27 26, 14), (qv 28 0, 0), (qn 29 28, 32), (qf 30 1 29, 96), (ql 31 30, 224), (qo 32 (.ia 5 (.t 27) (.t 31)), 510), (qf 33 3 32, 1022), (ql 34 33, 2046), (qn 35 23, 4095), (qf 36 3 35, 8191), (⟨none, .st 1 (.t 36) (.t 34), none⟩, 16383)]) (.seq (.reg [qv 37 0, qn 38 37, qf 39 0 38, ql 40 39, qo 41 (.len false (.t 40)), qo 42 (.bin .num .gtr (.t 41) (qi 0))])
 (.cond (.t 42) (.dreg [(qv 43 0, 0), (qv 44 0, 0), (qn 45 44, 2), (qf 46 0 45, 6), (ql 47 46, 14), (qv 48 0, 0), (qn 49 48, 32), (qf 50 0 49, 96), (ql 51 50, 224), (qo 52 (.len false (.t 51)), 480), (qo 53 (.bin .num .sub (.t 52) (qi 1)), 992), (qo 54 (.ia 5 (.t 47) (.t 53)), 2046), (qf 55 3 54, 4094), (ql 56 55, 8190), (qn 57 43, 16383), (qf 58 3 57, 32767), (⟨none, .st 1 (.t 58) (.t 56), none⟩, 65535)]) (.skip))))))⟩
def a108 : AFn := ⟨15, [.tmp 2],
 .seq (.reg [qo 2 (.mv (.c (.bool false)))])
 (.seq (.seq (.reg [qv 3 0])
 (.block 0 (.seq (.seq (.reg [qo 5 (.bin .str .eql (.t 3) (qs #[99, 97, 115, 101])), qv 4 5])
 (.cond (.t 4) (.skip) (.seq (.reg [qo 6 (.bin .str .eql (.t 3) (qs #[100, 101, 98, 117, 103, 103, 101, 114])), qv 4 6])
 (.cond (.t 4) (.skip) (.seq (.reg [qo 7 (.bin .str .eql (.t 3) (qs #[100, 101, 102, 97, 117, 108, 116])), qv 4 7])
 (.cond (.t 4) (.skip) (.seq (.reg [qo 8 (.bin .str .eql (.t 3) (qs #[100, 101, 108, 101, 116, 101])), qv 4 8])
 (.cond (.t 4) (.skip) (.seq (.reg [qo 9 (.bin .str .eql (.t 3) (qs #[100, 111])), qv 4 9])
 (.cond (.t 4) (.skip) (.seq (.reg [qo 10 (.bin .str .eql (.t 3) (qs #[102, 105, 110, 97, 108, 108, 121])), qv 4 10])
 (.cond (.t 4) (.skip) (.seq (.reg [qo 11 (.bin .str .eql (.t 3) (qs #[105, 110, 115, 116, 97, 110, 99, 101, 111, 102])), qv 4 11])
 (.cond (.t 4) (.skip) (.seq (.reg [qo 12 (.bin .str .eql (.t 3) (qs #[115, 119, 105, 116, 99, 104])), qv 4 12])
 (.cond (.t 4) (.skip) (.seq (.reg [qo 13 (.bin .str .eql (.t 3) (qs #[116, 121, 112, 101, 111, 102])), qv 4 13])
 (.cond (.t 4) (.skip) (.reg [qo 14 (.bin .str .eql (.t 3) (qs #[118, 111, 105, 100])), qv 4 14])))))))))))))))))))
 (.cond (.t 4) (.seq (.reg [qo 2 (.mv (.c (.bool true)))])
 (.ret)) (.skip)))))
 (.seq (.reg [qo 2 (.mv (.c (.bool false)))])
 (.ret)))⟩
def a109 : AFn := ⟨86, [.tmp 2],
 .seq (.reg [qo 2 (.mv (qi 0))])
 (.seq (.seq (.reg [qv 4 0, qo 5 (.ixs (.t 4) (qi 0)), qo 6 (.bin .num .eql (.t 5) (.c (.int .u8 32))), qv 7 6, qg 8 (.mv (.t 0)) 7 false, qg 9 (.ixs (.t 8) (qi 0)) 7 false, qg 10 (.bin .num .eql (.t 9) (.c (.int .u8 9))) 7 false, qo 11 (.pick (.t 7) (.c (.bool true)) (.t 10)), qv 12 11, qg 13 (.mv (.t 0)) 12 false, qg 14 (.ixs (.t 13) (qi 0)) 12 false, qg 15 (.bin .num .eql (.t 14) (.c (.int .u8 13))) 12 false, qo 16 (.pick (.t 12) (.c (.bool true)) (.t 15)), qv 17 16, qg 18 (.mv (.t 0)) 17 false, qg 19 (.ixs (.t 18) (qi 0)) 17 false, qg 20 (.bin .num .eql (.t 19) (.c (.int .u8 10))) 17 false, qo 21 (.pick (.t 17) (.c (.bool true)) (.t 20))])
 (.cond (.t 21) (.seq (.reg [qo 2 (.mv (qi 1))])
 (.ret)) (.skip)))
 (.seq (.seq (.reg [qv 22 0, qo 23 (.len true (.t 22)), qo 24 (.bin .num .lss (.t 23) (qi 2)), qv 25 24, qg 26 (.mv (.t 0)) 25 false, qg 27 (.ixs (.t 26) (qi 0)) 25 false, qg 28 (.bin .num .neq (.t 27) (.c (.int .u8 47))) 25 false, qo 29 (.pick (.t 25) (.c (.bool true)) (.t 28)), qv 30 29, qg 31 (.mv (.t 0)) 30 false, qg 32 (.ixs (.t 31) (qi 1)) 30 false, qg 33 (.bin .num .neq (.t 32) (.c (.int .u8 47))) 30 false, qg 34 (.mv (.t 33)) 30 false, qg 35 (.mv (.t 0)) 34 true, qg 36 (.ixs (.t 35) (qi 1)) 34 true, qg 37 (.bin .num .neq (.t 36) (.c (.int .u8 42))) 34 true, qg 38 (.pick (.t 34) (.t 37) (.c (.bool false))) 30 false, qo 39 (.pick (.t 30) (.c (.bool true)) (.t 38))])
 (.cond (.t 39) (.seq (.reg [qo 2 (.mv (qi 0))])
 (.ret)) (.skip)))
 (.seq (.seq (.reg [qo 3 (.mv (qi 2))])
 (.block 0 (.loop (.seq (.seq (.reg [qv 40 3, qv 41 0, qo 42 (.len true (.t 41)), qo 43 (.bin .num .lss (.t 40) (.t 42))])
 (.cond (.t 43) (.skip) (.exit 0)))
 (.seq (.block 1 (.seq (.seq (.reg [qv 46 0, qo 47 (.ixs (.t 46) (qi 1)), qo 48 (.bin .num .eql (.t 47) (.c (.int .u8 47))), qv 49 48, qg 50 (.mv (.t 0)) 49 true, qg 51 (.mv (.t 3)) 49 true, qg 52 (.ixs (.t 50) (.t 51)) 49 true, qg 53 (.bin .num .eql (.t 52) (.c (.int .u8 10))) 49 true, qo 54 (.pick (.t 49) (.t 53) (.c (.bool false)))])
 (.cond (.t 54) (.seq (.reg [qv 55 3, qv 2 55])
 (.ret)) (.skip)))
 (.seq (.reg [qv 56 0, qo 57 (.ixs (.t 56) (qi 1)), qo 58 (.bin .num .eql (.t 57) (.c (.int .u8 42))), qv 59 58, qg 60 (.mv (.t 3)) 59 true, qg 61 (.bin .num .add (.t 60) (qi 1)) 59 true, qg 62 (.mv (.t 0)) 59 true, qg 63 (.len true (.t 62)) 59 true, qg 64 (.bin .num .lss (.t 61) (.t 63)) 59 true, qo 65 (.pick (.t 59) (.t 64) (.c (.bool false))), qv 66 65, qg 67 (.mv (.t 0)) 66 true, qg 68 (.mv (.t 3)) 66 true, qg 69 (.ixs (.t 67) (.t 68)) 66 true, qg 70 (.bin .num .eql (.t 69) (.c (.int .u8 42))) 66 true, qo 71 (.pick (.t 66) (.t 70) (.c (.bool false))), qv 72 71, qg 73 (.mv (.t 0)) 72 true, qg 74 (.mv (.t 3)) 72 true, qg 75 (.bin .num .add (.t 74) (qi 1)) 72 true, qg 76 (.ixs (.t 73) (.t 75)) 72 true, qg 77 (.bin .num .eql (.t 76) (.c (.int .u8 47))) 72 true, qo 78 (.pick (.t 72) (.t 77) (.c (.bool false)))])
 (.cond (.t 78) (.seq (.reg [qv 79 3, qo 80 (.bin .num .add (.t 79) (qi 2)), qv 2 80])
 (.ret)) (.skip)))))
 (.reg [qv 44 3, qo 45 (.bin .num .add (.t 44) (qi 1)), qv 3 45]))))))
 (.seq (.seq (.reg [qv 81 0, qo 82 (.ixs (.t 81) (qi 1)), qo 83 (.bin .num .eql (.t 82) (.c (.int .u8 47)))])
 (.cond (.t 83) (.seq (.reg [qv 84 0, qo 85 (.len true (.t 84)), qv 2 85])
 (.ret)) (.skip)))
 (.seq (.reg [qo 2 (.mv (.c (.int .i64 (-1))))])
 (.ret))))))⟩
def a110 : AFn := ⟨94, [.cell 2 (some 5), .tmp 3, .tmp 4],
 .seq (.reg [qo 2 (.alloc 130 z6), qo 3 (.mv (qi 0)), qo 4 (.mv (qi 0))])
 (.seq (.seq (.reg [qv 14 0, qo 15 (.ixs (.t 14) (qi 0)), qo 16 (.call .full 149 [(.t 15)])])
 (.cond (.t 16) (.seq (.reg [qv 17 0, qo 18 (.call .full 150 [(.t 17), (.c (.bool true))]), qv 5 18])
 (.seq (.reg [qo 6 (.mv (qi 1))])
 (.seq (.reg [qv 19 0, qv 20 5, qo 21 (.slc none (.t 19) none (some (.t 20))), qo 22 (.call .full 151 [(.t 21)]), qv 7 22])
 (.seq (.seq (.reg [qv 23 7])
 (.cond (.t 23) (.reg [qo 6 (.mv (qi 2))]) (.skip)))
 (.seq (.reg [qv 24 6, qv 25 0, qv 26 5, qo 27 (.slc none (.t 25) none (some (.t 26))), qo 28 (.build z6 [(0, 1, (.t 24)), (1, 1, (.t 27))]), qv 29 5, ⟨none, .st 5 (.t 2) (.t 28), none⟩, qv 3 29, qo 4 (.mv (qi 0))])
 (.ret)))))) (.skip)))
 (.seq (.seq (.reg [qv 30 0, qo 31 (.ixs (.t 30) (qi 0)), qo 32 (.call .full 152 [(.t 31)])])
 (.cond (.t 32) (.seq (.reg [qv 33 0, qo 34 (.call .full 150 [(.t 33), (.c (.bool false))]), qv 8 34])
 (.seq (.seq (.reg [qv 35 8, qv 36 0, qo 37 (.len true (.t 36)), qo 38 (.bin .num .lss (.t 35) (.t 37)), qv 39 38, qg 40 (.mv (.t 0)) 39 true, qg 41 (.mv (.t 8)) 39 true, qg 42 (.ixs (.t 40) (.t 41)) 39 true, qg 43 (.bin .num .eql (.t 42) (.c (.int .u8 46))) 39 true, qo 44 (.pick (.t 39) (.t 43) (.c (.bool false)))])
 (.cond (.t 44) (.seq (.reg [qo 45 (.build z6 []), ⟨none, .st 5 (.t 2) (.t 45), none⟩, qo 3 (.mv (qi 0)), qo 4 (.mv (qi 25))])
 (.ret)) (.skip)))
 (.seq (.reg [qv 47 0, qv 48 8, qo 49 (.slc none (.t 47) none (some (.t 48))), qo 50 (.call .full 153 [(.t 49)]), qv 46 50, qo 51 (.ext 0 (.t 46)), qo 52 (.ext 1 (.t 46)), qv 9 51, qv 10 52])
 (.seq (.seq (.reg [qv 53 10, qo 54 (.un .not (.t 53)), qv 55 54, qg 56 (.mv (.t 0)) 55 false, qg 57 (.call .full 150 [(.t 56), (.c (.bool true))]) 55 false, qg 58 (.mv (.t 8)) 55 false, qg 59 (.bin .num .neq (.t 57) (.t 58)) 55 false, qo 60 (.pick (.t 55) (.c (.bool true)) (.t 59))])
 (.cond (.t 60) (.seq (.reg [qo 61 (.build z6 []), ⟨none, .st 5 (.t 2) (.t 61), none⟩, qo 3 (.mv (qi 0)), qo 4 (.mv (qi 24))])
 (.ret)) (.skip)))
 (.seq (.reg [qv 62 9, qo 63 (.build z6 [(0, 1, (qi 3)), (2, 1, (.t 62))]), qv 64 8, ⟨none, .st 5 (.t 2) (.t 63), none⟩, qv 3 64, qo 4 (.mv (qi 0))])
 (.ret)))))) (.skip)))
 (.seq (.seq (.reg [qv 65 0, qo 66 (.ixs (.t 65) (qi 0)), qo 67 (.bin .num .eql (.t 66) (.c (.int .u8 34))), qv 68 67, qg 69 (.mv (.t 0)) 68 false, qg 70 (.ixs (.t 69) (qi 0)) 68 false, qg 71 (.bin .num .eql (.t 70) (.c (.int .u8 39))) 68 false, qo 72 (.pick (.t 68) (.c (.bool true)) (.t 71))])
 (.cond (.t 72) (.seq (.reg [qv 74 0, qo 75 (.call .full 154 [(.t 74)]), qv 73 75, qo 76 (.ext 0 (.t 73)), qo 77 (.ext 1 (.t 73)), qv 11 76, qv 12 77])
 (.seq (.seq (.reg [qv 78 12, qo 79 (.bin .num .eql (.t 78) (qi 0))])
 (.cond (.t 79) (.seq (.reg [qo 80 (.build z6 []), ⟨none, .st 5 (.t 2) (.t 80), none⟩, qo 3 (.mv (qi 0)), qo 4 (.mv (qi 22))])
 (.ret)) (.skip)))
 (.seq (.reg [qv 81 11, qo 82 (.build z6 [(0, 1, (qi 4)), (1, 1, (.t 81))]), qv 83 12, ⟨none, .st 5 (.t 2) (.t 82), none⟩, qv 3 83, qo 4 (.mv (qi 0))])
 (.ret)))) (.skip)))
 (.seq (.reg [qv 84 0, qo 85 (.call .full 155 [(.t 84)]), qv 13 85])
 (.seq (.seq (.reg [qv 86 13, qo 87 (.bin .num .eql (.t 86) (qi 0))])
 (.cond (.t 87) (.seq (.reg [qo 88 (.build z6 []), ⟨none, .st 5 (.t 2) (.t 88), none⟩, qo 3 (.mv (qi 0)), qo 4 (.mv (qi 21))])
 (.ret)) (.skip)))
 (.seq (.reg [qv 89 0, qv 90 13, qo 91 (.slc none (.t 89) none (some (.t 90))), qo 92 (.build z6 [(0, 1, (qi 5)), (1, 1, (.t 91))]), qv 93 13, ⟨none, .st 5 (.t 2) (.t 92), none⟩, qv 3 93, qo 4 (.mv (qi 0))])
 (.ret)))))))⟩
def a111 : AFn := ⟨35, [.tmp 2],
 .seq (.reg [⟨some 2, .mv (.c (.bool false)), none⟩])
 (.seq (.seq (.reg [⟨some 5, .mv (.t 0), none⟩, ⟨some 6, .bin .str .eql (.t 5) (.c (.str ⟨#[]⟩)), none⟩, ⟨some 7, .mv (.t 6), none⟩, ⟨some 8, .mv (.t 0), (some (7, false))⟩, ⟨some 9, .ixs (.t 8) (.c (.int .i64 0)), (some (7, false))⟩, ⟨some 10, .call .full 149 [(.t 9)], (some (7, false))⟩, ⟨some 11, .un .not (.t 10), (some (7, false))⟩, ⟨some 12, .pick (.t 7) (.c (.bool true)) (.t 11), none⟩])
 (.cond (.t 12) (.seq (.reg [⟨some 2, .mv (.c (.bool false)), none⟩])
 (.ret)) (.skip)))
 (.seq (.seq (.reg [⟨some 3, .mv (.c (.int .i64 1)), none⟩])
 (.block 0 (.loop (.seq (.seq (.reg [⟨some 13, .mv (.t 3), none⟩, ⟨some 14, .mv (.t 0), none⟩, ⟨some 15, .len true (.t 14), none⟩, ⟨some 16, .bin .num .lss (.t 13) (.t 15), none⟩])
 (.cond (.t 16) (.skip) (.exit 0)))
 (.seq (.block 1 (.seq (.reg [⟨some 19, .mv (.t 0), none⟩, ⟨some 20, .mv (.t 3), none⟩, ⟨some 21, .ixs (.t 19) (.t 20), none⟩, ⟨some 22, .call .full 149 [(.t 21)], none⟩, ⟨some 23, .un .not (.t 22), none⟩, ⟨some 24, .mv (.t 23), none⟩, ⟨some 25, .mv (.t 0), (some (24, true))⟩, ⟨some 26, .mv (.t 3), (some (24, true))⟩, ⟨some 27, .ixs (.t 25) (.t 26), (some (24, true))⟩, ⟨some 28, .call .full 152 [(.t 27)], (some (24, true))⟩, ⟨some 29, .un .not (.t 28), (some (24, true))⟩, ⟨some 30, .pick (.t 24) (.t 29) (.c (.bool false)), none⟩])
 (.cond (.t 30) (.seq (.reg [⟨some 2, .mv (.c (.bool false)), none⟩])
 (.ret)) (.skip))))
 (.reg [⟨some 17, .mv (.t 3), none⟩, ⟨some 18, .bin .num .add (.t 17) (.c (.int .i64 1)), none⟩, ⟨some 3, .mv (.t 18), none⟩]))))))
 (.seq (.reg [⟨some 31, .mv (.t 0), none⟩, ⟨some 32, .call .full 151 [(.t 31)], none⟩, ⟨some 4, .mv (.t 32), none⟩])
 (.seq (.reg [⟨some 33, .mv (.t 4), none⟩, ⟨some 34, .un .not (.t 33), none⟩, ⟨some 2, .mv (.t 34), none⟩])
 (.ret)))))⟩
def a112 : AFn := ⟨19, [.tmp 4],
 .seq (.reg [⟨some 4, .mv (.c (.bool false)), none⟩])
 (.seq (.seq (.reg [⟨some 5, .mv (.c (.int .i64 0)), none⟩])
 (.block 0 (.loop (.seq (.seq (.reg [⟨some 6, .mv (.t 5), none⟩, ⟨some 7, .mv (.t 0), none⟩, ⟨some 8, .len false (.t 7), none⟩, ⟨some 9, .bin .num .lss (.t 6) (.t 8), none⟩])
 (.cond (.t 9) (.skip) (.exit 0)))
 (.seq (.block 1 (.seq (.reg [⟨some 12, .mv (.t 0), none⟩, ⟨some 13, .mv (.t 5), none⟩, ⟨some 14, .ia 5 (.t 12) (.t 13), none⟩, ⟨some 15, .ld (some 5) (.t 14), none⟩, ⟨some 16, .mv (.t 1), none⟩, ⟨some 17, .call .full 113 [(.t 15), (.t 16)], none⟩, ⟨some 18, .un .not (.t 17), none⟩])
 (.cond (.t 18) (.seq (.reg [⟨some 4, .mv (.c (.bool false)), none⟩])
 (.ret)) (.skip))))
 (.reg [⟨some 10, .mv (.t 5), none⟩, ⟨some 11, .bin .num .add (.t 10) (.c (.int .i64 1)), none⟩, ⟨some 5, .mv (.t 11), none⟩]))))))
 (.seq (.reg [⟨some 4, .mv (.c (.bool true)), none⟩])
 (.ret)))⟩
def a113 : AFn := ⟨295, [.tmp 4],
 .seq (.reg [⟨some 2, .box 24 (.t 0), none⟩, ⟨some 4, .mv (.c (.bool false)), none⟩])
 (.seq (.seq (.reg [⟨some 11, .mv (.t 1), none⟩, ⟨some 12, .bin .num .lss (.t 11) (.c (.int .i64 1)), none⟩])
 (.cond (.t 12) (.seq (.reg [⟨some 4, .mv (.c (.bool false)), none⟩])
 (.ret)) (.skip)))
 (.seq (.reg [⟨some 13, .fa 1 (.t 2), none⟩, ⟨some 14, .ld none (.t 13), none⟩, ⟨some 15, .call .full 111 [(.t 14)], none⟩, ⟨some 5, .mv (.t 15), none⟩])
 (.seq (.reg [⟨some 16, .fa 1 (.t 2), none⟩, ⟨some 17, .ld none (.t 16), none⟩, ⟨some 18, .call .full 151 [(.t 17)], none⟩, ⟨some 6, .mv (.t 18), none⟩])
 (.seq (.reg [⟨some 19, .fa 3 (.t 2), none⟩, ⟨some 20, .ld none (.t 19), none⟩, ⟨some 21, .len false (.t 20), none⟩, ⟨some 7, .mv (.t 21), none⟩])
 (.seq (.reg [⟨some 22, .fa 1 (.t 2), none⟩, ⟨some 23, .ld none (.t 22), none⟩, ⟨some 24, .bin .str .eql (.t 23) (.c (.str ⟨#[]⟩)), none⟩, ⟨some 25, .mv (.t 24), none⟩, ⟨some 26, .fa 2 (.t 2), (some (25, true))⟩, ⟨some 27, .ld none (.t 26), (some (25, true))⟩, ⟨some 28, .bin .num .eql (.t 27) (.c (.int .i64 0)), (some (25, true))⟩, ⟨some 29, .pick (.t 25) (.t 28) (.c (.bool false)), none⟩, ⟨some 8, .mv (.t 29), none⟩])
 (.seq (.seq (.reg [⟨some 30, .fa 0 (.t 2), none⟩, ⟨some 31, .ld none (.t 30), none⟩])
 (.block 0 (.seq (.reg [⟨some 33, .bin .num .eql (.t 31) (.c (.int .i64 1)), none⟩, ⟨some 32, .mv (.t 33), none⟩])
 (.cond (.t 32) (.seq (.reg [⟨some 34, .mv (.t 5), none⟩, ⟨some 35, .mv (.t 34), none⟩, ⟨some 36, .fa 2 (.t 2), (some (35, true))⟩, ⟨some 37, .ld none (.t 36), (some (35, true))⟩, ⟨some 38, .bin .num .eql (.t 37) (.c (.int .i64 0)), (some (35, true))⟩, ⟨some 39, .pick (.t 35) (.t 38) (.c (.bool false)), none⟩, ⟨some 40, .mv (.t 39), none⟩, ⟨some 41, .mv (.t 7), (some (40, true))⟩, ⟨some 42, .bin .num .eql (.t 41) (.c (.int .i64 0)), (some (40, true))⟩, ⟨some 43, .pick (.t 40) (.t 42) (.c (.bool false)), none⟩, ⟨some 4, .mv (.t 43), none⟩])
 (.ret)) (.seq (.reg [⟨some 45, .bin .num .eql (.t 31) (.c (.int .i64 2)), none⟩, ⟨some 44, .mv (.t 45), none⟩])
 (.cond (.t 44) (.seq (.reg [⟨some 46, .fa 1 (.t 2), none⟩, ⟨some 47, .ld none (.t 46), none⟩, ⟨some 48, .bin .str .eql (.t 47) (.c (.str ⟨#[]⟩)), none⟩, ⟨some 49, .mv (.t 48), none⟩, ⟨some 50, .fa 2 (.t 2), (some (49, true))⟩, ⟨some 51, .ld none (.t 50), (some (49, true))⟩, ⟨some 52, .bin .num .geq (.t 51) (.c (.int .i64 0)), (some (49, true))⟩, ⟨some 53, .pick (.t 49) (.t 52) (.c (.bool false)), none⟩, ⟨some 54, .mv (.t 53), none⟩, ⟨some 55, .fa 2 (.t 2), (some (54, true))⟩, ⟨some 56, .ld none (.t 55), (some (54, true))⟩, ⟨some 57, .bin .num .leq (.t 56) (.c (.int .i64 999999999999999)), (some (54, true))⟩, ⟨some 58, .pick (.t 54) (.t 57) (.c (.bool false)), none⟩, ⟨some 59, .mv (.t 58), none⟩, ⟨some 60, .mv (.t 7), (some (59, true))⟩, ⟨some 61, .bin .num .eql (.t 60) (.c (.int .i64 0)), (some (59, true))⟩, ⟨some 62, .pick (.t 59) (.t 61) (.c (.bool false)), none⟩, ⟨some 4, .mv (.t 62), none⟩])
 (.ret)) (.seq (.reg [⟨some 64, .bin .num .eql (.t 31) (.c (.int .i64 3)), none⟩, ⟨some 63, .mv (.t 64), none⟩])
 (.cond (.t 63) (.seq (.reg [⟨some 65, .fa 2 (.t 2), none⟩, ⟨some 66, .ld none (.t 65), none⟩, ⟨some 67, .bin .num .eql (.t 66) (.c (.int .i64 0)), none⟩, ⟨some 68, .mv (.t 67), none⟩, ⟨some 69, .mv (.t 7), (some (68, true))⟩, ⟨some 70, .bin .num .eql (.t 69) (.c (.int .i64 0)), (some (68, true))⟩, ⟨some 71, .pick (.t 68) (.t 70) (.c (.bool false)), none⟩, ⟨some 4, .mv (.t 71), none⟩])
 (.ret)) (.seq (.seq (.reg [⟨some 73, .bin .num .eql (.t 31) (.c (.int .i64 4)), none⟩, ⟨some 72, .mv (.t 73), none⟩])
 (.cond (.t 72) (.skip) (.seq (.reg [⟨some 74, .bin .num .eql (.t 31) (.c (.int .i64 5)), none⟩, ⟨some 72, .mv (.t 74), none⟩])
 (.cond (.t 72) (.skip) (.seq (.reg [⟨some 75, .bin .num .eql (.t 31) (.c (.int .i64 6)), none⟩, ⟨some 72, .mv (.t 75), none⟩])
 (.cond (.t 72) (.skip) (.seq (.reg [⟨some 76, .bin .num .eql (.t 31) (.c (.int .i64 7)), none⟩, ⟨some 72, .mv (.t 76), none⟩])
 (.cond (.t 72) (.skip) (.seq (.reg [⟨some 77, .bin .num .eql (.t 31) (.c (.int .i64 8)), none⟩, ⟨some 72, .mv (.t 77), none⟩])
 (.cond (.t 72) (.skip) (.reg [⟨some 78, .bin .num .eql (.t 31) (.c (.int .i64 9)), none⟩, ⟨some 72, .mv (.t 78), none⟩])))))))))))
 (.cond (.t 72) (.seq (.reg [⟨some 79, .mv (.t 8), none⟩, ⟨some 80, .mv (.t 79), none⟩, ⟨some 81, .mv (.t 7), (some (80, true))⟩, ⟨some 82, .bin .num .eql (.t 81) (.c (.int .i64 0)), (some (80, true))⟩, ⟨some 83, .pick (.t 80) (.t 82) (.c (.bool false)), none⟩, ⟨some 4, .mv (.t 83), none⟩])
 (.ret)) (.seq (.reg [⟨some 85, .bin .num .eql (.t 31) (.c (.int .i64 10)), none⟩, ⟨some 84, .mv (.t 85), none⟩])
 (.cond (.t 84) (.seq (.reg [⟨some 86, .fa 1 (.t 2), none⟩, ⟨some 87, .ld none (.t 86), none⟩, ⟨some 88, .bin .str .eql (.t 87) (.c (.str ⟨#[]⟩)), none⟩, ⟨some 89, .mv (.t 88), none⟩, ⟨some 90, .mv (.t 5), (some (89, false))⟩, ⟨some 91, .pick (.t 89) (.c (.bool true)) (.t 90), none⟩, ⟨some 92, .mv (.t 91), none⟩, ⟨some 93, .fa 2 (.t 2), (some (92, true))⟩, ⟨some 94, .ld none (.t 93), (some (92, true))⟩, ⟨some 95, .bin .num .eql (.t 94) (.c (.int .i64 0)), (some (92, true))⟩, ⟨some 96, .pick (.t 92) (.t 95) (.c (.bool false)), none⟩, ⟨some 97, .mv (.t 96), none⟩, ⟨some 98, .fa 3 (.t 2), (some (97, true))⟩, ⟨some 99, .ld none (.t 98), (some (97, true))⟩, ⟨some 100, .mv (.t 1), (some (97, true))⟩, ⟨some 101, .bin .num .sub (.t 100) (.c (.int .i64 1)), (some (97, true))⟩, ⟨some 102, .call .full 114 [(.t 99), (.t 101)], (some (97, true))⟩, ⟨some 103, .pick (.t 97) (.t 102) (.c (.bool false)), none⟩, ⟨some 4, .mv (.t 103), none⟩])
 (.ret)) (.seq (.reg [⟨some 105, .bin .num .eql (.t 31) (.c (.int .i64 11)), none⟩, ⟨some 104, .mv (.t 105), none⟩])
 (.cond (.t 104) (.seq (.seq (.reg [⟨some 106, .mv (.t 8), none⟩, ⟨some 107, .un .not (.t 106), none⟩, ⟨some 108, .mv (.t 107), none⟩, ⟨some 109, .mv (.t 7), (some (108, false))⟩, ⟨some 110, .bin .num .gtr (.t 109) (.c (.int .i64 200)), (some (108, false))⟩, ⟨some 111, .pick (.t 108) (.c (.bool true)) (.t 110), none⟩])
 (.cond (.t 111) (.seq (.reg [⟨some 4, .mv (.c (.bool false)), none⟩])
 (.ret)) (.skip)))
 (.seq (.seq (.reg [⟨some 9, .mv (.c (.int .i64 0)), none⟩])
 (.block 1 (.loop (.seq (.seq (.reg [⟨some 112, .mv (.t 9), none⟩, ⟨some 113, .mv (.t 7), none⟩, ⟨some 114, .bin .num .lss (.t 112) (.t 113), none⟩])
 (.cond (.t 114) (.skip) (.exit 1)))
 (.seq (.block 2 (.seq (.reg [⟨some 117, .fa 3 (.t 2), none⟩, ⟨some 118, .ld none (.t 117), none⟩, ⟨some 119, .mv (.t 9), none⟩, ⟨some 120, .ia 5 (.t 118) (.t 119), none⟩, ⟨some 121, .ld (some 5) (.t 120), none⟩, ⟨some 10, .alloc 24 [(.int .i64 0), (.str ⟨#[]⟩), (.int .i64 0), .nils, (.int .i64 0)], none⟩, ⟨none, .st 5 (.t 10) (.t 121), none⟩])
 (.seq (.reg [⟨some 122, .mv (.t 1), none⟩, ⟨some 123, .bin .num .lss (.t 122) (.c (.int .i64 2)), none⟩, ⟨some 124, .mv (.t 123), none⟩, ⟨some 125, .fa 0 (.t 10), (some (124, false))⟩, ⟨some 126, .ld none (.t 125), (some (124, false))⟩, ⟨some 127, .bin .num .neq (.t 126) (.c (.int .i64 12)), (some (124, false))⟩, ⟨some 128, .pick (.t 124) (.c (.bool true)) (.t 127), none⟩, ⟨some 129, .mv (.t 128), none⟩, ⟨some 130, .fa 2 (.t 10), (some (129, false))⟩, ⟨some 131, .ld none (.t 130), (some (129, false))⟩, ⟨some 132, .bin .num .neq (.t 131) (.c (.int .i64 0)), (some (129, false))⟩, ⟨some 133, .pick (.t 129) (.c (.bool true)) (.t 132), none⟩, ⟨some 134, .mv (.t 133), none⟩, ⟨some 135, .fa 3 (.t 10), (some (134, false))⟩, ⟨some 136, .ld none (.t 135), (some (134, false))⟩, ⟨some 137, .len false (.t 136), (some (134, false))⟩, ⟨some 138, .bin .num .neq (.t 137) (.c (.int .i64 1)), (some (134, false))⟩, ⟨some 139, .pick (.t 134) (.c (.bool true)) (.t 138), none⟩, ⟨some 140, .mv (.t 139), none⟩, ⟨some 141, .fa 3 (.t 10), (some (140, false))⟩, ⟨some 142, .ld none (.t 141), (some (140, false))⟩, ⟨some 143, .ia 5 (.t 142) (.c (.int .i64 0)), (some (140, false))⟩, ⟨some 144, .ld (some 5) (.t 143), (some (140, false))⟩, ⟨some 145, .mv (.t 1), (some (140, false))⟩, ⟨some 146, .bin .num .sub (.t 145) (.c (.int .i64 2)), (some (140, false))⟩, ⟨some 147, .call .full 113 [(.t 144), (.t 146)], (some (140, false))⟩, ⟨some 148, .un .not (.t 147), (some (140, false))⟩, ⟨some 149, .pick (.t 140) (.c (.bool true)) (.t 148), none⟩])
 (.cond (.t 149) (.seq (.reg [⟨some 4, .mv (.c (.bool false)), none⟩])
 (.ret)) (.skip)))))
 (.reg [⟨some 115, .mv (.t 9), none⟩, ⟨some 116, .bin .num .add (.t 115) (.c (.int .i64 1)), none⟩, ⟨some 9, .mv (.t 116), none⟩]))))))
 (.seq (.reg [⟨some 4, .mv (.c (.bool true)), none⟩])
 (.ret)))) (.seq (.reg [⟨some 151, .bin .num .eql (.t 31) (.c (.int .i64 13)), none⟩, ⟨some 150, .mv (.t 151), none⟩])
 (.cond (.t 150) (.seq (.reg [⟨some 152, .mv (.t 5), none⟩, ⟨some 153, .mv (.t 152), none⟩, ⟨some 154, .mv (.t 6), (some (153, false))⟩, ⟨some 155, .pick (.t 153) (.c (.bool true)) (.t 154), none⟩, ⟨some 156, .mv (.t 155), none⟩, ⟨some 157, .fa 2 (.t 2), (some (156, true))⟩, ⟨some 158, .ld none (.t 157), (some (156, true))⟩, ⟨some 159, .bin .num .eql (.t 158) (.c (.int .i64 0)), (some (156, true))⟩, ⟨some 160, .pick (.t 156) (.t 159) (.c (.bool false)), none⟩, ⟨some 161, .mv (.t 160), none⟩, ⟨some 162, .mv (.t 7), (some (161, true))⟩, ⟨some 163, .bin .num .eql (.t 162) (.c (.int .i64 1)), (some (161, true))⟩, ⟨some 164, .pick (.t 161) (.t 163) (.c (.bool false)), none⟩, ⟨some 165, .mv (.t 164), none⟩, ⟨some 166, .fa 3 (.t 2), (some (165, true))⟩, ⟨some 167, .ld none (.t 166), (some (165, true))⟩, ⟨some 168, .mv (.t 1), (some (165, true))⟩, ⟨some 169, .bin .num .sub (.t 168) (.c (.int .i64 1)), (some (165, true))⟩, ⟨some 170, .call .full 112 [(.t 167), (.t 169)], (some (165, true))⟩, ⟨some 171, .pick (.t 165) (.t 170) (.c (.bool false)), none⟩, ⟨some 4, .mv (.t 171), none⟩])
 (.ret)) (.seq (.seq (.reg [⟨some 173, .bin .num .eql (.t 31) (.c (.int .i64 14)), none⟩, ⟨some 172, .mv (.t 173), none⟩])
 (.cond (.t 172) (.skip) (.seq (.reg [⟨some 174, .bin .num .eql (.t 31) (.c (.int .i64 21)), none⟩, ⟨some 172, .mv (.t 174), none⟩])
 (.cond (.t 172) (.skip) (.reg [⟨some 175, .bin .num .eql (.t 31) (.c (.int .i64 22)), none⟩, ⟨some 172, .mv (.t 175), none⟩])))))
 (.cond (.t 172) (.seq (.reg [⟨some 176, .mv (.t 8), none⟩, ⟨some 177, .mv (.t 176), none⟩, ⟨some 178, .mv (.t 7), (some (177, true))⟩, ⟨some 179, .bin .num .eql (.t 178) (.c (.int .i64 2)), (some (177, true))⟩, ⟨some 180, .pick (.t 177) (.t 179) (.c (.bool false)), none⟩, ⟨some 181, .mv (.t 180), none⟩, ⟨some 182, .fa 3 (.t 2), (some (181, true))⟩, ⟨some 183, .ld none (.t 182), (some (181, true))⟩, ⟨some 184, .mv (.t 1), (some (181, true))⟩, ⟨some 185, .bin .num .sub (.t 184) (.c (.int .i64 1)), (some (181, true))⟩, ⟨some 186, .call .full 112 [(.t 183), (.t 185)], (some (181, true))⟩, ⟨some 187, .pick (.t 181) (.t 186) (.c (.bool false)), none⟩, ⟨some 4, .mv (.t 187), none⟩])
 (.ret)) (.seq (.seq (.reg [⟨some 189, .bin .num .eql (.t 31) (.c (.int .i64 15)), none⟩, ⟨some 188, .mv (.t 189), none⟩])
 (.cond (.t 188) (.skip) (.reg [⟨some 190, .bin .num .eql (.t 31) (.c (.int .i64 16)), none⟩, ⟨some 188, .mv (.t 190), none⟩])))
 (.cond (.t 188) (.seq (.reg [⟨some 191, .mv (.t 8), none⟩, ⟨some 192, .mv (.t 191), none⟩, ⟨some 193, .mv (.t 7), (some (192, true))⟩, ⟨some 194, .bin .num .geq (.t 193) (.c (.int .i64 1)), (some (192, true))⟩, ⟨some 195, .pick (.t 192) (.t 194) (.c (.bool false)), none⟩, ⟨some 196, .mv (.t 195), none⟩, ⟨some 197, .mv (.t 7), (some (196, true))⟩, ⟨some 198, .bin .num .leq (.t 197) (.c (.int .i64 200)), (some (196, true))⟩, ⟨some 199, .pick (.t 196) (.t 198) (.c (.bool false)), none⟩, ⟨some 200, .mv (.t 199), none⟩, ⟨some 201, .fa 3 (.t 2), (some (200, true))⟩, ⟨some 202, .ld none (.t 201), (some (200, true))⟩, ⟨some 203, .mv (.t 1), (some (200, true))⟩, ⟨some 204, .bin .num .sub (.t 203) (.c (.int .i64 1)), (some (200, true))⟩, ⟨some 205, .call .full 112 [(.t 202), (.t 204)], (some (200, true))⟩, ⟨some 206, .pick (.t 200) (.t 205) (.c (.bool false)), none⟩, ⟨some 4, .mv (.t 206), none⟩])
 (.ret)) (.seq (.reg [⟨some 208, .bin .num .eql (.t 31) (.c (.int .i64 17)), none⟩, ⟨some 207, .mv (.t 208), none⟩])
 (.cond (.t 207) (.seq (.reg [⟨some 209, .mv (.t 8), none⟩, ⟨some 210, .mv (.t 209), none⟩, ⟨some 211, .mv (.t 7), (some (210, true))⟩, ⟨some 212, .bin .num .eql (.t 211) (.c (.int .i64 2)), (some (210, true))⟩, ⟨some 213, .pick (.t 210) (.t 212) (.c (.bool false)), none⟩, ⟨some 214, .mv (.t 213), none⟩, ⟨some 215, .fa 3 (.t 2), (some (214, true))⟩, ⟨some 216, .ld none (.t 215), (some (214, true))⟩, ⟨some 217, .mv (.t 1), (some (214, true))⟩, ⟨some 218, .bin .num .sub (.t 217) (.c (.int .i64 1)), (some (214, true))⟩, ⟨some 219, .call .full 112 [(.t 216), (.t 218)], (some (214, true))⟩, ⟨some 220, .pick (.t 214) (.t 219) (.c (.bool false)), none⟩, ⟨some 221, .mv (.t 220), none⟩, ⟨some 222, .fa 3 (.t 2), (some (221, true))⟩, ⟨some 223, .ld none (.t 222), (some (221, true))⟩, ⟨some 224, .ia 5 (.t 223) (.c (.int .i64 0)), (some (221, true))⟩, ⟨some 225, .fa 0 (.t 224), (some (221, true))⟩, ⟨some 226, .ld none (.t 225), (some (221, true))⟩, ⟨some 227, .bin .num .eql (.t 226) (.c (.int .i64 1)), (some (221, true))⟩, ⟨some 228, .mv (.t 227), (some (221, true))⟩, ⟨some 229, .fa 3 (.t 2), (some (228, false))⟩, ⟨some 230, .ld none (.t 229), (some (228, false))⟩, ⟨some 231, .ia 5 (.t 230) (.c (.int .i64 0)), (some (228, false))⟩, ⟨some 232, .fa 0 (.t 231), (some (228, false))⟩, ⟨some 233, .ld none (.t 232), (some (228, false))⟩, ⟨some 234, .bin .num .eql (.t 233) (.c (.int .i64 13)), (some (228, false))⟩, ⟨some 235, .pick (.t 228) (.c (.bool true)) (.t 234), (some (221, true))⟩, ⟨some 236, .mv (.t 235), (some (221, true))⟩, ⟨some 237, .fa 3 (.t 2), (some (236, false))⟩, ⟨some 238, .ld none (.t 237), (some (236, false))⟩, ⟨some 239, .ia 5 (.t 238) (.c (.int .i64 0)), (some (236, false))⟩, ⟨some 240, .fa 0 (.t 239), (some (236, false))⟩, ⟨some 241, .ld none (.t 240), (some (236, false))⟩, ⟨some 242, .bin .num .eql (.t 241) (.c (.int .i64 14)), (some (236, false))⟩, ⟨some 243, .pick (.t 236) (.c (.bool true)) (.t 242), (some (221, true))⟩, ⟨some 244, .pick (.t 221) (.t 243) (.c (.bool false)), none⟩, ⟨some 4, .mv (.t 244), none⟩])
 (.ret)) (.seq (.reg [⟨some 246, .bin .num .eql (.t 31) (.c (.int .i64 18)), none⟩, ⟨some 245, .mv (.t 246), none⟩])
 (.cond (.t 245) (.seq (.reg [⟨some 247, .fa 1 (.t 2), none⟩, ⟨some 248, .ld none (.t 247), none⟩, ⟨some 249, .call .full 156 [(.t 248)], none⟩, ⟨some 250, .mv (.t 249), none⟩, ⟨some 251, .fa 2 (.t 2), (some (250, true))⟩, ⟨some 252, .ld none (.t 251), (some (250, true))⟩, ⟨some 253, .bin .num .eql (.t 252) (.c (.int .i64 0)), (some (250, true))⟩, ⟨some 254, .pick (.t 250) (.t 253) (.c (.bool false)), none⟩, ⟨some 255, .mv (.t 254), none⟩, ⟨some 256, .mv (.t 7), (some (255, true))⟩, ⟨some 257, .bin .num .eql (.t 256) (.c (.int .i64 2)), (some (255, true))⟩, ⟨some 258, .pick (.t 255) (.t 257) (.c (.bool false)), none⟩, ⟨some 259, .mv (.t 258), none⟩, ⟨some 260, .fa 3 (.t 2), (some (259, true))⟩, ⟨some 261, .ld none (.t 260), (some (259, true))⟩, ⟨some 262, .mv (.t 1), (some (259, true))⟩, ⟨some 263, .bin .num .sub (.t 262) (.c (.int .i64 1)), (some (259, true))⟩, ⟨some 264, .call .full 112 [(.t 261), (.t 263)], (some (259, true))⟩, ⟨some 265, .pick (.t 259) (.t 264) (.c (.bool false)), none⟩, ⟨some 4, .mv (.t 265), none⟩])
 (.ret)) (.seq (.seq (.reg [⟨some 267, .bin .num .eql (.t 31) (.c (.int .i64 19)), none⟩, ⟨some 266, .mv (.t 267), none⟩])
 (.cond (.t 266) (.skip) (.reg [⟨some 268, .bin .num .eql (.t 31) (.c (.int .i64 20)), none⟩, ⟨some 266, .mv (.t 268), none⟩])))
 (.cond (.t 266) (.seq (.reg [⟨some 269, .mv (.t 8), none⟩, ⟨some 270, .mv (.t 269), none⟩, ⟨some 271, .mv (.t 7), (some (270, true))⟩, ⟨some 272, .bin .num .eql (.t 271) (.c (.int .i64 1)), (some (270, true))⟩, ⟨some 273, .pick (.t 270) (.t 272) (.c (.bool false)), none⟩, ⟨some 274, .mv (.t 273), none⟩, ⟨some 275, .fa 3 (.t 2), (some (274, true))⟩, ⟨some 276, .ld none (.t 275), (some (274, true))⟩, ⟨some 277, .mv (.t 1), (some (274, true))⟩, ⟨some 278, .bin .num .sub (.t 277) (.c (.int .i64 1)), (some (274, true))⟩, ⟨some 279, .call .full 112 [(.t 276), (.t 278)], (some (274, true))⟩, ⟨some 280, .pick (.t 274) (.t 279) (.c (.bool false)), none⟩, ⟨some 4, .mv (.t 280), none⟩])
 (.ret)) (.seq (.reg [⟨some 282, .bin .num .eql (.t 31) (.c (.int .i64 23)), none⟩, ⟨some 281, .mv (.t 282), none⟩])
 (.cond (.t 281) (.seq (.reg [⟨some 283, .mv (.t 8), none⟩, ⟨some 284, .mv (.t 283), none⟩, ⟨some 285, .mv (.t 7), (some (284, true))⟩, ⟨some 286, .bin .num .eql (.t 285) (.c (.int .i64 3)), (some (284, true))⟩, ⟨some 287, .pick (.t 284) (.t 286) (.c (.bool false)), none⟩, ⟨some 288, .mv (.t 287), none⟩, ⟨some 289, .fa 3 (.t 2), (some (288, true))⟩, ⟨some 290, .ld none (.t 289), (some (288, true))⟩, ⟨some 291, .mv (.t 1), (some (288, true))⟩, ⟨some 292, .bin .num .sub (.t 291) (.c (.int .i64 1)), (some (288, true))⟩, ⟨some 293, .call .full 112 [(.t 290), (.t 292)], (some (288, true))⟩, ⟨some 294, .pick (.t 288) (.t 293) (.c (.bool false)), none⟩, ⟨some 4, .mv (.t 294), none⟩])
 (.ret)) (.skip)))))))))))))))))))))))))))))
 (.seq (.reg [⟨some 4, .mv (.c (.bool false)), none⟩])
 (.ret))))))))⟩
def a114 : AFn := ⟨44, [.tmp 4],
 .seq (.reg [⟨some 4, .mv (.c (.bool false)), none⟩])
 (.seq (.seq (.reg [⟨some 6, .mv (.t 0), none⟩, ⟨some 7, .len false (.t 6), none⟩, ⟨some 8, .bin .num .lss (.t 7) (.c (.int .i64 1)), none⟩, ⟨some 9, .mv (.t 8), none⟩, ⟨some 10, .mv (.t 0), (some (9, false))⟩, ⟨some 11, .len false (.t 10), (some (9, false))⟩, ⟨some 12, .bin .num .gtr (.t 11) (.c (.int .i64 201)), (some (9, false))⟩, ⟨some 13, .pick (.t 9) (.c (.bool true)) (.t 12), none⟩])
 (.cond (.t 13) (.seq (.reg [⟨some 4, .mv (.c (.bool false)), none⟩])
 (.ret)) (.skip)))
 (.seq (.seq (.reg [⟨some 5, .mv (.c (.int .i64 0)), none⟩])
 (.block 0 (.loop (.seq (.seq (.reg [⟨some 14, .mv (.t 5), none⟩, ⟨some 15, .mv (.t 0), none⟩, ⟨some 16, .len false (.t 15), none⟩, ⟨some 17, .bin .num .sub (.t 16) (.c (.int .i64 1)), none⟩, ⟨some 18, .bin .num .lss (.t 14) (.t 17), none⟩])
 (.cond (.t 18) (.skip) (.exit 0)))
 (.seq (.block 1 (.seq (.reg [⟨some 21, .mv (.t 0), none⟩, ⟨some 22, .mv (.t 5), none⟩, ⟨some 23, .ia 5 (.t 21) (.t 22), none⟩, ⟨some 24, .fa 0 (.t 23), none⟩, ⟨some 25, .ld none (.t 24), none⟩, ⟨some 26, .bin .num .neq (.t 25) (.c (.int .i64 1)), none⟩, ⟨some 27, .mv (.t 26), none⟩, ⟨some 28, .mv (.t 0), (some (27, false))⟩, ⟨some 29, .mv (.t 5), (some (27, false))⟩, ⟨some 30, .ia 5 (.t 28) (.t 29), (some (27, false))⟩, ⟨some 31, .ld (some 5) (.t 30), (some (27, false))⟩, ⟨some 32, .mv (.t 1), (some (27, false))⟩, ⟨some 33, .call .full 113 [(.t 31), (.t 32)], (some (27, false))⟩, ⟨some 34, .un .not (.t 33), (some (27, false))⟩, ⟨some 35, .pick (.t 27) (.c (.bool true)) (.t 34), none⟩])
 (.cond (.t 35) (.seq (.reg [⟨some 4, .mv (.c (.bool false)), none⟩])
 (.ret)) (.skip))))
 (.reg [⟨some 19, .mv (.t 5), none⟩, ⟨some 20, .bin .num .add (.t 19) (.c (.int .i64 1)), none⟩, ⟨some 5, .mv (.t 20), none⟩]))))))
 (.seq (.reg [⟨some 36, .mv (.t 0), none⟩, ⟨some 37, .mv (.t 0), none⟩, ⟨some 38, .len false (.t 37), none⟩, ⟨some 39, .bin .num .sub (.t 38) (.c (.int .i64 1)), none⟩, ⟨some 40, .ia 5 (.t 36) (.t 39), none⟩, ⟨some 41, .ld (some 5) (.t 40), none⟩, ⟨some 42, .mv (.t 1), none⟩, ⟨some 43, .call .full 48 [(.t 41), (.t 42)], none⟩, ⟨some 4, .mv (.t 43), none⟩])
 (.ret))))⟩
def a115 : AFn := ⟨4, [.tmp 2],
 .seq (.reg [⟨some 1, .box 24 (.t 0), none⟩, ⟨some 2, .mv (.c .nilf), none⟩])
 (.seq (.reg [⟨some 3, .mkf 157 [] [(.t 1)], none⟩, ⟨some 2, .mv (.t 3), none⟩])
 (.ret))⟩
def a116 : AFn := ⟨19, [.tmp 4],
 .seq (.reg [⟨some 4, .mv (.c (.int .i64 0)), none⟩])
 (.seq (.seq (.reg [⟨some 6, .mv (.t 0), none⟩, ⟨some 7, .len false (.t 6), none⟩, ⟨some 8, .mv (.c (.int .i64 0)), none⟩])
 (.block 0 (.loop (.seq (.reg [⟨some 9, .bin .num .lss (.t 8) (.t 7), none⟩])
 (.seq (.cond (.t 9) (.skip) (.exit 0))
 (.seq (.block 1 (.seq (.reg [⟨some 10, .mv (.t 8), none⟩, ⟨some 5, .mv (.t 10), none⟩])
 (.seq (.reg [⟨some 11, .mv (.t 1), none⟩, ⟨some 12, .mv (.t 0), none⟩, ⟨some 13, .mv (.t 5), none⟩, ⟨some 14, .ia 1 (.t 12) (.t 13), none⟩, ⟨some 15, .ld none (.t 14), none⟩, ⟨some 16, .bin .str .eql (.t 11) (.t 15), none⟩])
 (.cond (.t 16) (.seq (.reg [⟨some 17, .mv (.t 5), none⟩, ⟨some 4, .mv (.t 17), none⟩])
 (.ret)) (.skip)))))
 (.reg [⟨some 18, .bin .num .add (.t 8) (.c (.int .i64 1)), none⟩, ⟨some 8, .mv (.t 18), none⟩])))))))
 (.seq (.reg [⟨some 4, .mv (.c (.int .i64 (-1))), none⟩])
 (.ret)))⟩
def a117 : AFn := ⟨27, [],
 .seq (.reg [⟨some 8, .mv (.t 2), none⟩, ⟨some 9, .len false (.t 8), none⟩, ⟨some 10, .mv (.c (.int .i64 0)), none⟩])
 (.block 0 (.loop (.seq (.reg [⟨some 11, .bin .num .lss (.t 10) (.t 9), none⟩])
 (.seq (.cond (.t 11) (.skip) (.exit 0))
 (.seq (.block 1 (.seq (.reg [⟨some 12, .ia 9 (.t 8) (.t 10), none⟩, ⟨some 13, .ld (some 9) (.t 12), none⟩, ⟨some 7, .alloc 55 [(.int .i64 0), (.int .i64 0), (.int .i64 0), (.int .i64 0), (.int .i64 0), (.int .i64 0), (.int .i64 0), (.str ⟨#[]⟩), .nils], none⟩, ⟨none, .st 9 (.t 7) (.t 13), none⟩])
 (.seq (.reg [⟨some 14, .mv (.t 1), none⟩, ⟨some 15, .fa 1 (.t 7), none⟩, ⟨none, .st 1 (.t 15) (.t 14), none⟩])
 (.dreg [(⟨some 16, .mv (.t 0), none⟩, 0), (⟨some 17, .mv (.t 0), none⟩, 0), (⟨some 18, .nck (.t 17), none⟩, 2), (⟨some 19, .fa 2 (.t 18), none⟩, 6), (⟨some 20, .ld none (.t 19), none⟩, 14), (⟨some 21, .ld (some 9) (.t 7), none⟩, 0), (⟨some 22, .bsl true 9 1 [(.int .i64 0), (.int .i64 0), (.int .i64 0), (.int .i64 0), (.int .i64 0), (.int .i64 0), (.int .i64 0), (.str ⟨#[]⟩), .nils] [(0, 9, (.t 21))], none⟩, 32), (⟨some 23, .app 9 96 (.t 20) (.t 22), none⟩, 126), (⟨some 24, .nck (.t 16), none⟩, 255), (⟨some 25, .fa 2 (.t 24), none⟩, 511), (⟨none, .st 1 (.t 25) (.t 23), none⟩, 1023)]))))
 (.reg [⟨some 26, .bin .num .add (.t 10) (.c (.int .i64 1)), none⟩, ⟨some 10, .mv (.t 26), none⟩]))))))⟩
def a118 : AFn := ⟨26, [],
 .seq (.reg [⟨some 7, .ld none (.t 1), none⟩, ⟨some 8, .bin .num .add (.t 7) (.c (.int .i64 1)), none⟩, ⟨some 4, .mv (.t 8), none⟩])
 (.seq (.reg [⟨some 9, .fa 3 (.t 2), none⟩, ⟨some 10, .ld none (.t 9), none⟩, ⟨some 11, .len false (.t 10), none⟩, ⟨some 12, .mv (.c (.int .i64 0)), none⟩])
 (.block 0 (.loop (.seq (.reg [⟨some 13, .bin .num .lss (.t 12) (.t 11), none⟩])
 (.seq (.cond (.t 13) (.skip) (.exit 0))
 (.seq (.block 1 (.seq (.reg [⟨some 14, .ia 5 (.t 10) (.t 12), none⟩, ⟨some 15, .ld (some 5) (.t 14), none⟩, ⟨some 6, .alloc 24 [(.int .i64 0), (.str ⟨#[]⟩), (.int .i64 0), .nils, (.int .i64 0)], none⟩, ⟨none, .st 5 (.t 6) (.t 15), none⟩])
 (.seq (.seq (.reg [⟨some 16, .mv (.t 0), none⟩, ⟨some 17, .mv (.t 4), none⟩, ⟨some 18, .ld (some 5) (.t 6), none⟩, ⟨some 19, .callv .no (.t 16) [(.t 17), (.t 18)], none⟩, ⟨some 20, .un .not (.t 19), none⟩])
 (.cond (.t 20) (.ret) (.skip)))
 (.reg [⟨some 21, .mv (.t 4), none⟩, ⟨some 22, .ld (some 5) (.t 6), none⟩, ⟨some 23, .call .full 50 [(.t 22)], none⟩, ⟨some 24, .bin .num .add (.t 21) (.t 23), none⟩, ⟨some 4, .mv (.t 24), none⟩]))))
 (.reg [⟨some 25, .bin .num .add (.t 12) (.c (.int .i64 1)), none⟩, ⟨some 12, .mv (.t 25), none⟩])))))))⟩
def a119 : AFn := ⟨20, [],
 .seq (.reg [⟨some 5, .box 24 (.t 1), none⟩, ⟨some 6, .box 87 (.t 2), none⟩])
 (.dreg [(⟨some 8, .mv (.t 0), none⟩, 0), (⟨some 9, .fa 1 (.t 6), none⟩, 0), (⟨some 10, .ld none (.t 9), none⟩, 2), (⟨some 11, .mv (.t 0), none⟩, 0), (⟨some 12, .fa 2 (.t 5), none⟩, 0), (⟨some 13, .ld none (.t 12), none⟩, 16), (⟨some 14, .call .no 82 [(.t 11), (.t 13)], none⟩, 56), (⟨some 15, .fa 0 (.t 6), none⟩, 0), (⟨some 16, .ld none (.t 15), none⟩, 128), (⟨some 17, .call .full 158 [(.t 14), (.t 16)], none⟩, 504), (⟨some 18, .bsl true 9 1 [(.int .i64 0), (.int .i64 0), (.int .i64 0), (.int .i64 0), (.int .i64 0), (.int .i64 0), (.int .i64 0), (.str ⟨#[]⟩), .nils] [(0, 9, (.t 17))], none⟩, 1016), (⟨some 19, .call .no 117 [(.t 8), (.t 10), (.t 18)], none⟩, 2047)])⟩
def a120 : AFn := ⟨28, [],
 .seq (.reg [⟨some 5, .box 24 (.t 1), none⟩, ⟨some 6, .box 87 (.t 2), none⟩])
 (.seq (.reg [⟨some 12, .mv (.t 0), none⟩, ⟨some 13, .fa 1 (.t 6), none⟩, ⟨some 14, .ld none (.t 13), none⟩, ⟨some 15, .call .no 51 [(.t 12), (.t 14)], none⟩, ⟨some 11, .mv (.t 15), none⟩, ⟨some 16, .ext 0 (.t 11), none⟩, ⟨some 17, .ext 1 (.t 11), none⟩, ⟨some 18, .ext 2 (.t 11), none⟩, ⟨some 8, .mv (.t 16), none⟩, ⟨some 9, .mv (.t 17), none⟩, ⟨some 10, .mv (.t 18), none⟩])
 (.dreg [(⟨some 19, .mv (.t 0), none⟩, 0), (⟨some 20, .fa 1 (.t 6), none⟩, 0), (⟨some 21, .ld none (.t 20), none⟩, 2), (⟨some 22, .mv (.t 8), none⟩, 0), (⟨some 23, .fa 0 (.t 6), none⟩, 0), (⟨some 24, .ld none (.t 23), none⟩, 16), (⟨some 25, .call .full 158 [(.t 22), (.t 24)], none⟩, 56), (⟨some 26, .bsl true 9 1 [(.int .i64 0), (.int .i64 0), (.int .i64 0), (.int .i64 0), (.int .i64 0), (.int .i64 0), (.int .i64 0), (.str ⟨#[]⟩), .nils] [(0, 9, (.t 25))], none⟩, 120), (⟨some 27, .call .no 117 [(.t 19), (.t 21), (.t 26)], none⟩, 255)]))⟩
def a121 : AFn := ⟨44, [],
 .seq (.reg [⟨some 5, .box 24 (.t 1), none⟩, ⟨some 6, .box 87 (.t 2), none⟩])
 (.seq (.reg [⟨some 10, .mv (.t 0), none⟩, ⟨some 11, .fa 1 (.t 6), none⟩, ⟨some 12, .ld none (.t 11), none⟩, ⟨some 13, .fa 0 (.t 6), none⟩, ⟨some 14, .ld none (.t 13), none⟩, ⟨some 15, .fa 2 (.t 5), none⟩, ⟨some 16, .ld none (.t 15), none⟩, ⟨some 17, .build [(.int .i64 0), (.int .i64 0), (.int .i64 0), (.int .i64 0), (.int .i64 0), (.int .i64 0), (.int .i64 0), (.str ⟨#[]⟩), .nils] [(0, 1, (.c (.int .i64 1))), (2, 1, (.t 14)), (6, 1, (.t 16))], none⟩, ⟨some 18, .bsl true 9 1 [(.int .i64 0), (.int .i64 0), (.int .i64 0), (.int .i64 0), (.int .i64 0), (.int .i64 0), (.int .i64 0), (.str ⟨#[]⟩), .nils] [(0, 9, (.t 17))], none⟩, ⟨some 19, .call .no 117 [(.t 10), (.t 12), (.t 18)], none⟩])
 (.seq (.reg [⟨some 20, .fa 3 (.t 5), none⟩, ⟨some 21, .ld none (.t 20), none⟩, ⟨some 22, .len false (.t 21), none⟩, ⟨some 23, .mv (.c (.int .i64 0)), none⟩])
 (.block 0 (.loop (.seq (.reg [⟨some 24, .bin .num .lss (.t 23) (.t 22), none⟩])
 (.seq (.cond (.t 24) (.skip) (.exit 0))
 (.seq (.block 1 (.seq (.reg [⟨some 25, .mv (.t 23), none⟩, ⟨some 26, .ia 5 (.t 21) (.t 23), none⟩, ⟨some 27, .ld (some 5) (.t 26), none⟩, ⟨some 9, .alloc 24 [(.int .i64 0), (.str ⟨#[]⟩), (.int .i64 0), .nils, (.int .i64 0)], none⟩, ⟨some 8, .mv (.t 25), none⟩, ⟨none, .st 5 (.t 9) (.t 27), none⟩])
 (.dreg [(⟨some 28, .mv (.t 0), none⟩, 0), (⟨some 29, .fa 1 (.t 6), none⟩, 0), (⟨some 30, .ld none (.t 29), none⟩, 2), (⟨some 31, .fa 0 (.t 6), none⟩, 0), (⟨some 32, .ld none (.t 31), none⟩, 8), (⟨some 33, .fa 1 (.t 9), none⟩, 0), (⟨some 34, .ld none (.t 33), none⟩, 32), (⟨some 35, .mv (.t 3), none⟩, 0), (⟨some 36, .mv (.t 8), none⟩, 0), (⟨some 37, .ia 1 (.t 35) (.t 36), none⟩, 384), (⟨some 38, .ld none (.t 37), none⟩, 896), (⟨some 39, .bin .num .add (.t 38) (.c (.int .i64 1)), none⟩, 1920), (⟨some 40, .build [(.int .i64 0), (.int .i64 0), (.int .i64 0), (.int .i64 0), (.int .i64 0), (.int .i64 0), (.int .i64 0), (.str ⟨#[]⟩), .nils] [(0, 1, (.c (.int .i64 6))), (2, 1, (.t 32)), (7, 1, (.t 34)), (3, 1, (.t 39))], none⟩, 4088), (⟨some 41, .bsl true 9 1 [(.int .i64 0), (.int .i64 0), (.int .i64 0), (.int .i64 0), (.int .i64 0), (.int .i64 0), (.int .i64 0), (.str ⟨#[]⟩), .nils] [(0, 9, (.t 40))], none⟩, 8184), (⟨some 42, .call .no 117 [(.t 28), (.t 30), (.t 41)], none⟩, 16383)])))
 (.reg [⟨some 43, .bin .num .add (.t 23) (.c (.int .i64 1)), none⟩, ⟨some 23, .mv (.t 43), none⟩]))))))))⟩
def a122 : AFn := ⟨28, [],
 .seq (.reg [⟨some 5, .box 24 (.t 1), none⟩, ⟨some 6, .box 87 (.t 2), none⟩])
 (.seq (.dreg [(⟨some 9, .mv (.t 3), none⟩, 0), (⟨some 10, .ia 1 (.t 9) (.c (.int .i64 0)), none⟩, 1), (⟨some 11, .ld none (.t 10), none⟩, 3), (⟨some 12, .fa 0 (.t 6), none⟩, 0), (⟨some 13, .ld none (.t 12), none⟩, 8), (⟨some 14, .build [(.int .i64 0), (.int .i64 0), (.int .i64 0), (.int .i64 0), (.int .i64 0), (.int .i64 0), (.int .i64 0), (.str ⟨#[]⟩), .nils] [(0, 1, (.c (.int .i64 5))), (2, 1, (.t 11)), (3, 1, (.t 13))], none⟩, 31), (⟨some 8, .alloc 55 [(.int .i64 0), (.int .i64 0), (.int .i64 0), (.int .i64 0), (.int .i64 0), (.int .i64 0), (.int .i64 0), (.str ⟨#[]⟩), .nils], none⟩, 0), (⟨none, .st 9 (.t 8) (.t 14), none⟩, 127)])
 (.seq (.seq (.reg [⟨some 15, .fa 0 (.t 5), none⟩, ⟨some 16, .ld none (.t 15), none⟩, ⟨some 17, .bin .num .eql (.t 16) (.c (.int .i64 13)), none⟩])
 (.cond (.t 17) (.dreg [(⟨some 18, .fa 1 (.t 5), none⟩, 0), (⟨some 19, .ld none (.t 18), none⟩, 1), (⟨some 20, .fa 0 (.t 8), none⟩, 0), (⟨none, .st 1 (.t 20) (.c (.int .i64 4)), none⟩, 4), (⟨some 21, .fa 7 (.t 8), none⟩, 15), (⟨none, .st 1 (.t 21) (.t 19), none⟩, 31)]) (.skip)))
 (.reg [⟨some 22, .mv (.t 0), none⟩, ⟨some 23, .fa 1 (.t 6), none⟩, ⟨some 24, .ld none (.t 23), none⟩, ⟨some 25, .ld (some 9) (.t 8), none⟩, ⟨some 26, .bsl true 9 1 [(.int .i64 0), (.int .i64 0), (.int .i64 0), (.int .i64 0), (.int .i64 0), (.int .i64 0), (.int .i64 0), (.str ⟨#[]⟩), .nils] [(0, 9, (.t 25))], none⟩, ⟨some 27, .call .no 117 [(.t 22), (.t 24), (.t 26)], none⟩])))⟩
def a123 : AFn := ⟨52, [],
 .seq (.reg [⟨some 5, .box 24 (.t 1), none⟩, ⟨some 6, .box 87 (.t 2), none⟩])
 (.seq (.dreg [(⟨some 10, .mv (.t 3), none⟩, 0), (⟨some 11, .ia 1 (.t 10) (.c (.int .i64 0)), none⟩, 1), (⟨some 12, .ld none (.t 11), none⟩, 3), (⟨some 13, .bin .num .add (.t 12) (.c (.int .i64 1)), none⟩, 7), (⟨some 14, .mv (.t 3), none⟩, 0), (⟨some 15, .ia 1 (.t 14) (.c (.int .i64 1)), none⟩, 16), (⟨some 16, .ld none (.t 15), none⟩, 48), (⟨some 17, .build [(.int .i64 0), (.int .i64 0), (.int .i64 0), (.int .i64 0), (.int .i64 0), (.int .i64 0), (.int .i64 0), (.str ⟨#[]⟩), .nils] [(0, 1, (.c (.int .i64 7))), (2, 1, (.t 13)), (3, 1, (.t 16))], none⟩, 127), (⟨some 8, .alloc 55 [(.int .i64 0), (.int .i64 0), (.int .i64 0), (.int .i64 0), (.int .i64 0), (.int .i64 0), (.int .i64 0), (.str ⟨#[]⟩), .nils], none⟩, 0), (⟨none, .st 9 (.t 8) (.t 17), none⟩, 511)])
 (.seq (.seq (.reg [⟨some 18, .fa 3 (.t 5), none⟩, ⟨some 19, .ld none (.t 18), none⟩, ⟨some 20, .ia 5 (.t 19) (.c (.int .i64 0)), none⟩, ⟨some 21, .ld (some 5) (.t 20), none⟩, ⟨some 9, .alloc 24 [(.int .i64 0), (.str ⟨#[]⟩), (.int .i64 0), .nils, (.int .i64 0)], none⟩, ⟨none, .st 5 (.t 9) (.t 21), none⟩])
 (.seq (.reg [⟨some 22, .fa 0 (.t 9), none⟩, ⟨some 23, .ld none (.t 22), none⟩])
 (.block 0 (.seq (.reg [⟨some 25, .bin .num .eql (.t 23) (.c (.int .i64 1)), none⟩, ⟨some 24, .mv (.t 25), none⟩])
 (.cond (.t 24) (.dreg [(⟨some 26, .mv (.t 3), none⟩, 0), (⟨some 27, .ia 1 (.t 26) (.c (.int .i64 1)), none⟩, 1), (⟨some 28, .ld none (.t 27), none⟩, 3), (⟨some 29, .mv (.t 0), none⟩, 0), (⟨some 30, .fa 2 (.t 9), none⟩, 0), (⟨some 31, .ld none (.t 30), none⟩, 16), (⟨some 32, .call .no 82 [(.t 29), (.t 31)], none⟩, 56), (⟨some 33, .call .full 158 [(.t 28), (.t 32)], none⟩, 127), (⟨none, .st 9 (.t 8) (.t 33), none⟩, 255)]) (.seq (.reg [⟨some 35, .bin .num .eql (.t 23) (.c (.int .i64 13)), none⟩, ⟨some 34, .mv (.t 35), none⟩])
 (.cond (.t 34) (.dreg [(⟨some 36, .fa 1 (.t 9), none⟩, 0), (⟨some 37, .ld none (.t 36), none⟩, 1), (⟨some 38, .fa 0 (.t 8), none⟩, 0), (⟨none, .st 1 (.t 38) (.c (.int .i64 6)), none⟩, 4), (⟨some 39, .fa 7 (.t 8), none⟩, 15), (⟨none, .st 1 (.t 39) (.t 37), none⟩, 31)]) (.skip))))))))
 (.dreg [(⟨some 40, .mv (.t 0), none⟩, 0), (⟨some 41, .fa 1 (.t 6), none⟩, 0), (⟨some 42, .ld none (.t 41), none⟩, 2), (⟨some 43, .ld (some 9) (.t 8), none⟩, 0), (⟨some 44, .mv (.t 3), none⟩, 0), (⟨some 45, .ia 1 (.t 44) (.c (.int .i64 1)), none⟩, 16), (⟨some 46, .ld none (.t 45), none⟩, 48), (⟨some 47, .fa 0 (.t 6), none⟩, 0), (⟨some 48, .ld none (.t 47), none⟩, 128), (⟨some 49, .call .full 158 [(.t 46), (.t 48)], none⟩, 496), (⟨some 50, .bsl true 9 2 [(.int .i64 0), (.int .i64 0), (.int .i64 0), (.int .i64 0), (.int .i64 0), (.int .i64 0), (.int .i64 0), (.str ⟨#[]⟩), .nils, (.int .i64 0), (.int .i64 0), (.int .i64 0), (.int .i64 0), (.int .i64 0), (.int .i64 0), (.int .i64 0), (.str ⟨#[]⟩), .nils] [(0, 9, (.t 43)), (9, 9, (.t 49))], none⟩, 1016), (⟨some 51, .call .no 117 [(.t 40), (.t 42), (.t 50)], none⟩, 2047)])))⟩
def a124 : AFn := ⟨55, [],
 .seq (.reg [⟨some 5, .box 24 (.t 1), none⟩, ⟨some 6, .box 87 (.t 2), none⟩])
 (.seq (.reg [⟨some 8, .fa 0 (.t 5), none⟩, ⟨some 9, .ld none (.t 8), none⟩])
 (.block 0 (.seq (.block 3 (.seq (.block 2 (.seq (.block 1 (.seq (.seq (.seq (.reg [⟨some 11, .bin .num .eql (.t 9) (.c (.int .i64 22)), none⟩, ⟨some 10, .mv (.t 11), none⟩])
 (.cond (.t 10) (.exit 1) (.skip)))
 (.seq (.seq (.reg [⟨some 13, .bin .num .eql (.t 9) (.c (.int .i64 21)), none⟩, ⟨some 12, .mv (.t 13), none⟩])
 (.cond (.t 12) (.exit 2) (.skip)))
 (.seq (.reg [⟨some 15, .bin .num .eql (.t 9) (.c (.int .i64 23)), none⟩, ⟨some 14, .mv (.t 15), none⟩])
 (.cond (.t 14) (.exit 3) (.skip)))))
 (.exit 0)))
 (.dreg [(⟨some 16, .mv (.t 0), none⟩, 0), (⟨some 17, .fa 1 (.t 6), none⟩, 0), (⟨some 18, .ld none (.t 17), none⟩, 2), (⟨some 19, .mv (.t 3), none⟩, 0), (⟨some 20, .ia 1 (.t 19) (.c (.int .i64 0)), none⟩, 8), (⟨some 21, .ld none (.t 20), none⟩, 24), (⟨some 22, .fa 0 (.t 6), none⟩, 0), (⟨some 23, .ld none (.t 22), none⟩, 64), (⟨some 24, .call .full 158 [(.t 21), (.t 23)], none⟩, 248), (⟨some 25, .bsl true 9 1 [(.int .i64 0), (.int .i64 0), (.int .i64 0), (.int .i64 0), (.int .i64 0), (.int .i64 0), (.int .i64 0), (.str ⟨#[]⟩), .nils] [(0, 9, (.t 24))], none⟩, 504), (⟨some 26, .call .no 117 [(.t 16), (.t 18), (.t 25)], none⟩, 1023)])))
 (.seq (.dreg [(⟨some 27, .mv (.t 0), none⟩, 0), (⟨some 28, .fa 1 (.t 6), none⟩, 0), (⟨some 29, .ld none (.t 28), none⟩, 2), (⟨some 30, .mv (.t 3), none⟩, 0), (⟨some 31, .ia 1 (.t 30) (.c (.int .i64 1)), none⟩, 8), (⟨some 32, .ld none (.t 31), none⟩, 24), (⟨some 33, .fa 0 (.t 6), none⟩, 0), (⟨some 34, .ld none (.t 33), none⟩, 64), (⟨some 35, .call .full 158 [(.t 32), (.t 34)], none⟩, 248), (⟨some 36, .bsl true 9 1 [(.int .i64 0), (.int .i64 0), (.int .i64 0), (.int .i64 0), (.int .i64 0), (.int .i64 0), (.int .i64 0), (.str ⟨#[]⟩), .nils] [(0, 9, (.t 35))], none⟩, 504), (⟨some 37, .call .no 117 [(.t 27), (.t 29), (.t 36)], none⟩, 1023)])
 (.exit 0))))
 (.seq (.dreg [(⟨some 38, .mv (.t 0), none⟩, 0), (⟨some 39, .fa 1 (.t 6), none⟩, 0), (⟨some 40, .ld none (.t 39), none⟩, 2), (⟨some 41, .mv (.t 3), none⟩, 0), (⟨some 42, .ia 1 (.t 41) (.c (.int .i64 1)), none⟩, 8), (⟨some 43, .ld none (.t 42), none⟩, 24), (⟨some 44, .fa 0 (.t 6), none⟩, 0), (⟨some 45, .ld none (.t 44), none⟩, 64), (⟨some 46, .call .full 158 [(.t 43), (.t 45)], none⟩, 248), (⟨some 47, .mv (.t 3), none⟩, 0), (⟨some 48, .ia 1 (.t 47) (.c (.int .i64 2)), none⟩, 512), (⟨some 49, .ld none (.t 48), none⟩, 1536), (⟨some 50, .fa 0 (.t 6), none⟩, 0), (⟨some 51, .ld none (.t 50), none⟩, 4096), (⟨some 52, .call .full 158 [(.t 49), (.t 51)], none⟩, 16376), (⟨some 53, .bsl true 9 2 [(.int .i64 0), (.int .i64 0), (.int .i64 0), (.int .i64 0), (.int .i64 0), (.int .i64 0), (.int .i64 0), (.str ⟨#[]⟩), .nils, (.int .i64 0), (.int .i64 0), (.int .i64 0), (.int .i64 0), (.int .i64 0), (.int .i64 0), (.int .i64 0), (.str ⟨#[]⟩), .nils] [(0, 9, (.t 46)), (9, 9, (.t 52))], none⟩, 32760), (⟨some 54, .call .no 117 [(.t 38), (.t 40), (.t 53)], none⟩, 65535)])
 (.exit 0)))))⟩
def a125 : AFn := ⟨50, [],
 .seq (.reg [⟨some 5, .box 24 (.t 1), none⟩, ⟨some 6, .box 87 (.t 2), none⟩])
 (.seq (.dreg [(⟨some 10, .mv (.t 3), none⟩, 0), (⟨some 11, .ia 1 (.t 10) (.c (.int .i64 0)), none⟩, 1), (⟨some 12, .ld none (.t 11), none⟩, 3), (⟨some 13, .mv (.t 3), none⟩, 0), (⟨some 14, .slc (some 1) (.t 13) (some (.c (.int .i64 1))) none, none⟩, 8), (⟨some 15, .fa 0 (.t 6), none⟩, 0), (⟨some 16, .ld none (.t 15), none⟩, 32), (⟨some 17, .fa 2 (.t 6), none⟩, 0), (⟨some 18, .ld none (.t 17), none⟩, 128), (⟨some 19, .fa 2 (.t 5), none⟩, 0), (⟨some 20, .ld none (.t 19), none⟩, 512), (⟨some 21, .build [(.int .i64 0), (.int .i64 0), (.int .i64 0), (.int .i64 0), (.int .i64 0), (.int .i64 0), (.int .i64 0), (.str ⟨#[]⟩), .nils] [(0, 1, (.c (.int .i64 9))), (2, 1, (.t 12)), (8, 1, (.t 14)), (3, 1, (.t 16)), (5, 1, (.t 18)), (6, 1, (.t 20))], none⟩, 2047), (⟨some 8, .alloc 55 [(.int .i64 0), (.int .i64 0), (.int .i64 0), (.int .i64 0), (.int .i64 0), (.int .i64 0), (.int .i64 0), (.str ⟨#[]⟩), .nils], none⟩, 0), (⟨none, .st 9 (.t 8) (.t 21), none⟩, 8191)])
 (.seq (.seq (.reg [⟨some 22, .fa 0 (.t 5), none⟩, ⟨some 23, .ld none (.t 22), none⟩, ⟨some 24, .bin .num .eql (.t 23) (.c (.int .i64 15)), none⟩])
 (.cond (.t 24) (.seq (.reg [⟨some 25, .fa 0 (.t 8), none⟩, ⟨none, .st 1 (.t 25) (.c (.int .i64 8)), none⟩, ⟨some 26, .fa 4 (.t 8), none⟩, ⟨none, .st 1 (.t 26) (.c (.int .i64 (-1))), none⟩])
 (.seq (.reg [⟨some 27, .fa 3 (.t 5), none⟩, ⟨some 28, .ld none (.t 27), none⟩, ⟨some 29, .ia 5 (.t 28) (.c (.int .i64 0)), none⟩, ⟨some 30, .ld (some 5) (.t 29), none⟩, ⟨some 9, .alloc 24 [(.int .i64 0), (.str ⟨#[]⟩), (.int .i64 0), .nils, (.int .i64 0)], none⟩, ⟨none, .st 5 (.t 9) (.t 30), none⟩])
 (.seq (.reg [⟨some 31, .fa 0 (.t 9), none⟩, ⟨some 32, .ld none (.t 31), none⟩, ⟨some 33, .bin .num .eql (.t 32) (.c (.int .i64 13)), none⟩, ⟨some 34, .mv (.t 33), none⟩, ⟨some 35, .fa 0 (.t 9), (some (34, false))⟩, ⟨some 36, .ld none (.t 35), (some (34, false))⟩, ⟨some 37, .bin .num .eql (.t 36) (.c (.int .i64 14)), (some (34, false))⟩, ⟨some 38, .pick (.t 34) (.c (.bool true)) (.t 37), none⟩])
 (.cond (.t 38) (.reg [⟨some 39, .mv (.t 3), none⟩, ⟨some 40, .ia 1 (.t 39) (.c (.int .i64 0)), none⟩, ⟨some 41, .ld none (.t 40), none⟩, ⟨some 42, .bin .num .add (.t 41) (.c (.int .i64 1)), none⟩, ⟨some 43, .fa 4 (.t 8), none⟩, ⟨none, .st 1 (.t 43) (.t 42), none⟩]) (.skip))))) (.skip)))
 (.reg [⟨some 44, .mv (.t 0), none⟩, ⟨some 45, .fa 1 (.t 6), none⟩, ⟨some 46, .ld none (.t 45), none⟩, ⟨some 47, .ld (some 9) (.t 8), none⟩, ⟨some 48, .bsl true 9 1 [(.int .i64 0), (.int .i64 0), (.int .i64 0), (.int .i64 0), (.int .i64 0), (.int .i64 0), (.int .i64 0), (.str ⟨#[]⟩), .nils] [(0, 9, (.t 47))], none⟩, ⟨some 49, .call .no 117 [(.t 44), (.t 46), (.t 48)], none⟩])))⟩
end Go.Proofs.YP
