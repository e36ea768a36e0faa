/- Texts that the laws of the seat rest on: an abstract machine, what the functions answer in it, plain laws. -/
import Derived.Test.YtjehnhppfneidaaGreatDoorTxh
set_option linter.unusedVariables false
set_option linter.unusedSimpArgs false
set_option linter.unusedSectionVars false
set_option maxHeartbeats 8000000
set_option maxRecDepth 20000
namespace Go.Proofs.YP
open Go
theorem sz0 : ByteArray.size ⟨#[]⟩ = 0 := rfl
mutual
/-- A tree's numbers are int64's. -/
def T.ok1 : T → Prop
 | .mk op s n l x => ok64 op ∧ ok64 n ∧ ok64 x ∧ T.okL1 l
def T.okL1 : List T → Prop
 | [] => True
 | t :: r => t.ok1 ∧ T.okL1 r
end
theorem T.okL1_app : ∀ {a b : List T}, T.okL1 a → T.okL1 b → T.okL1 (a ++ b)
 | [], b, _, h => h
 | t :: r, b, h, h' => ⟨h.1, T.okL1_app h.2 h'⟩
theorem T.wtL_app : ∀ a b : List T, T.wtL (a ++ b) = T.wtL a + T.wtL b
 | [], b => by simp [T.wtL]
 | t :: r, b => by simp only [List.cons_append, T.wtL, T.wtL_app r b]; omega
mutual
theorem T.ok_of : ∀ t : T, t.ok1 → t.wt ≤ 1000000 → t.ok
 | .mk op s n l x, h, hw => by
  simp only [T.wt] at hw
  have := T.len_wtL l
  exact ⟨by omega, by omega, h.1, h.2.1, h.2.2.1, T.okL_of l h.2.2.2 (by omega)⟩
theorem T.okL_of : ∀ l : List T, T.okL1 l → T.wtL l ≤ 1000000 → T.okL l
 | [], _, _ => trivial
 | t :: r, h, hw => by
  simp only [T.wtL] at hw
  exact ⟨T.ok_of t h.1 (by omega), T.okL_of r h.2 (by omega)⟩
end
def pt (tk : List Tk) (p : Nat) : Nat := Tk.pot (tk.take p)
theorem pt_next {tk : List Tk} {p : Nat} (h : p < tk.length) : pt tk (p + 1) = pt tk p + 32 + (tkAt tk p).s.size := by
 have hx := List.getElem?_eq_getElem h
 unfold pt
 rw [List.take_add_one, hx, Tk.pot_app]
 simp only [Option.toList_some, Tk.pot, tkAt, hx, Option.getD_some]; omega
theorem pt_mono {tk : List Tk} {p q : Nat} (h : p ≤ q) : pt tk p ≤ pt tk q := by
 unfold pt
 obtain ⟨d, rfl⟩ := Nat.exists_eq_add_of_le h
 have : tk.take (p + d) = tk.take p ++ (tk.drop p).take d := by rw [List.take_add]
 rw [this, Tk.pot_app]; omega
theorem pt_lt {tk : List Tk} {p q : Nat} (h : pt tk p < pt tk q) : p < q := by
 rcases Nat.lt_or_ge p q with h1 | h1
 ·exact h1
 ·have := pt_mono (tk := tk) h1; omega
theorem pt_le (tk : List Tk) (p : Nat) : pt tk p ≤ Tk.pot tk := by
 have := pt_mono (tk := tk) (Nat.le_max_left p tk.length)
 unfold pt at this ⊢
 rwa [List.take_of_length_le (Nat.le_max_right p tk.length)] at this
def Go1 (tk : List Tk) (p : Nat) (e : Int) (p' : Nat) (e' ln' : Int) : Prop := p ≤ p' ∧ p' ≤ tk.length ∧ ok64 e' ∧ ok64 ln' ∧ (e ≠ 0 → e' ≠ 0)
def NodeQ (tk : List Tk) (x sl A : Nat) (p : Nat) (e : Int) (w : AV) (p' : Nat) (e' ln' : Int) : Prop :=
 ∃ t : T, w = .agg t.enc ∧ t.ok1 ∧ Go1 tk p e p' e' ln' ∧ (e' = 0 → t.wt + sl + pt tk p ≤ pt tk p' + x) ∧ t.wt + pt tk p ≤ pt tk p' + x + A
def ListQ (tk : List Tk) (A : Nat) (p : Nat) (e : Int) (w : AV) (p' : Nat) (e' ln' : Int) : Prop :=
 ∃ l : List T, w = .sl none l.length (T.encL l) ∧ T.okL1 l ∧ Go1 tk p e p' e' ln' ∧ (e' = 0 → T.wtL l + pt tk p ≤ pt tk p') ∧ T.wtL l + pt tk p ≤ pt tk p' + A
theorem NodeQ.ref {tk x sl A p e} : ∀ w p' e' ln', NodeQ tk x sl A p e w p' e' ln' → w.refs = [] := by rintro _ _ _ _ ⟨t, rfl, _⟩; simp only [AV.refs, T.enc_refs]
theorem ListQ.ref {tk A p e} : ∀ w p' e' ln', ListQ tk A p e w p' e' ln' → w.refs = [] := by rintro _ _ _ _ ⟨l, rfl, _⟩; simp only [AV.refs, T.encL_refs]
def mu (tk : List Tk) (p : Nat) (e : Int) : Nat := 2 * (tk.length - p) + if e = 0 then 1 else 0
theorem mu_adv {tk : List Tk} {p q : Nat} {e f : Int} (h : p < q) (hq : q ≤ tk.length) : mu tk q f + 1 ≤ mu tk p e := by
 unfold mu; split <;> split <;> omega
theorem mu_err {tk : List Tk} {p q : Nat} {f : Int} (h : p ≤ q) (hf : f ≠ 0) : mu tk q f + 1 ≤ mu tk p 0 := by
 unfold mu; rw [if_neg hf, if_pos rfl]; omega
theorem mu_le {tk : List Tk} {p q : Nat} {e f : Int} (h : p ≤ q) (hf : e ≠ 0 → f ≠ 0) : mu tk q f ≤ mu tk p e := by
 unfold mu
 by_cases he : e = 0
 ·rw [if_pos he]; split <;> omega
 ·rw [if_neg he, if_neg (hf he)]; omega
def fu (tk : List Tk) (p : Nat) (e : Int) (c : Nat) : Nat := 64 * mu tk p e + c + tk.length + 300
theorem fu_le {tk : List Tk} {p q : Nat} {e f : Int} {c d k : Nat} (h : p ≤ q) (hf : e ≠ 0 → f ≠ 0) (hc : d < c) (hk : fu tk p e c ≤ k + 1) : fu tk q f d ≤ k := by
 have := mu_le (tk := tk) h hf
 unfold fu at *; omega
theorem fu_adv {tk : List Tk} {p q : Nat} {e f : Int} {c d k : Nat} (h : p < q) (hq : q ≤ tk.length) (hd : d ≤ 63) (hk : fu tk p e c ≤ k + 1) : fu tk q f d ≤ k := by
 have := mu_adv (tk := tk) (e := e) (f := f) h hq
 unfold fu at *; omega
theorem fu_err {tk : List Tk} {p q : Nat} {f : Int} {c d k : Nat} (h : p ≤ q) (hf : f ≠ 0) (hd : d ≤ 63) (hk : fu tk p 0 c ≤ k + 1) : fu tk q f d ≤ k := by
 have := mu_err (tk := tk) h hf
 unfold fu at *; omega
theorem fu_k {tk : List Tk} {p : Nat} {e : Int} {c k : Nat} (hk : fu tk p e c ≤ k + 1) : tk.length + 290 ≤ k := by
 unfold fu at hk; omega
structure At (tk : List Tk) (p : Nat) (e ln : Int) : Prop where
 n : tk.length ≤ 60000
 ok : ∀ t ∈ tk, t.ok
 p : p ≤ tk.length
 e : ok64 e
 ln : ok64 ln
 w : Tk.pot tk ≤ 2000000
theorem At.to {tk p e ln p' e' ln'} (h : At tk p e ln) (g : Go1 tk p e p' e' ln') : At tk p' e' ln' := ⟨h.n, h.ok, g.2.1, g.2.2.1, g.2.2.2.1, h.w⟩
theorem At.next {tk p e ln} (h : At tk p e ln) (hp : p < tk.length) : At tk (p + 1) e ln := ⟨h.n, h.ok, hp, h.e, h.ln, h.w⟩
theorem Go1.refl {tk p e ln} (h : At tk p e ln) : Go1 tk p e p e ln := ⟨Nat.le_refl _, h.p, h.e, h.ln, id⟩
theorem Go1.trans {tk p e p' e' ln' p'' e'' ln''} (h : Go1 tk p e p' e' ln') (k : Go1 tk p' e' p'' e'' ln'') : Go1 tk p e p'' e'' ln'' :=
 ⟨Nat.le_trans h.1 k.1, k.2.1, k.2.2.1, k.2.2.2.1, fun x => k.2.2.2.2 (h.2.2.2.2 x)⟩
theorem Go1.next {tk p e ln} (h : At tk p e ln) (hp : p < tk.length) : Go1 tk p e (p + 1) e ln := ⟨by omega, hp, h.e, h.ln, id⟩
theorem At.pt {tk p e ln} (h : At tk p e ln) (q : Nat) : pt tk q ≤ 2000000 := Nat.le_trans (pt_le tk q) h.w
theorem takeN_go {tk p e ln} (h : At tk p e ln) (s : ByteArray) : Go1 tk p e (takeN tk p e s) e ln := by
 unfold takeN
 split
 ·rename_i hB; exact .next h (isB_lt hB).1
 ·exact .refl h
structure Par (tk : List Tk) (k : Nat) : Prop where
 expr : ∀ {p e ln}, At tk p e ln → fu tk p e 28 ≤ k → RdC k 147 [] tk p e ln (NodeQ tk 0 16 8 p e)
 cond : ∀ {p e ln}, At tk p e ln → fu tk p e 27 ≤ k → RdC k 169 [] tk p e ln (NodeQ tk 0 16 8 p e)
 chain : ∀ {p e ln} (lv : Nat), lv ≤ 6 → At tk p e ln → fu tk p e (26 - lv) ≤ k → RdC k 175 [.int .i64 lv] tk p e ln (NodeQ tk 0 16 8 p e)
 signed : ∀ {p e ln}, At tk p e ln → fu tk p e 19 ≤ k → RdC k 181 [] tk p e ln (NodeQ tk 0 16 8 p e)
 thing : ∀ {p e ln}, At tk p e ln → fu tk p e 18 ≤ k → RdC k 185 [] tk p e ln (NodeQ tk 0 16 8 p e)
 parts : ∀ {p e ln} (t : T) (b : Bool), t.ok1 → At tk p e ln → fu tk p e 17 ≤ k → RdC k 184 [.agg t.enc, .bool b] tk p e ln (NodeQ tk t.wt 0 8 p e)
 partsE : ∀ {p e ln} (t : T) (b : Bool), e ≠ 0 → At tk p e ln → 5 ≤ k → RdC k 184 [.agg t.enc, .bool b] tk p e ln (isQ (.agg t.enc) p e ln)
 head : ∀ {p e ln}, At tk p e ln → fu tk p e (if e = 0 then 16 else 40) ≤ k → RdC k 165 [] tk p e ln (NodeQ tk 0 16 8 p e)
 object : ∀ {p e ln}, At tk p e ln → fu tk p e 16 ≤ k → RdC k 188 [] tk p e ln (NodeQ tk 0 16 8 p e)
 args : ∀ {p e ln}, At tk p e ln → fu tk p e 30 ≤ k → RdC k 186 [] tk p e ln (ListQ tk 8 p e)
 rest : ∀ {p e ln}, At tk p e ln → fu tk p e 45 ≤ k → RdC k 167 [] tk p e ln (ListQ tk 10 p e)
 block : ∀ {p e ln}, At tk p e ln → fu tk p e 30 ≤ k → RdC k 145 [] tk p e ln (NodeQ tk 0 12 8 p e)
 stmts : ∀ {p e ln}, At tk p e ln → fu tk p e (if e = 0 then 40 else 5) ≤ k → RdC k 73 [] tk p e ln (ListQ tk 9 p e)
 stmt : ∀ {p e ln}, At tk p e ln → fu tk p e 35 ≤ k → RdC k 106 [] tk p e ln (NodeQ tk 0 12 9 p e)
 within : ∀ {p e ln}, At tk p e ln → fu tk p e 41 ≤ k → RdC k 166 [] tk p e ln (NodeQ tk 0 8 10 p e)
section
variable {tk : List Tk} {p : Nat} {e ln : Int} {k : Nat} {E : Env} {H : List ABlk} {I : List (Nat × Nat)} {rb ty : Nat}
theorem must_call (ha : At tk p e ln) (s0 : ByteArray) (hk : 6 ≤ k) (hE : E.Wf ⟨H, I⟩) (hr : E.rob ≤ rb) (hb : rb < H.length) (l : List ABlk) {P : Rt AV × St → Prop}
  (hp : ∀ p' e' ln', Go1 tk p e p' e' ln' → At tk p' e' ln' → (e' = 0 → e = 0 ∧ p < p' ∧ pt tk p + 32 ≤ pt tk p') → (e' ≠ 0 → p' = p) → pt tk p ≤ pt tk p' → P (.ok (.tup []), ⟨H.set rb (.cells ty (RQ tk (p' : Nat) e' ln')) ++ l, I⟩)) :
  obP (doCall (aCall prog k) E .full (.fn 163) [.ptr rb 0, .str s0] ⟨H.set rb (.cells ty (RQ tk p e ln)) ++ l, I⟩) P :=
 (f163 e ln s0 ha.n ha.ok ha.p ha.e ha.ln k hk).call hE hr hb l rfl mustQ.ref (by
  rintro _ p' e' ln' ⟨rfl, h1, h2, hm⟩
  have g : Go1 tk p e p' e' ln' := by
   rcases hm with ⟨h3, h4, h5, rfl⟩ | ⟨h3, rfl⟩
   ·exact ⟨by omega, h5, h1, h2, fun h => absurd h4 h⟩
   ·exact ⟨Nat.le_refl _, ha.p, h1, h2, fun _ => h3⟩
  refine hp p' e' ln' g (ha.to g) (fun h => ?_) (fun h => ?_) (pt_mono g.1)
  ·rcases hm with ⟨h3, h4, h5, rfl⟩ | ⟨h3, _⟩
   ·exact ⟨h4, by omega, by rw [pt_next h5]; omega⟩
   ·exact absurd h h3
  ·rcases hm with ⟨h3, _⟩ | ⟨_, h4⟩
   ·exact absurd h3 h
   ·exact h4)
theorem must_call0 (ha : At tk p e ln) (s0 : ByteArray) (hk : 6 ≤ k) (hE : E.Wf ⟨H, I⟩) (hr : E.rob ≤ rb) (hb : rb < H.length) {P : Rt AV × St → Prop}
  (hp : ∀ p' e' ln', Go1 tk p e p' e' ln' → At tk p' e' ln' → (e' = 0 → e = 0 ∧ p < p' ∧ pt tk p + 32 ≤ pt tk p') → (e' ≠ 0 → p' = p) → pt tk p ≤ pt tk p' → P (.ok (.tup []), ⟨H.set rb (.cells ty (RQ tk (p' : Nat) e' ln')), I⟩)) :
  obP (doCall (aCall prog k) E .full (.fn 163) [.ptr rb 0, .str s0] ⟨H.set rb (.cells ty (RQ tk p e ln)), I⟩) P := by
 have := must_call (ty := ty) (P := P) ha s0 hk hE hr hb [] (by simpa using hp)
 rwa [List.append_nil] at this
theorem takeF (tk : List Tk) (p : Nat) (e : Int) (s : ByteArray) : (isB tk p e s = true ∧ takeN tk p e s = p + 1 ∧ p < tk.length ∧ e = 0 ∧ pt tk (p + 1) = pt tk p + 32 + s.size) ∨ (isB tk p e s = false ∧ takeN tk p e s = p) := by
 cases h : isB tk p e s
 ·exact .inr ⟨rfl, by simp [takeN, h]⟩
 ·obtain ⟨h1, h2⟩ := isB_lt h
  refine .inl ⟨rfl, by simp [takeN, h], h1, h2, ?_⟩
  rw [pt_next h1]
  simp only [isB, Bool.and_eq_true, decide_eq_true_eq] at h
  rw [h.2.2]
end
theorem p_head {tk : List Tk} {k : Nat} (hP : Par tk k) {p : Nat} {e ln : Int} (ha : At tk p e ln) (hk : fu tk p e (if e = 0 then 16 else 40) ≤ k + 1) : RdC (k + 1) 165 [] tk p e ln (NodeQ tk 0 16 8 p e) := by
 intro E H I rb ty hE hr hb
 refine call_in1 rfl rfl (by decide) fun s hs e0 => ?_
 have hkk := fu_k hk
 have m0 := mw_loc0 hE
 have m1 := mw_loc hE
 simp [hs, e0]
 refine must_call ha _ (by omega) hE hr hb _ fun p1 e1 ln1 g1 a1 q1 q2 q3 => ?_
 simp [hs, e0]
 refine (hP.expr a1 ?_).call hE hr hb _ rfl NodeQ.ref ?_
 ·by_cases h1 : e1 = 0
  ·exact fu_adv (q1 h1).2.1 a1.p (by omega) hk
  ·by_cases he : e = 0
   ·subst he; exact fu_err g1.1 h1 (by omega) hk
   ·rw [if_neg he] at hk; exact fu_le g1.1 (fun _ => h1) (by omega) hk
 rintro _ p2 e2 ln2 ⟨⟨op, ss, nn, l, line⟩, rfl, ht, g2, hw1, hw2⟩
 have a2 := a1.to g2
 simp [hs, e0, m1]
 refine must_call a2 _ (by omega) hE hr hb _ fun p3 e3 ln3 g3 a3 q4 q5 q6 => ?_
 simp [hs, e0, m0]
 exact RdP.mkX p3 rfl ⟨.mk op ss nn l line, by simp, ht, g1.trans (g2.trans g3), fun h => by have := hw1 (q4 h).1; omega, by omega⟩
def J170 (H : List ABlk) (I : List (Nat × Nat)) (rb ty : Nat) (tk : List Tk) (p : Nat) (e ln : Int) (n : Nat) (s : List AV) (m : List Nat) (st : St) : Prop :=
 ∃ (i : Nat) (d : Int), i ≤ p ∧ n = p - i ∧ s.length = 54 ∧ m = [] ∧ st = ⟨H.set rb (.cells ty (RQ tk p e ln)), I⟩ ∧ lk s 0 = .ptr rb 0 ∧ lk s 6 = .int .i64 i ∧ lk s 5 = .int .i64 d
def boQ (p : Nat) (e ln : Int) (w : AV) (p' : Nat) (e' ln' : Int) : Prop := (∃ b, w = .bool b) ∧ p' = p ∧ e' = e ∧ ln' = ln
theorem boQ.ref {p : Nat} {e ln : Int} : ∀ w p' e' ln', boQ p e ln w p' e' ln' → w.refs = [] := by rintro _ _ _ _ ⟨⟨b, rfl⟩, _⟩; rfl
theorem f170 {tk : List Tk} {p q : Nat} {e ln : Int} (ha : At tk p e ln) (hq : q ≤ p) (k : Nat) (hk : tk.length + 10 ≤ k) : RdC k 170 [.int .i64 q] tk p e ln (boQ p e ln) := by
  intro E H I rb ty hE hr hb
  obtain ⟨k, rfl⟩ := uK (k := k) (by omega)
  refine call_in2 rfl rfl (by decide) fun s hs e0 e1 => ?_
  have hp := ha.p
  have hn := ha.n
  have fin : ∀ b, RdP H I rb ty tk (boQ p e ln) (.ok (.bool b)) ⟨H.set rb (.cells ty (RQ tk p e ln)), I⟩ := fun b => RdP.mk0 p rfl ⟨⟨b, by simp⟩, rfl, rfl, rfl⟩
  simp [hs, e0, e1]
  refine WP_loop (J170 H I rb ty tk p e ln) (p - q) (by omega) ⟨q, 0, hq, rfl, by simp [hs], rfl, rfl, by simp [hs, e0], by simp [hs], by simp [hs]⟩ ?_
  rintro _ s m _ ⟨i, d, hi, rfl, hs, rfl, rfl, e0, e6, e5⟩
  by_cases hlt : i < p
  rotate_left
  · simp [hs, e0, e6, e5, rg0 hb, hlt, fin]
  obtain ⟨t, ht⟩ : ∃ t, tk[i]? = some t := ⟨_, List.getElem?_eq_getElem (by omega)⟩
  have c0 := Tk.cell ht 0 (by omega)
  have c1 := Tk.cell ht 1 (by omega)
  have hin : i < tk.length := by omega
  have hw := wrap64 (n := (i : Int) + 1) (by omega)
  simp only [Nat.add_zero] at c0
  have next : ∀ (s' : List AV), s'.length = 54 → lk s' 0 = .ptr rb 0 → lk s' 6 = .int .i64 ((i : Int) + 1) → (∃ x, lk s' 5 = .int .i64 x) →
      ∃ n', n' < p - i ∧ J170 H I rb ty tk p e ln n' s' [] ⟨H.set rb (.cells ty (RQ tk p e ln)), I⟩ := fun s' h1 h2 h3 ⟨x, h4⟩ =>
    ⟨p - (i + 1), by omega, i + 1, x, by omega, rfl, h1, rfl, rfl, h2, by simpa using h3, h4⟩
  by_cases h5 : t.kind = 5
  rotate_left
  · simp [hs, e0, e6, e5, rg0 hb, hlt, hin, c0, Tk.enc, h5, hw]
    exact next _ (by simp [hs]) (by simp [hs, e0]) (by simp [hs]) (by simp [hs, e5])
  simp [hs, e0, e6, e5, rg0 hb, hlt, hin, c0, c1, Tk.enc, h5]
  repeat' (with_reducible refine wIf_dec (fun h => ?_) (fun h => ?_) <;> simp [hs, e0, e6, e5, rg0 hb, h, hw, fin])
  all_goals exact next _ (by simp [hs]) (by simp [hs, e0]) (by simp [hs]) (by simp [hs, e5])
def z5 : ABlk := .cells 24 [.int .i64 0, .str ⟨#[]⟩, .int .i64 0, .nils, .int .i64 0]
def M147 (H : List ABlk) (I : List (Nat × Nat)) (rb ty : Nat) (tk : List Tk) (p : Nat) (e ln : Int) (s : List AV) (m : List Nat) (st : St) : Prop :=
 ∃ (p1 : Nat) (e1 ln1 : Int) (t : T) (c : Bool), m = [] ∧ s.length = 52 ∧ lk s 0 = .ptr rb 0 ∧ lk s 2 = .ptr H.length 0 ∧ lk s 5 = .ptr (H.length + 1) 0 ∧ lk s 6 = .bool c ∧ st = ⟨H.set rb (.cells ty (RQ tk p1 e1 ln1)) ++ [z5, .cells 24 t.enc], I⟩ ∧
  t.ok1 ∧ Go1 tk p e p1 e1 ln1 ∧ (e1 = 0 → t.wt + 16 + pt tk p ≤ pt tk p1) ∧ t.wt + pt tk p ≤ pt tk p1 + 8
theorem p_expr {tk : List Tk} {k : Nat} (hP : Par tk k) {p : Nat} {e ln : Int} (ha : At tk p e ln) (hk : fu tk p e 28 ≤ k + 1) : RdC (k + 1) 147 [] tk p e ln (NodeQ tk 0 16 8 p e) := by
  intro E H I rb ty hE hr hb
  refine call_in1 rfl rfl (by decide) fun s hs e0 => ?_
  have hkk := fu_k hk
  have m0 := mw_loc0 hE
  have m1 := mw_loc hE
  rw [WP_assoc, WP_assoc, WP_assoc, WP_assoc, WP_assoc]
  refine WP_seqM (M147 H I rb ty tk p e ln) ?_ ?_
  · have gi := is_eq (e := e) (ln := ln) (ty := ty) ⟨#[40]⟩ ha.n ha.p (k := k) (by omega) hE hr hb
    obtain ⟨b, hB⟩ : ∃ b, isB tk p e ⟨#[40]⟩ = b := ⟨_, rfl⟩
    rw [hB] at gi
    simp [hs, e0, gi, rg hb]
    refine (hP.cond ha (fu_le (Nat.le_refl _) id (by omega) hk)).call hE hr hb _ rfl NodeQ.ref ?_
    rintro _ p1 e1 ln1 ⟨⟨op, ss, nn, l, line⟩, rfl, ht, g1, hw1, hw2⟩
    have a1 := ha.to g1
    have c170 : ∀ (l : List ABlk) {P : Rt AV × St → Prop}, (∀ b, P (.ok (.bool b), ⟨H.set rb (.cells ty (RQ tk p1 e1 ln1)) ++ l, I⟩)) → obP (doCall (aCall prog k) E .full (.fn 170) [.ptr rb 0, .int .i64 p] ⟨H.set rb (.cells ty (RQ tk p1 e1 ln1)) ++ l, I⟩) P := fun l P hP2 =>
      (f170 a1 g1.1 k (by omega)).call hE hr hb l rfl boQ.ref (by rintro _ _ _ _ ⟨⟨b, rfl⟩, rfl, rfl, rfl⟩; exact hP2 b)
    have fin : ∀ (s' : List AV), s'.length = 52 → lk s' 0 = .ptr rb 0 → lk s' 2 = .ptr H.length 0 → lk s' 5 = .ptr (H.length + 1) 0 → (∃ c, lk s' 6 = .bool c) →
        nrmQ (M147 H I rb ty tk p e ln) .nrm s' [] ⟨H.set rb (.cells ty (RQ tk p1 e1 ln1)) ++ [.cells 24 [.int .i64 0, .str ⟨#[]⟩, .int .i64 0, .nils, .int .i64 0], .cells 24 [.int .i64 op, .str ss, .int .i64 nn, .sl none l.length (T.encL l), .int .i64 line]], I⟩ := fun s' h1 h2 h3 h4 ⟨c, h5⟩ =>
      ⟨rfl, p1, e1, ln1, .mk op ss nn l line, c, rfl, h1, h2, h3, h4, h5, by simp [z5], ht, g1, hw1, hw2⟩
    simp [hs, e0, m1]
    cases b
    · repeat' (with_reducible refine wIf_dec (fun h => ?_) (fun h => ?_) <;> first | (subst h; simp [hs, e0]) | simp [hs, e0, h])
      all_goals exact fin _ (by simp [hs]) (by simp [hs, e0]) (by simp [hs]) (by simp [hs]) (by simp [hs])
    · repeat' (with_reducible refine wIf_dec (fun h => ?_) (fun h => ?_) <;> first | (subst h; simp [hs, e0]) | simp [hs, e0, h])
      all_goals
        refine c170 _ fun b2 => ?_
        cases b2
        · simp [hs, e0]
          exact fin _ (by simp [hs]) (by simp [hs, e0]) (by simp [hs]) (by simp [hs]) (by simp [hs])
        · simp [hs, e0]
          exact fin _ (by simp [hs]) (by simp [hs, e0]) (by simp [hs]) (by simp [hs]) (by simp [hs])
  rintro s m _ ⟨p1, e1, ln1, ⟨op, ss, nn, l, line⟩, c, rfl, hs, e0, e2, e5, e6, rfl, ht, g1, hw1, hw2⟩
  have a1 := ha.to g1
  have mm := pt_mono (tk := tk) g1.1
  have fin0 : ∀ X, RdP H I rb ty tk (NodeQ tk 0 16 8 p e) (.ok (.agg [.int .i64 op, .str ss, .int .i64 nn, .sl none l.length (T.encL l), .int .i64 line])) ⟨H.set rb (.cells ty (RQ tk p1 e1 ln1)) ++ X, I⟩ := fun X =>
    RdP.mkX p1 rfl ⟨.mk op ss nn l line, by simp, ht, g1, hw1, hw2⟩
  cases c
  · simp [hs, e0, e2, e5, e6, z5, m0, fin0]
  have gt := take_eq (e := e1) (ln := ln1) (ty := ty) ⟨#[61]⟩ a1.n a1.p (k := k) (by omega) hE hr hb
  rcases takeF tk p1 e1 ⟨#[61]⟩ with ⟨hB, hT, hlt, rfl, hpt⟩ | ⟨hB, hT⟩
  rotate_left
  · rw [hB, hT] at gt
    simp [hs, e0, e2, e5, e6, gt, z5, m0, fin0]
  rw [hB, hT] at gt
  have hw1 := hw1 rfl
  simp [hs, e0, e2, e5, e6, gt, z5, Nat.testBit]
  refine (hP.expr (a1.next hlt) (fu_adv (by have := g1.1; omega) hlt (by omega) hk)).call hE hr hb _ rfl NodeQ.ref ?_
  rintro _ p2 e2' ln2 ⟨⟨op2, ss2, nn2, l2, line2⟩, rfl, ht2, g2, hw3, hw4⟩
  simp [hs, e0, e2, e5, e6, m0, m1]
  refine RdP.mk p2 rfl ⟨.mk 17 ⟨#[]⟩ 0 [.mk op ss nn l line, .mk op2 ss2 nn2 l2 line2] line, by simp, ⟨by simp [ok64], by simp [ok64], ht.2.2.1, ht, ht2, trivial⟩, g1.trans ((Go1.next a1 hlt).trans g2), fun h => ?_, ?_⟩
  · have := hw3 h
    simp only [T.wt, T.wtL, sz0] at *; omega
  · simp only [T.wt, T.wtL, sz0] at *; omega
theorem p_cond {tk : List Tk} {k : Nat} (hP : Par tk k) {p : Nat} {e ln : Int} (ha : At tk p e ln) (hk : fu tk p e 27 ≤ k + 1) : RdC (k + 1) 169 [] tk p e ln (NodeQ tk 0 16 8 p e) := by
 intro E H I rb ty hE hr hb
 refine call_in1 rfl rfl (by decide) fun s hs e0 => ?_
 have hkk := fu_k hk
 have m0 := mw_loc0 hE
 have m1 := mw_loc hE
 simp [hs, e0]
 refine (hP.chain 0 (by omega) ha (fu_le (Nat.le_refl _) id (by omega) hk)).call hE hr hb _ rfl NodeQ.ref ?_
 rintro _ p1 e1 ln1 ⟨⟨op, ss, nn, l, line⟩, rfl, ht, g1, hw1, hw2⟩
 have a1 := ha.to g1
 have mm := pt_mono (tk := tk) g1.1
 have gt := take_eq (e := e1) (ln := ln1) (ty := ty) ⟨#[63]⟩ a1.n a1.p (k := k) (by omega) hE hr hb
 rcases takeF tk p1 e1 ⟨#[63]⟩ with ⟨hB, hT, hlt, rfl, hpt⟩ | ⟨hB, hT⟩
 rotate_left
 ·rw [hB, hT] at gt
  simp [hs, e0, m0, m1, gt]
  exact RdP.mkX p1 rfl ⟨.mk op ss nn l line, by simp, ht, g1, hw1, hw2⟩
 rw [hB, hT] at gt
 have hw1 := hw1 rfl
 have gn := Go1.next a1 hlt
 simp [hs, e0, m1, gt]
 refine (hP.expr (a1.next hlt) (fu_adv (by have := g1.1; omega) hlt (by omega) hk)).call hE hr hb _ rfl NodeQ.ref ?_
 rintro _ p2 e2 ln2 ⟨⟨op2, ss2, nn2, l2, line2⟩, rfl, ht2, g2, hw3, hw4⟩
 have a2 := (a1.next hlt).to g2
 have mm2 := pt_mono (tk := tk) g2.1
 simp [hs, e0, m1]
 refine must_call a2 _ (by omega) hE hr hb _ fun p3 e3 ln3 g3 a3 q4 q5 q6 => ?_
 simp [hs, e0, Nat.testBit]
 refine (hP.expr a3 (fu_adv (by have := g1.1; have := g2.1; have := g3.1; omega) a3.p (by omega) hk)).call hE hr hb _ rfl NodeQ.ref ?_
 rintro _ p4 e4 ln4 ⟨⟨op3, ss3, nn3, l3, line3⟩, rfl, ht3, g4, hw5, hw6⟩
 simp [hs, e0, m0, m1]
 refine RdP.mk p4 rfl ⟨.mk 23 ⟨#[]⟩ 0 [.mk op ss nn l line, .mk op2 ss2 nn2 l2 line2, .mk op3 ss3 nn3 l3 line3] line, by simp, ⟨by simp [ok64], by simp [ok64], ht.2.2.1, ht, ht2, ht3, trivial⟩, g1.trans (gn.trans (g2.trans (g3.trans g4))), fun h => ?_, ?_⟩
 ·have h5 := hw5 h
  have h3 : e3 = 0 := by
   rcases Decidable.em (e3 = 0) with h' | h'
   ·exact h'
   ·exact absurd h (g4.2.2.2.2 h')
  have h2 := hw3 (q4 h3).1
  simp only [T.wt, T.wtL, sz0] at *; omega
 ·simp only [T.wt, T.wtL, sz0] at *; omega
def isSg (w : AV) : Prop := ∃ l : List ByteArray, w = .sl none l.length (l.map .str) ∧ l.length ≤ 2 ∧ ∀ s ∈ l, s ≠ ⟨#[]⟩
theorem f182 (lv : Int) (k : Nat) (hk : 1 ≤ k) : PureE k 182 [.int .i64 lv] isSg := by
 intro E st hE
 obtain ⟨k, rfl⟩ := uK (k := k) (by omega)
 refine call_in1 rfl rfl (by decide) fun s hs e0 => ?_
 have one : ∀ a : ByteArray, a ≠ ⟨#[]⟩ → isSg (.sl none 1 [.str a]) := fun a ha => ⟨[a], rfl, by simp, by simpa using ha⟩
 have two : ∀ a b : ByteArray, a ≠ ⟨#[]⟩ → b ≠ ⟨#[]⟩ → isSg (.sl none 2 [.str a, .str b]) := fun a b ha hb => ⟨[a, b], rfl, by simp, by simp [ha, hb]⟩
 simp [hs, e0]
 repeat' (with_reducible refine wIf_dec (fun h => ?_) (fun h => ?_) <;> simp [hs, h, wrC, Grow.app st [] [(1, 1)]])
 all_goals exact ⟨⟨List.prefix_rfl, List.prefix_append _ _⟩, by first | exact one _ (by decide) | exact two _ _ (by decide) (by decide)⟩
theorem refsStr : ∀ l : List ByteArray, AV.refsL (l.map .str) = []
 | [] => rfl
 | a :: r => by simp [refsStr r]
def newO (m : Nat) (o : Option Nat) : Prop := ∀ j, o = some j → m ≤ j
theorem newO.fin {m : Nat} {o : Option Nat} (h : newO m o) (n : Nat) (cs : List AV) : AV.fin m (.sl o n cs) = .sl none n (AV.finL m cs) := by
 cases o with
 | none => rfl
 | some j =>
  have := h j rfl
  simp only [AV.fin]
  rw [if_neg (by omega)]
theorem newO.fin0 (o : Option Nat) (n : Nat) (cs : List AV) : AV.fin 0 (.sl o n cs) = .sl none n (AV.finL 0 cs) := newO.fin (fun _ _ => Nat.zero_le _) n cs
def nodeC (t : T) (o : Option Nat) : List AV := match t with
 | .mk op s n l line => [.int .i64 op, .str s, .int .i64 n, .sl o l.length (T.encL l), .int .i64 line]
@[simp] theorem nodeC_mk (op s n l line o) : nodeC (.mk op s n l line) o = [.int .i64 op, .str s, .int .i64 n, .sl o l.length (T.encL l), .int .i64 line] := nr rfl
def J175 (H : List ABlk) (I : List (Nat × Nat)) (rb ty : Nat) (tk : List Tk) (p : Nat) (e ln : Int) (lv n : Nat) (s : List AV) (m : List Nat) (st : St) : Prop :=
 ∃ (p1 : Nat) (e1 ln1 : Int) (t : T) (o : Option Nat) (X : List ABlk) (I' : List (Nat × Nat)), n = tk.length - p1 ∧ s.length = 71 ∧ m = [] ∧ lk s 0 = .ptr rb 0 ∧ lk s 1 = .int .i64 lv ∧ lk s 4 = .ptr H.length 0 ∧ lk s 5 = .ptr (H.length + 1) 0 ∧
  st = ⟨H.set rb (.cells ty (RQ tk p1 e1 ln1)) ++ z5 :: .cells 24 (nodeC t o) :: X, I'⟩ ∧ I <+: I' ∧ newO I.length o ∧ t.ok1 ∧ Go1 tk p e p1 e1 ln1 ∧ (e1 = 0 → t.wt + 16 + pt tk p ≤ pt tk p1) ∧ t.wt + pt tk p ≤ pt tk p1 + 8
def J175i (H : List ABlk) (rb ty : Nat) (tk : List Tk) (p1 : Nat) (ln1 : Int) (sg : List ByteArray) (l : List ABlk) (I' : List (Nat × Nat)) (lv n : Nat) (s : List AV) (m : List Nat) (st : St) : Prop :=
 ∃ (i p2 : Nat) (w : ByteArray), i ≤ sg.length ∧ n = sg.length - i ∧ s.length = 71 ∧ m = [] ∧ lk s 0 = .ptr rb 0 ∧ lk s 1 = .int .i64 lv ∧ lk s 4 = .ptr H.length 0 ∧ lk s 5 = .ptr (H.length + 1) 0 ∧ lk s 6 = .str w ∧ lk s 7 = .sl none sg.length (sg.map .str) ∧ lk s 8 = .int .i64 i ∧
  st = ⟨H.set rb (.cells ty (RQ tk p2 0 ln1)) ++ l, I'⟩ ∧ ((w = ⟨#[]⟩ ∧ p2 = p1) ∨ (w ≠ ⟨#[]⟩ ∧ p1 < tk.length ∧ p2 = p1 + 1 ∧ pt tk p2 = pt tk p1 + 32 + w.size))
theorem p_chain {tk : List Tk} {k : Nat} (hP : Par tk k) {p : Nat} {e ln : Int} (lv : Nat) (hlv : lv ≤ 6) (ha : At tk p e ln) (hk : fu tk p e (26 - lv) ≤ k + 1) : RdC (k + 1) 175 [.int .i64 lv] tk p e ln (NodeQ tk 0 16 8 p e) := by
  intro E H I rb ty hE hr hb
  refine call_in2 rfl rfl (by decide) fun s hs e0 e1 => ?_
  have hkk := fu_k hk
  have m0 := mw_loc0 hE
  have m1 := mw_loc hE
  by_cases h6 : lv = 6
  · subst h6
    simp [hs, e0, e1]
    refine (hP.signed ha (fu_le (Nat.le_refl _) id (by omega) hk)).call hE hr hb _ rfl NodeQ.ref ?_
    rintro _ p1 e1' ln1 ⟨⟨op, ss, nn, l, line⟩, rfl, ht, g1, hw1, hw2⟩
    simp [hs, m0]
    exact RdP.mkX p1 rfl ⟨.mk op ss nn l line, by simp, ht, g1, hw1, hw2⟩
  have h6' : ¬ (lv : Int) = 6 := by omega
  have hw0 := wrap64 (n := (lv : Int) + 1) (by omega)
  have cc : ∀ {p1 : Nat} {e1 ln1 : Int}, At tk p1 e1 ln1 → fu tk p1 e1 (26 - (lv + 1)) ≤ k → RdC k 175 [.int .i64 ((lv : Int) + 1)] tk p1 e1 ln1 (NodeQ tk 0 16 8 p1 e1) := fun h1 h2 => by
    have := hP.chain (lv + 1) (by omega) h1 h2
    simpa using this
  simp [hs, e0, e1, h6', hw0]
  refine (cc ha (fu_le (Nat.le_refl _) id (by omega) hk)).call hE hr hb _ rfl NodeQ.ref ?_
  rintro _ p1 e1' ln1 ⟨⟨op, ss, nn, l, line⟩, rfl, ht, g1, hw1, hw2⟩
  simp [hs, e0, e1, m1]
  refine WP_loop (J175 H I rb ty tk p e ln lv) (tk.length - p1) (by omega) ⟨p1, e1', ln1, .mk op ss nn l line, none, [], I, rfl, by simp [hs], rfl, by simp [hs, e0], by simp [hs, e1], by simp [hs], by simp [hs], by simp [z5], List.prefix_rfl, (fun _ h => nomatch h), ht, g1, hw1, hw2⟩ ?_
  clear hs e0 e1 s ht g1 hw1 hw2
  rintro _ s m _ ⟨p1, e1', ln1, ⟨op, ss, nn, l, line⟩, o, X, I', rfl, hs, rfl, e0, e1, e4, e5, rfl, hI, ho, ht, g1, hw1, hw2⟩
  have f0 := newO.fin0 o
  have fI := ho.fin
  have hE' : E.Wf ⟨H, I'⟩ := hE.of (Nat.le_refl _) hI.length_le
  have a1 := ha.to g1
  have mm := pt_mono (tk := tk) g1.1
  by_cases hz : e1' = 0
  rotate_left
  · simp [hs, e0, e4, e5, z5, rg hb, hz, m0]
    exact RdP.mkI p1 hI rfl ⟨.mk op ss nn l line, by simp [fI], ht, g1, hw1, hw2⟩
  subst hz
  have hw1 := hw1 rfl
  have hEs : E.Wf ⟨H.set rb (.cells ty (RQ tk p1 0 ln1)) ++ z5 :: .cells 24 (nodeC (.mk op ss nn l line) o) :: X, I'⟩ := hE'.of (by simp) (Nat.le_refl _)
  simp [hs, e0, e1, rg hb]
  refine (f182 lv k (by omega)).call (by rintro _ ⟨l, rfl, _⟩; simp only [AV.refs, refsStr]) hEs rfl ?_
  rintro _ ⟨sg, rfl, hsg, hne⟩
  simp [hs]
  refine WP_loop (J175i H rb ty tk p1 ln1 sg (z5 :: .cells 24 (nodeC (.mk op ss nn l line) o) :: X) I' lv) sg.length (by omega) ⟨0, p1, ⟨#[]⟩, by omega, rfl, by simp [hs], rfl, by simp [hs, e0], by simp [hs, e1], by simp [hs, e4], by simp [hs, e5], by simp [hs], by simp [hs], by simp [hs], rfl, .inl ⟨rfl, rfl⟩⟩ ?_
  clear hs e0 e1 e4 e5 s
  rintro _ s m _ ⟨i, p2, w, hi, rfl, hs, rfl, e0, e1, e4, e5, e6, e7, e8, rfl, hw⟩
  have hp2 : p2 ≤ tk.length := by
    rcases hw with ⟨_, rfl⟩ | ⟨_, h, rfl, _⟩
    · exact a1.p
    · omega
  by_cases hlt : i < sg.length ∧ w = ⟨#[]⟩
  · obtain ⟨hlt, rfl⟩ := hlt
    have hp : p2 = p1 := by
      rcases hw with ⟨_, h⟩ | ⟨h, _⟩
      · exact h
      · exact absurd rfl h
    subst hp
    obtain ⟨g, hg⟩ : ∃ g, sg[i]? = some g := ⟨_, List.getElem?_eq_getElem hlt⟩
    have hgne := hne g (List.mem_of_getElem? hg)
    have hwi := wrap64 (n := (i : Int) + 1) (by omega)
    have gt := take_eq (e := 0) (ln := ln1) (ty := ty) g a1.n a1.p (k := k) (by omega) hE' hr hb
    have hg' : sg[i]'hlt = g := by rw [List.getElem?_eq_getElem hlt] at hg; simpa using hg
    rcases takeF tk p2 0 g with ⟨hB, hT, hlt2, _, hpt⟩ | ⟨hB, hT⟩
    · rw [hB, hT] at gt
      simp [hs, e0, e6, e7, e8, hlt, hg, hg', gt, hwi]
      exact ⟨_, by omega, i + 1, p2 + 1, g, by omega, rfl, by simp [hs], rfl, by simp [hs, e0], by simp [hs, e1], by simp [hs, e4], by simp [hs, e5], by simp [hs], by simp [hs, e7], by simp [hs], by simp, .inr ⟨hgne, hlt2, rfl, hpt⟩⟩
    · rw [hB, hT] at gt
      simp [hs, e0, e6, e7, e8, hlt, hg, hg', gt, hwi]
      exact ⟨_, by omega, i + 1, p2, ⟨#[]⟩, by omega, rfl, by simp [hs], rfl, by simp [hs, e0], by simp [hs, e1], by simp [hs, e4], by simp [hs, e5], by simp [hs, e6], by simp [hs, e7], by simp [hs], rfl, .inl ⟨rfl, rfl⟩⟩
  rcases hw with ⟨rfl, rfl⟩ | ⟨hwne, hlt2, rfl, hpt⟩
  · have hlt' : ¬ i < sg.length := fun h => hlt ⟨h, rfl⟩
    simp [hs, e0, e4, e5, e6, e7, e8, hlt', z5, m0, blkQ_exit]
    exact RdP.mkI _ hI rfl ⟨.mk op ss nn l line, by simp [fI], ht, g1, fun _ => hw1, hw2⟩
  have gn := Go1.next a1 hlt2
  have an := a1.next hlt2
  have hil : i < sg.length ∨ ¬ i < sg.length := Decidable.em _
  rcases hil with hil | hil <;>
  · simp [hs, e0, e1, e4, e5, e6, e7, e8, hil, hwne, hw0]
    refine (cc an (fu_adv (by have := g1.1; omega) hlt2 (by omega) hk)).call hE' hr hb _ rfl NodeQ.ref ?_
    rintro _ p3 e3 ln3 ⟨⟨op2, ss2, nn2, l2, line2⟩, rfl, ht2, g2, hw3, hw4⟩
    have mm2 := pt_mono (tk := tk) g2.1
    have fin : ∀ (op3 : Int) (ss3 : ByteArray) (s' : List AV) (Y : List ABlk) (I2 : List (Nat × Nat)), ok64 op3 → ss3.size ≤ w.size → I' <+: I2 → s'.length = 71 → lk s' 0 = .ptr rb 0 → lk s' 1 = .int .i64 lv → lk s' 4 = .ptr H.length 0 → lk s' 5 = .ptr (H.length + 1) 0 →
        ∃ n', n' < tk.length - p1 ∧ J175 H I rb ty tk p e ln lv n' s' [] ⟨H.set rb (.cells ty (RQ tk p3 e3 ln3)) ++ .cells 24 [.int .i64 0, .str ⟨#[]⟩, .int .i64 0, .nils, .int .i64 0] :: .cells 24 [.int .i64 op3, .str ss3, .int .i64 0, .sl (some I'.length) 2 [.int .i64 op, .str ss, .int .i64 nn, .sl none l.length (T.encL l), .int .i64 line, .int .i64 op2, .str ss2, .int .i64 nn2, .sl none l2.length (T.encL l2), .int .i64 line2], .int .i64 line] :: Y, I2⟩ := fun op3 ss3 s' Y I2 hop hs3 hI2 q1 q2 q3 q4 q5 => by
      refine ⟨tk.length - p3, ?_, p3, e3, ln3, .mk op3 ss3 0 [.mk op ss nn l line, .mk op2 ss2 nn2 l2 line2] line, some I'.length, Y, I2, rfl, q1, rfl, q2, q3, q4, q5, by simp [z5], hI.trans hI2, fun j hj => by cases hj; exact hI.length_le, ⟨hop, by simp [ok64], ht.2.2.1, ht, ht2, trivial⟩, g1.trans (gn.trans g2), fun h => ?_, ?_⟩
      · have := g2.1; omega
      · have := hw3 h
        simp only [T.wt, T.wtL, sz0] at *; omega
      · simp only [T.wt, T.wtL, sz0] at *; omega
    by_cases h0 : lv = 0
    · subst h0
      simp [hs, e0, e1, e4, e5, e6, z5, m0, m1, f0, AV.finL]
      exact fin 22 ⟨#[]⟩ _ _ _ (by simp [ok64]) (by simp [sz0]) (List.prefix_append _ _) (by simp [hs]) (by simp [hs, e0]) (by simp [hs, e1]) (by simp [hs, e4]) (by simp [hs, e5])
    · by_cases h1 : lv = 1
      · subst h1
        simp [hs, e0, e1, e4, e5, e6, z5, m0, m1, f0, AV.finL]
        exact fin 21 ⟨#[]⟩ _ _ _ (by simp [ok64]) (by simp [sz0]) (List.prefix_append _ _) (by simp [hs]) (by simp [hs, e0]) (by simp [hs, e1]) (by simp [hs, e4]) (by simp [hs, e5])
      · have h1' : ¬ (lv : Int) = 1 := by omega
        simp [hs, e0, e1, e4, e5, e6, h0, h1', z5, m0, m1, f0]
        exact fin 18 w _ _ _ (by simp [ok64]) (Nat.le_refl _) (List.prefix_append _ _) (by simp [hs]) (by simp [hs, e0]) (by simp [hs, e1]) (by simp [hs, e4]) (by simp [hs, e5])
theorem srcA_T (o : Option Nat) (l : List T) : srcA 5 (.sl o l.length (T.encL l)) = some (l.length, T.encL l) := by
 simp only [srcA, T.encL_length, T.encL_one, decide_true, Bool.and_self, guardb_true, T.encL_fin]
theorem app_own {E : Env} {H : List ABlk} {I : List (Nat × Nat)} {sz bytes j n k : Nat} {cs ys : List AV} {y : AV} (hr : E.rom ≤ j) (hi : I[j]? = some (n, sz)) (hl : cs.length = n * sz) (hs : srcA sz y = some (k, ys)) (hb : bytes ≤ 1000) (hn : n + k ≤ 1000000000) :
  appA E ⟨H, I⟩ sz bytes (.sl (some j) n cs) y = some (.sl (some j) (n + k) (cs ++ ys), ⟨H, I.set j (n + k, sz)⟩) := by
 have h1 : (n + k) * bytes ≤ 70368744177664 := Nat.le_trans (Nat.mul_le_mul hn hb) (by decide)
 have h2 : n + k ≤ 70368744177664 := by omega
 simp [appA, hs, hr, hi, hl, h1, h2]
theorem app_one {E : Env} {I : List (Nat × Nat)} (hr : E.rom ≤ I.length) {a b c d e : AV} {l : List T} (hl : l.length ≤ 100000000) (Hx : List ABlk) :
  appA E ⟨Hx, I ++ [(1, 5)]⟩ 5 64 (.sl (some I.length) 1 [a, b, c, d, e]) (.sl none l.length (T.encL l)) = some (.sl (some I.length) (1 + l.length) (a :: b :: c :: d :: e :: T.encL l), ⟨Hx, I ++ [(1 + l.length, 5)]⟩) := by
 rw [app_own hr (by simp) rfl (srcA_T none l) (by omega) (by omega)]
 rw [List.set_append_right _ _ (Nat.le_refl _)]; simp
theorem parts_call {tk : List Tk} {k : Nat} (hP : Par tk k) {p p1 : Nat} {e1 ln1 : Int} (t : T) (b : Bool) (ht : t.ok1) (a1 : At tk p1 e1 ln1) (hk : fu tk p1 e1 17 ≤ k) (hw1 : e1 = 0 → t.wt + 16 + pt tk p ≤ pt tk p1) (hw2 : t.wt + pt tk p ≤ pt tk p1 + 8)
  {E : Env} {H : List ABlk} {I : List (Nat × Nat)} {rb ty : Nat} (hE : E.Wf ⟨H, I⟩) (hr : E.rob ≤ rb) (hb : rb < H.length) (l : List ABlk) {args' : List AV} (hf : args'.map AV.arg = [.agg t.enc, .bool b]) {P : Rt AV × St → Prop}
  (hp : ∀ (t2 : T) p' e' ln', t2.ok1 → Go1 tk p1 e1 p' e' ln' → (e' = 0 → t2.wt + 16 + pt tk p ≤ pt tk p') → t2.wt + pt tk p ≤ pt tk p' + 8 → P (.ok (.agg t2.enc), ⟨H.set rb (.cells ty (RQ tk (p' : Nat) e' ln')) ++ l, I⟩)) :
  obP (doCall (aCall prog k) E .full (.fn 184) (.ptr rb 0 :: args') ⟨H.set rb (.cells ty (RQ tk p1 e1 ln1)) ++ l, I⟩) P := by
 by_cases h : e1 = 0
 ·refine (hP.parts t b ht a1 hk).call hE hr hb l hf NodeQ.ref ?_
  rintro _ p' e' ln' ⟨t2, rfl, ht2, g, h1, h2⟩
  have := hw1 h
  exact hp t2 p' e' ln' ht2 g (fun h' => by have := h1 h'; omega) (by omega)
 ·refine (hP.partsE t b h a1 (by unfold fu at hk; omega)).call hE hr hb l hf (by rintro _ _ _ _ ⟨rfl, _⟩; simp only [AV.refs, T.enc_refs]) ?_
  rintro _ p' e' ln' ⟨rfl, rfl, rfl, rfl⟩
  exact hp t _ _ _ ht (.refl a1) hw1 hw2
theorem p_signed {tk : List Tk} {k : Nat} (hP : Par tk k) {p : Nat} {e ln : Int} (ha : At tk p e ln) (hk : fu tk p e 19 ≤ k + 1) : RdC (k + 1) 181 [] tk p e ln (NodeQ tk 0 16 8 p e) := by
 intro E H I rb ty hE hr hb
 refine call_in1 rfl rfl (by decide) fun s hs e0 => ?_
 have hkk := fu_k hk
 have m0 := mw_loc0 hE
 have m1 := mw_loc hE
 have g := tok_eq (e := e) (ln := ln) (ty := ty) ha.n ha.p (k := k) (by omega) hE hr hb
 obtain ⟨⟨tkd, ts, tn, tl, tnl⟩, htt⟩ : ∃ t, tkAt tk p = t := ⟨_, rfl⟩
 have htl : ok64 tl := by
  by_cases h : p < tk.length
  ·have := tk_line ha.ok (List.getElem?_eq_getElem h)
   have e1 : tkAt tk p = tk[p] := by simp [tkAt, List.getElem?_eq_getElem h]
   rw [← e1, htt] at this; exact this
  ·rw [tkAt, List.getElem?_eq_none (by omega)] at htt
   simp [Tk.no] at htt
   rw [← htt.2.2.2.1]; simp [ok64]
 rw [htt] at g
 simp only [Tk.enc] at g
 have gt1 := take_eq (e := e) (ln := ln) (ty := ty) ⟨#[33]⟩ ha.n ha.p (k := k) (by omega) hE hr hb
 have gt2 := take_eq (e := e) (ln := ln) (ty := ty) ⟨#[45]⟩ ha.n ha.p (k := k) (by omega) hE hr hb
 have gt3 := take_eq (e := e) (ln := ln) (ty := ty) ⟨#[110, 101, 119]⟩ ha.n ha.p (k := k) (by omega) hE hr hb
 rcases takeF tk p e ⟨#[33]⟩ with ⟨hB, hT, hlt, rfl, hpt⟩ | ⟨hB, hT⟩
 ·rw [hB, hT] at gt1
  simp [hs, e0, g, gt1]
  refine (hP.signed (ha.next hlt) (fu_adv (by omega) hlt (by omega) hk)).call hE hr hb _ rfl NodeQ.ref ?_
  rintro _ p1 e1 ln1 ⟨⟨op, ss, nn, l, line⟩, rfl, ht, g1, hw1, hw2⟩
  simp [hs, e0, m0]
  refine RdP.mk p1 rfl ⟨.mk 19 ⟨#[]⟩ 0 [.mk op ss nn l line] tl, by simp, ⟨by simp [ok64], by simp [ok64], htl, ht, trivial⟩, (Go1.next ha hlt).trans g1, fun h => ?_, ?_⟩
  ·have := hw1 h
   simp only [T.wt, T.wtL, sz0] at *; omega
  ·simp only [T.wt, T.wtL, sz0] at *; omega
 rw [hB, hT] at gt1
 rcases takeF tk p e ⟨#[45]⟩ with ⟨hB, hT, hlt, rfl, hpt⟩ | ⟨hB, hT⟩
 ·rw [hB, hT] at gt2
  simp [hs, e0, g, gt1, gt2]
  refine (hP.signed (ha.next hlt) (fu_adv (by omega) hlt (by omega) hk)).call hE hr hb _ rfl NodeQ.ref ?_
  rintro _ p1 e1 ln1 ⟨⟨op, ss, nn, l, line⟩, rfl, ht, g1, hw1, hw2⟩
  simp [hs, e0, m0]
  refine RdP.mk p1 rfl ⟨.mk 20 ⟨#[]⟩ 0 [.mk op ss nn l line] tl, by simp, ⟨by simp [ok64], by simp [ok64], htl, ht, trivial⟩, (Go1.next ha hlt).trans g1, fun h => ?_, ?_⟩
  ·have := hw1 h
   simp only [T.wt, T.wtL, sz0] at *; omega
  ·simp only [T.wt, T.wtL, sz0] at *; omega
 rw [hB, hT] at gt2
 rcases takeF tk p e ⟨#[110, 101, 119]⟩ with ⟨hB, hT, hlt, rfl, hpt⟩ | ⟨hB, hT⟩
 rotate_left
 ·rw [hB, hT] at gt3
  simp [hs, e0, g, gt1, gt2, gt3]
  refine (hP.thing ha (fu_le (Nat.le_refl _) id (by omega) hk)).call hE hr hb _ rfl NodeQ.ref ?_
  rintro _ p1 e1 ln1 ⟨⟨op, ss, nn, l, line⟩, rfl, ht, g1, hw1, hw2⟩
  simp [hs, e0, m1]
  refine parts_call hP (.mk op ss nn l line) true ht (ha.to g1) (fu_le g1.1 g1.2.2.2.2 (by omega) hk) hw1 hw2 hE hr hb _ (by simp) fun t2 p2 e2 ln2 ht2 g2 hw3 hw4 => ?_
  obtain ⟨op2, ss2, nn2, l2, line2⟩ := t2
  simp [hs, e0, m0]
  exact RdP.mkX p2 rfl ⟨.mk op2 ss2 nn2 l2 line2, by simp, ht2, g1.trans g2, hw3, hw4⟩
 rw [hB, hT] at gt3
 have gn := Go1.next ha hlt
 simp [hs, e0, g, gt1, gt2, gt3]
 refine (hP.thing (ha.next hlt) (fu_adv (by omega) hlt (by omega) hk)).call hE hr hb _ rfl NodeQ.ref ?_
 rintro _ p1 e1 ln1 ⟨⟨op, ss, nn, l, line⟩, rfl, ht, g1, hw1, hw2⟩
 have a1 := (ha.next hlt).to g1
 simp [hs, e0]
 refine parts_call hP (p := p + 1) (.mk op ss nn l line) false ht a1 (fu_adv (by have := g1.1; omega) a1.p (by omega) hk) hw1 hw2 hE hr hb _ (by simp) fun t2 p2 e2 ln2 ht2 g2 hw3 hw4 => ?_
 obtain ⟨op2, ss2, nn2, l2, line2⟩ := t2
 have a2 := a1.to g2
 have gt4 := fun l => take_eq (e := e2) (ln := ln2) (ty := ty) ⟨#[40]⟩ a2.n a2.p (k := k) (by omega) (I := I ++ [(1, 5)]) (hE.of (Nat.le_refl _) (by simp)) hr hb l
 have hE2 : E.Wf ⟨H, I ++ [(1, 5)]⟩ := hE.of (Nat.le_refl _) (by simp)
 rcases takeF tk p2 e2 ⟨#[40]⟩ with ⟨hB4, hT4, hlt4, rfl, hpt4⟩ | ⟨hB4, hT4⟩
 rotate_left
 ·rw [hB4, hT4] at gt4
  simp [hs, e0, m1, gt4]
  refine parts_call hP (p := p) (.mk 16 ⟨#[]⟩ 0 [.mk op2 ss2 nn2 l2 line2] tl) true ⟨by simp [ok64], by simp [ok64], htl, ht2, trivial⟩ a2 (fu_adv (by have := g1.1; have := g2.1; omega) a2.p (by omega) hk) (fun h => ?_) ?_ hE2 hr hb _ (by simp) fun t3 p3 e3 ln3 ht3 g3 hw5 hw6 => ?_
  ·have := hw3 h
   simp only [T.wt, T.wtL, sz0] at *; omega
  ·simp only [T.wt, T.wtL, sz0] at *; omega
  obtain ⟨op3, ss3, nn3, l3, line3⟩ := t3
  simp [hs, e0, m0]
  exact RdP.mk p3 rfl ⟨.mk op3 ss3 nn3 l3 line3, by simp, ht3, gn.trans (g1.trans (g2.trans g3)), hw5, hw6⟩
 rw [hB4, hT4] at gt4
 have hw3 := hw3 rfl
 simp [hs, e0, m1, gt4, Nat.testBit]
 refine (hP.args (a2.next hlt4) (fu_adv (by have := g1.1; have := g2.1; omega) hlt4 (by omega) hk)).call hE2 hr hb _ rfl ListQ.ref ?_
 rintro _ p3 e3 ln3 ⟨l3, rfl, ht3, g3, hw5, hw6⟩
 have hll := T.len_wtL l3
 have hp3 := ha.pt p3
 have happ := app_one hE.rom (a := .int .i64 op2) (b := .str ss2) (c := .int .i64 nn2) (d := .sl none l2.length (T.encL l2)) (e := .int .i64 line2) (l := l3) (by omega)
 have hE3 : E.Wf ⟨H, I ++ [(1 + l3.length, 5)]⟩ := hE.of (Nat.le_refl _) (by simp)
 have a3 := (a2.next hlt4).to g3
 simp [hs, e0, m1, happ, Nat.testBit]
 refine parts_call hP (p := p) (.mk 16 ⟨#[]⟩ 0 (.mk op2 ss2 nn2 l2 line2 :: l3) tl) true ⟨by simp [ok64], by simp [ok64], htl, ht2, ht3⟩ a3 (fu_adv (by have := g1.1; have := g2.1; have := g3.1; omega) a3.p (by omega) hk) (fun h => ?_) ?_ hE3 hr hb _ ?_ fun t3 p4 e4 ln4 ht4 g4 hw7 hw8 => ?_
 ·have := hw5 h
  simp only [T.wt, T.wtL, sz0] at *; omega
 ·simp only [T.wt, T.wtL, sz0] at *; omega
 ·simp [Nat.add_comm]
 obtain ⟨op3, ss3, nn3, l4, line3⟩ := t3
 simp [hs, e0, m0]
 exact RdP.mk p4 rfl ⟨.mk op3 ss3 nn3 l4 line3, by simp, ht4, gn.trans (g1.trans (g2.trans ((Go1.next a2 hlt4).trans (g3.trans g4)))), hw7, hw8⟩
def J186 (H : List ABlk) (I : List (Nat × Nat)) (rb ty : Nat) (tk : List Tk) (p : Nat) (e ln : Int) (n : Nat) (s : List AV) (m : List Nat) (st : St) : Prop :=
 ∃ (p1 : Nat) (e1 ln1 : Int) (l : List T) (I' : List (Nat × Nat)) (more : Bool), n = mu tk p1 e1 + (if more then 1 else 0) ∧ s.length = 28 ∧ m = [] ∧ lk s 0 = .ptr rb 0 ∧ lk s 5 = .bool more ∧
  st = ⟨H.set rb (.cells ty (RQ tk p1 e1 ln1)), I'⟩ ∧ I <+: I' ∧ AccG I.length I' 5 l.length (T.encL l) (lk s 3) ∧ T.okL1 l ∧ Go1 tk p e p1 e1 ln1 ∧ (e1 = 0 → T.wtL l + pt tk p ≤ pt tk p1) ∧ T.wtL l + pt tk p ≤ pt tk p1 + 8
theorem AccG.fin {m : Nat} {I : List (Nat × Nat)} {l : List T} {v : AV} (h : AccG m I 5 l.length (T.encL l) v) : v.fin m = .sl none l.length (T.encL l) := by
 rcases h with ⟨h1, h2, rfl⟩ | ⟨i, rfl, hi, _⟩
 ·have : l = [] := List.eq_nil_of_length_eq_zero h1
  subst this; rfl
 ·have : ¬ i < m := by omega
  simp [this]
theorem RdP.mkJ {H I I' rb ty tk Q v} (p' : Nat) {x e' ln' : Int} (hI : I <+: I') (hx : x = p') (q : Q (v.fin I.length) p' e' ln') : RdP H I rb ty tk Q (.ok v) ⟨H.set rb (.cells ty (RQ tk x e' ln')), I'⟩ := by
 have := RdP.mkI (X := []) (H := H) (rb := rb) (ty := ty) (tk := tk) p' hI hx q
 rwa [List.append_nil] at this
theorem p_args {tk : List Tk} {k : Nat} (hP : Par tk k) {p : Nat} {e ln : Int} (ha : At tk p e ln) (hk : fu tk p e 30 ≤ k + 1) : RdC (k + 1) 186 [] tk p e ln (ListQ tk 8 p e) := by
  intro E H I rb ty hE hr hb
  refine call_in1 rfl rfl (by decide) fun s hs e0 => ?_
  have hkk := fu_k hk
  have gi := is_eq0 (e := e) (ln := ln) (ty := ty) ⟨#[41]⟩ ha.n ha.p (k := k) (by omega) hE hr hb
  have hmu : mu tk p e ≤ 2 * tk.length + 1 := by unfold mu; split <;> omega
  simp [hs, e0, gi]
  refine WP_loop (J186 H I rb ty tk p e ln) (mu tk p e + if !isB tk p e ⟨#[41]⟩ then 1 else 0) (by unfold fu at hk; split <;> omega) ⟨p, e, ln, [], I, !isB tk p e ⟨#[41]⟩, rfl, by simp [hs], rfl, by simp [hs, e0], by simp [hs], rfl, List.prefix_rfl, .inl ⟨rfl, rfl, by simp [hs]⟩, trivial, .refl ha, by simp [T.wtL], by simp [T.wtL]⟩ ?_
  clear hs e0 s
  rintro _ s m _ ⟨p1, e1, ln1, l, I', more, rfl, hs, rfl, e0, e5, rfl, hI, hacc, hl, g1, hw1, hw2⟩
  obtain ⟨v, e3⟩ : ∃ v, lk s 3 = v := ⟨_, rfl⟩
  rw [e3] at hacc
  have hE' : E.Wf ⟨H, I'⟩ := hE.of (Nat.le_refl _) hI.length_le
  have a1 := ha.to g1
  have mm := pt_mono (tk := tk) g1.1
  by_cases hc : e1 = 0 ∧ more = true
  rotate_left
  · have hout : (e1 = 0 ∧ more = false) ∨ e1 ≠ 0 := by
      by_cases h : e1 = 0
      · refine .inl ⟨h, ?_⟩
        cases more
        · rfl
        · exact absurd ⟨h, rfl⟩ hc
      · exact .inr h
    have fin : ∀ p2 e2 ln2, Go1 tk p1 e1 p2 e2 ln2 → (e2 = 0 → e1 = 0) → pt tk p1 ≤ pt tk p2 → RdP H I rb ty tk (ListQ tk 8 p e) (.ok v) ⟨H.set rb (.cells ty (RQ tk p2 e2 ln2)), I'⟩ := fun p2 e2 ln2 g2 h0 hpp =>
      RdP.mkJ p2 hI rfl ⟨l, hacc.fin, hl, g1.trans g2, fun h => by have := hw1 (h0 h); omega, by omega⟩
    rcases hout with ⟨rfl, rfl⟩ | hz
    · simp [hs, e0, e3, e5, rg0 hb]
      refine must_call0 a1 _ (by omega) hE' hr hb fun p2 e2 ln2 g2 a2 q1 q2 q3 => ?_
      simp [hs, e3]
      exact fin p2 e2 ln2 g2 (fun _ => rfl) q3
    · simp [hs, e0, e3, e5, rg0 hb, hz]
      refine must_call0 a1 _ (by omega) hE' hr hb fun p2 e2 ln2 g2 a2 q1 q2 q3 => ?_
      simp [hs, e3]
      exact fin p2 e2 ln2 g2 (fun h => (q1 h).1) q3
  obtain ⟨rfl, rfl⟩ := hc
  have hw1 := hw1 rfl
  simp [hs, e0, e3, e5, rg0 hb]
  refine (hP.expr a1 (fu_le g1.1 g1.2.2.2.2 (by omega) hk)).call0 hE' hr hb rfl NodeQ.ref ?_
  rintro _ p2 e2 ln2 ⟨⟨op, ss, nn, l2, line⟩, rfl, ht, g2, hw3, hw4⟩
  have a2 := a1.to g2
  have mm2 := pt_mono (tk := tk) g2.1
  have hll := T.len_wtL l
  have hp1 := ha.pt p1
  obtain ⟨v', I2, ha1, ha2, ha3⟩ := (hacc.push [(1, 5)]).app (E := E) (bytes := 64) (k := 1) (y := .sl (some I'.length) 1 (T.mk op ss nn l2 line).enc) (ys := (T.mk op ss nn l2 line).enc) hE.rom rfl (hI.trans (List.prefix_append _ _)) (by omega) (by omega) (by simp [srcA]) rfl
    (H.set rb (.cells ty (RQ tk p2 e2 ln2)))
  simp only [T.enc] at ha1
  have hE2 : E.Wf ⟨H, I2⟩ := hE.of (Nat.le_refl _) ha3.length_le
  have gt := take_eq0 (e := e2) (ln := ln2) (ty := ty) ⟨#[44]⟩ a2.n a2.p (k := k) (by omega) hE2 hr hb
  have gT := takeN_go a2 ⟨#[44]⟩
  have hpt : pt tk p2 ≤ pt tk (takeN tk p2 e2 ⟨#[44]⟩) := pt_mono gT.1
  simp [hs, e0, e3, ha1, gt]
  refine ⟨_, ?_, takeN tk p2 e2 ⟨#[44]⟩, e2, ln2, l ++ [.mk op ss nn l2 line], I2, isB tk p2 e2 ⟨#[44]⟩, rfl, by simp [hs], rfl, by simp [hs, e0], by simp [hs], rfl, ha3, by simpa [hs, T.encL_append] using ha2, T.okL1_app hl ⟨ht, trivial⟩, g1.trans (g2.trans gT), fun h => ?_, ?_⟩
  · have hmu2 : mu tk (takeN tk p2 e2 ⟨#[44]⟩) e2 + 1 ≤ mu tk p1 0 := by
      by_cases h : e2 = 0
      · have := hw3 h
        have hlt := pt_lt (tk := tk) (p := p1) (q := p2) (by simp only [T.wt] at this; omega)
        exact mu_adv (by have := gT.1; omega) gT.2.1
      · exact mu_err (by have := g2.1; have := gT.1; omega) h
    simp only [if_true]
    split <;> omega
  · have := hw3 h
    rw [T.wtL_app]; simp only [T.wtL]; omega
  · rw [T.wtL_app]; simp only [T.wtL]; omega
def J184 (H : List ABlk) (I : List (Nat × Nat)) (rb ty : Nat) (tk : List Tk) (p : Nat) (e ln : Int) (x0 : Nat) (b : Bool) (n : Nat) (s : List AV) (m : List Nat) (st : St) : Prop :=
 ∃ (p1 : Nat) (e1 ln1 : Int) (t : T) (o : Option Nat) (X : List ABlk) (I' : List (Nat × Nat)), n = tk.length - p1 ∧ s.length = 80 ∧ m = [] ∧ lk s 0 = .ptr rb 0 ∧ lk s 2 = .bool b ∧ lk s 4 = .ptr H.length 0 ∧ lk s 6 = .ptr (H.length + 1) 0 ∧
  st = ⟨H.set rb (.cells ty (RQ tk p1 e1 ln1)) ++ .cells 24 (nodeC t o) :: z5 :: X, I'⟩ ∧ I <+: I' ∧ newO I.length o ∧ t.ok1 ∧ Go1 tk p e p1 e1 ln1 ∧ (e1 = 0 → t.wt + pt tk p ≤ pt tk p1 + x0) ∧ t.wt + pt tk p ≤ pt tk p1 + x0 + 8
theorem tkAt_line {tk : List Tk} (h : ∀ t ∈ tk, t.ok) (p : Nat) : ok64 (tkAt tk p).line := by
 unfold tkAt
 cases hx : tk[p]? with
 | none => simp [Tk.no, ok64]
 | some t => exact tk_line h hx
theorem tkAt_n {tk : List Tk} (h : ∀ t ∈ tk, t.ok) (p : Nat) : ok64 (tkAt tk p).n := by
 unfold tkAt
 cases hx : tk[p]? with
 | none => simp [Tk.no, ok64]
 | some t => exact (h t (List.mem_of_getElem? hx)).2.1
theorem p_partsE {tk : List Tk} {k : Nat} {p : Nat} {e ln : Int} (t : T) (b : Bool) (he : e ≠ 0) (ha : At tk p e ln) (hk : 5 ≤ k + 1) : RdC (k + 1) 184 [.agg t.enc, .bool b] tk p e ln (isQ (.agg t.enc) p e ln) := by
 intro E H I rb ty hE hr hb
 obtain ⟨op, ss, nn, l, line⟩ := t
 refine call_in3 rfl rfl (by decide) fun s hs e0 e1 e2 => ?_
 have m1 := mw_loc hE
 simp [hs, e0, e1, e2]
 refine WP_loop (fun n s m st => s.length = 80 ∧ m = [] ∧ lk s 0 = .ptr rb 0 ∧ lk s 4 = .ptr H.length 0 ∧ lk s 6 = .ptr (H.length + 1) 0 ∧ st = ⟨H.set rb (.cells ty (RQ tk p e ln)) ++ [.cells 24 (nodeC (.mk op ss nn l line) none), z5], I⟩) 0 (by omega) ⟨by simp [hs], rfl, by simp [hs, e0], by simp [hs], by simp [hs], by simp [z5]⟩ ?_
 rintro _ s m _ ⟨hs, rfl, e0, e4, e6, rfl⟩
 simp [hs, e0, e4, e6, z5, rg hb, he, m1]
 exact RdP.mkX p rfl ⟨by simp, rfl, rfl, rfl⟩
theorem p_parts {tk : List Tk} {k : Nat} (hP : Par tk k) {p : Nat} {e ln : Int} (t : T) (b : Bool) (htt : t.ok1) (ha : At tk p e ln) (hk : fu tk p e 17 ≤ k + 1) : RdC (k + 1) 184 [.agg t.enc, .bool b] tk p e ln (NodeQ tk t.wt 0 8 p e) := by
  intro E H I rb ty hE hr hb
  obtain ⟨x0, hx0⟩ : ∃ x0, t.wt = x0 := ⟨_, rfl⟩
  rw [hx0]
  obtain ⟨op, ss, nn, l, line⟩ := t
  refine call_in3 rfl rfl (by decide) fun s hs e0 e1 e2 => ?_
  have hkk := fu_k hk
  have hn := ha.n
  have m1 := mw_loc hE
  have m0 := mw_loc0 hE
  simp [hs, e0, e1, e2]
  refine WP_loop (J184 H I rb ty tk p e ln x0 b) (tk.length - p) (by omega) ⟨p, e, ln, .mk op ss nn l line, none, [], I, rfl, by simp [hs], rfl, by simp [hs, e0], by simp [hs, e2], by simp [hs], by simp [hs], by simp [z5], List.prefix_rfl, (fun _ h => nomatch h), htt, .refl ha, fun _ => by omega, by omega⟩ ?_
  clear hs e0 e1 e2 s htt hx0
  rintro _ s m _ ⟨p1, e1, ln1, ⟨op, ss, nn, l, line⟩, o, X, I', rfl, hs, rfl, e0, e2, e4, e6, rfl, hI, ho, ht, g1, hw1, hw2⟩
  have f0 := newO.fin0 o
  have fI := ho.fin
  have hE' : E.Wf ⟨H, I'⟩ := hE.of (Nat.le_refl _) hI.length_le
  have hE1 : E.Wf ⟨H, I' ++ [(1, 5)]⟩ := hE'.of (Nat.le_refl _) (by simp)
  have a1 := ha.to g1
  have mm := pt_mono (tk := tk) g1.1
  by_cases hz : e1 = 0
  rotate_left
  · simp [hs, e0, e4, e6, z5, rg hb, hz, m1]
    exact RdP.mkI p1 hI rfl ⟨.mk op ss nn l line, by simp [fI], ht, g1, hw1, hw2⟩
  subst hz
  have hw1 := hw1 rfl
  have gt1 := take_eq (e := 0) (ln := ln1) (ty := ty) ⟨#[46]⟩ a1.n a1.p (k := k) (by omega) hE' hr hb
  have gt2 := take_eq (e := 0) (ln := ln1) (ty := ty) ⟨#[91]⟩ a1.n a1.p (k := k) (by omega) hE' hr hb
  have gt3 := take_eq (e := 0) (ln := ln1) (ty := ty) ⟨#[40]⟩ a1.n a1.p (k := k) (by omega) hE' hr hb
  rcases takeF tk p1 0 ⟨#[46]⟩ with ⟨hB, hT, hlt, -, hpt⟩ | ⟨hB, hT⟩
  · rw [hB, hT] at gt1
    have an := a1.next hlt
    have gn := Go1.next a1 hlt
    have g := tok_eq (e := 0) (ln := ln1) (ty := ty) an.n an.p (k := k) (by omega) hE' hr hb
    have hkl := kind_lt (tk := tk) (p := p1 + 1)
    have hpn : p1 + 1 < tk.length → pt tk (p1 + 1 + 1) = pt tk (p1 + 1) + 32 + (tkAt tk (p1 + 1)).s.size := fun h => pt_next h
    obtain ⟨⟨tkd, ts, tn, tl, tnl⟩, htt⟩ : ∃ t, tkAt tk (p1 + 1) = t := ⟨_, rfl⟩
    rw [htt] at g hkl hpn
    simp only [Tk.enc, show ((p1 + 1 : Nat) : Int) = (p1 : Int) + 1 from by omega] at g
    by_cases hkd : tkd = 1 ∨ tkd = 2
    · have hlt2 := hkl (by simp only; omega)
      have hpn := hpn hlt2
      have hw := wrap64 (n := (p1 : Int) + 1 + 1) (by omega)
      have fin : ∀ s' : List AV, s'.length = 80 → lk s' 0 = .ptr rb 0 → lk s' 2 = .bool b → lk s' 4 = .ptr H.length 0 → lk s' 6 = .ptr (H.length + 1) 0 → ∀ (x : Int) (Y : List ABlk), x = ((p1 + 1 + 1 : Nat) : Int) →
          ∃ n', n' < tk.length - p1 ∧ J184 H I rb ty tk p e ln x0 b n' s' [] ⟨H.set rb (.cells ty (RQ tk x 0 ln1)) ++ .cells 24 [.int .i64 13, .str ts, .int .i64 0, .sl (some I'.length) 1 [.int .i64 op, .str ss, .int .i64 nn, .sl none l.length (T.encL l), .int .i64 line], .int .i64 line] :: .cells 24 [.int .i64 0, .str ⟨#[]⟩, .int .i64 0, .nils, .int .i64 0] :: Y, I' ++ [(1, 5)]⟩ := fun s' q1 q2 q3 q4 q5 x Y hx => by
        subst hx
        refine ⟨tk.length - (p1 + 1 + 1), by omega, p1 + 1 + 1, 0, ln1, .mk 13 ts 0 [.mk op ss nn l line] line, some I'.length, Y, I' ++ [(1, 5)], rfl, q1, rfl, q2, q3, q4, q5, by simp [z5], hI.trans (List.prefix_append _ _), (fun j hj => by cases hj; exact hI.length_le), ⟨by simp [ok64], by simp [ok64], ht.2.2.1, ht, trivial⟩, g1.trans (gn.trans (.next an hlt2)), fun _ => ?_, ?_⟩
        · simp only [T.wt, T.wtL, sz0] at *; omega
        · simp only [T.wt, T.wtL, sz0] at *; omega
      rcases hkd with rfl | rfl <;>
      · simp [hs, e0, e4, gt1, g, m1, m0, rg hb, rs hb, mw_int hr, f0, z5, hw]
        exact fin _ (by simp [hs]) (by simp [hs, e0]) (by simp [hs, e2]) (by simp [hs, e4]) (by simp [hs, e6]) _ _ (by omega)
    · have k1 : ¬ tkd = 1 := by omega
      have k2 : ¬ tkd = 2 := by omega
      simp [hs, e0, e4, e6, gt1, g, m1, m0, rg hb, k1, k2, z5]
      refine (f74 0 ln1 false an.n an.ok an.p an.e an.ln k (by omega)).call hE' hr hb _ rfl stopQ.ref ?_
      rintro _ p2 e2' ln2 ⟨rfl, hp2, q1, q2, q3⟩
      simp [hs, e6, nd0, m1]
      refine RdP.mkI p2 hI rfl ⟨.mk 0 ⟨#[]⟩ 0 [] 0, by simp, ⟨by simp [ok64], by simp [ok64], by simp [ok64], trivial⟩, ⟨by have := g1.1; omega, by have := an.p; omega, q2, q3, fun _ => q1⟩, fun h => absurd h q1, ?_⟩
      subst hp2
      simp only [T.wt, T.wtL, sz0] at *; omega
  rw [hB, hT] at gt1
  rcases takeF tk p1 0 ⟨#[91]⟩ with ⟨hB, hT, hlt, -, hpt⟩ | ⟨hB, hT⟩
  · rw [hB, hT] at gt2
    have an := a1.next hlt
    have gn := Go1.next a1 hlt
    simp [hs, e0, rg hb, gt1, gt2]
    refine (hP.expr an (fu_adv (by have := g1.1; omega) hlt (by omega) hk)).call hE' hr hb _ rfl NodeQ.ref ?_
    rintro _ p2 e2' ln2 ⟨⟨op2, ss2, nn2, l2, line2⟩, rfl, ht2, g2, hw3, hw4⟩
    have a2 := an.to g2
    simp [hs, e0, m1]
    refine must_call a2 _ (by omega) hE' hr hb _ fun p3 e3 ln3 g3 a3 q4 q5 q6 => ?_
    have fin : ∀ s' : List AV, s'.length = 80 → lk s' 0 = .ptr rb 0 → lk s' 2 = .bool b → lk s' 4 = .ptr H.length 0 → lk s' 6 = .ptr (H.length + 1) 0 → ∀ (Y : List ABlk),
          ∃ n', n' < tk.length - p1 ∧ J184 H I rb ty tk p e ln x0 b n' s' [] ⟨H.set rb (.cells ty (RQ tk p3 e3 ln3)) ++ .cells 24 [.int .i64 14, .str ⟨#[]⟩, .int .i64 0, .sl (some I'.length) 2 [.int .i64 op, .str ss, .int .i64 nn, .sl none l.length (T.encL l), .int .i64 line, .int .i64 op2, .str ss2, .int .i64 nn2, .sl none l2.length (T.encL l2), .int .i64 line2], .int .i64 line] :: .cells 24 [.int .i64 0, .str ⟨#[]⟩, .int .i64 0, .nils, .int .i64 0] :: Y, I' ++ [(2, 5)]⟩ := fun s' q1 q2' q3' q4' q5' Y => by
      refine ⟨tk.length - p3, by have := g2.1; have := g3.1; omega, p3, e3, ln3, .mk 14 ⟨#[]⟩ 0 [.mk op ss nn l line, .mk op2 ss2 nn2 l2 line2] line, some I'.length, Y, I' ++ [(2, 5)], rfl, q1, rfl, q2', q3', q4', q5', by simp [z5], hI.trans (List.prefix_append _ _), (fun j hj => by cases hj; exact hI.length_le), ⟨by simp [ok64], by simp [ok64], ht.2.2.1, ht, ht2, trivial⟩, g1.trans (gn.trans (g2.trans g3)), fun h => ?_, ?_⟩
      · have := hw3 (q4 h).1
        simp only [T.wt, T.wtL, sz0] at *; omega
      · simp only [T.wt, T.wtL, sz0] at *; omega
    simp [hs, e0, e4, m1, m0, f0, z5]
    exact fin _ (by simp [hs]) (by simp [hs, e0]) (by simp [hs, e2]) (by simp [hs, e4]) (by simp [hs, e6]) _
  rw [hB, hT] at gt2
  have fin0 : ∀ Y, RdP H I rb ty tk (NodeQ tk x0 0 8 p e) (.ok (.agg [.int .i64 op, .str ss, .int .i64 nn, .sl o l.length (T.encL l), .int .i64 line])) ⟨H.set rb (.cells ty (RQ tk p1 0 ln1)) ++ Y, I'⟩ := fun Y =>
    RdP.mkI p1 hI rfl ⟨.mk op ss nn l line, by simp [fI], ht, g1, fun _ => by omega, hw2⟩
  cases b
  · simp [hs, e0, e2, e4, e6, rg hb, gt1, gt2, z5, m1, blkQ_exit, fin0]
  rcases takeF tk p1 0 ⟨#[40]⟩ with ⟨hB, hT, hlt, -, hpt⟩ | ⟨hB, hT⟩
  rotate_left
  · rw [hB, hT] at gt3
    simp [hs, e0, e2, e4, e6, rg hb, gt1, gt2, gt3, z5, m1, blkQ_exit, fin0]
  rw [hB, hT] at gt3
  have an := a1.next hlt
  have gn := Go1.next a1 hlt
  simp [hs, e0, e2, e4, rg hb, gt1, gt2, gt3, z5, m1, f0, Nat.testBit]
  refine (hP.args an (fu_adv (by have := g1.1; omega) hlt (by omega) hk)).call hE1 hr hb _ rfl ListQ.ref ?_
  rintro _ p2 e2' ln2 ⟨l2, rfl, ht2, g2, hw3, hw4⟩
  have hll := T.len_wtL l2
  have hp2 := ha.pt p2
  have happ := app_one hE'.rom (a := .int .i64 op) (b := .str ss) (c := .int .i64 nn) (d := .sl none l.length (T.encL l)) (e := .int .i64 line) (l := l2) (by omega)
  have fin : ∀ s' : List AV, s'.length = 80 → lk s' 0 = .ptr rb 0 → lk s' 2 = .bool true → lk s' 4 = .ptr H.length 0 → lk s' 6 = .ptr (H.length + 1) 0 → ∀ (Y : List ABlk),
        ∃ n', n' < tk.length - p1 ∧ J184 H I rb ty tk p e ln x0 true n' s' [] ⟨H.set rb (.cells ty (RQ tk p2 e2' ln2)) ++ .cells 24 [.int .i64 15, .str ⟨#[]⟩, .int .i64 0, .sl (some I'.length) (1 + l2.length) (.int .i64 op :: .str ss :: .int .i64 nn :: .sl none l.length (T.encL l) :: .int .i64 line :: T.encL l2), .int .i64 line] :: .cells 24 [.int .i64 0, .str ⟨#[]⟩, .int .i64 0, .nils, .int .i64 0] :: Y, I' ++ [(1 + l2.length, 5)]⟩ := fun s' q1 q2' q3' q4' q5' Y => by
    refine ⟨tk.length - p2, by have := g2.1; omega, p2, e2', ln2, .mk 15 ⟨#[]⟩ 0 (.mk op ss nn l line :: l2) line, some I'.length, Y, I' ++ [(1 + l2.length, 5)], rfl, q1, rfl, q2', q3', q4', q5', by simp [z5, Nat.add_comm], hI.trans (List.prefix_append _ _), (fun j hj => by cases hj; exact hI.length_le), ⟨by simp [ok64], by simp [ok64], ht.2.2.1, ht, ht2⟩, g1.trans (gn.trans g2), fun h => ?_, ?_⟩
    · have := hw3 h
      simp only [T.wt, T.wtL, sz0] at *; omega
    · simp only [T.wt, T.wtL, sz0] at *; omega
  simp [hs, e0, e4, z5, m1, m0, f0, happ, Nat.testBit]
  exact fin _ (by simp [hs]) (by simp [hs, e0]) (by simp [hs, e2]) (by simp [hs, e4]) (by simp [hs, e6]) _
def isPl (w : AV) : Prop := ∃ n : Int, w = .int .i64 n ∧ ok64 n
theorem f187 (s0 : ByteArray) (k : Nat) (hk : 1 ≤ k) : PureE k 187 [.str s0] isPl := by
 intro E st hE
 obtain ⟨k, rfl⟩ := uK (k := k) (by omega)
 refine call_in1 rfl rfl (by decide) fun s hs e0 => ?_
 have h4 : isPl (.int .i64 4) := ⟨4, rfl, by simp [ok64]⟩
 have h5 : isPl (.int .i64 5) := ⟨5, rfl, by simp [ok64]⟩
 have h6 : isPl (.int .i64 6) := ⟨6, rfl, by simp [ok64]⟩
 have h7 : isPl (.int .i64 7) := ⟨7, rfl, by simp [ok64]⟩
 have h8 : isPl (.int .i64 8) := ⟨8, rfl, by simp [ok64]⟩
 have h9 : isPl (.int .i64 9) := ⟨9, rfl, by simp [ok64]⟩
 have h0 : isPl (.int .i64 0) := ⟨0, rfl, by simp [ok64]⟩
 simp [hs, e0]
 repeat' (with_reducible refine wIf_dec (fun h => ?_) (fun h => ?_) <;> simp [*, Grow.refl, lk_set])
theorem p_thing {tk : List Tk} {k : Nat} (hP : Par tk k) {p : Nat} {e ln : Int} (ha : At tk p e ln) (hk : fu tk p e 18 ≤ k + 1) : RdC (k + 1) 185 [] tk p e ln (NodeQ tk 0 16 8 p e) := by
 intro E H I rb ty hE hr hb
 refine call_in1 rfl rfl (by decide) fun s hs e0 => ?_
 have hkk := fu_k hk
 have hn := ha.n
 have m0 := mw_loc0 hE
 have m1 := mw_loc hE
 have g := tok_eq (e := e) (ln := ln) (ty := ty) ha.n ha.p (k := k) (by omega) hE hr hb
 have hkl := kind_lt (tk := tk) (p := p)
 have htl := tkAt_line ha.ok p
 have htn := tkAt_n ha.ok p
 have hpn : p < tk.length → pt tk (p + 1) = pt tk p + 32 + (tkAt tk p).s.size := fun h => pt_next h
 obtain ⟨⟨tkd, ts, tn, tl, tnl⟩, htt⟩ : ∃ t, tkAt tk p = t := ⟨_, rfl⟩
 rw [htt] at g hkl htl htn hpn
 simp only [Tk.enc] at g
 simp only at htl htn hkl hpn
 by_cases hz : e = 0
 rotate_left
 ·simp [hs, e0, g, m0, m1, rg hb, hz]
  exact RdP.mkX p rfl ⟨.mk 0 ⟨#[]⟩ 0 [] 0, by simp, ⟨by simp [ok64], by simp [ok64], by simp [ok64], trivial⟩, .refl ha, fun h => absurd h hz, by simp only [T.wt, T.wtL, sz0]; omega⟩
 subst hz
 have hw : p < tk.length → IntKind.i64.wrap ((p : Int) + 1) = (p : Int) + 1 := fun h => wrap64 (by omega)
 have fin : ∀ (op x : Int) (ss : ByteArray) (Y : List ABlk), p < tk.length → ok64 op → ok64 x → ss.size ≤ ts.size → RdP H I rb ty tk (NodeQ tk 0 16 8 p 0) (.ok (.agg [.int .i64 op, .str ss, .int .i64 x, .nils, .int .i64 tl])) ⟨H.set rb (.cells ty (RQ tk ((p : Int) + 1) 0 ln)) ++ Y, I⟩ := fun op x ss Y hlt ho hx hss => by
  have := hpn hlt
  refine RdP.mkX (p + 1) (by simp) ⟨.mk op ss x [] tl, by simp, ⟨ho, hx, htl, trivial⟩, .next ha hlt, fun _ => ?_, ?_⟩
  ·simp only [T.wt, T.wtL]; omega
  ·simp only [T.wt, T.wtL]; omega
 have err : ∀ (e' ln' : Int) (Y : List ABlk), e' ≠ 0 → ok64 e' → ok64 ln' → RdP H I rb ty tk (NodeQ tk 0 16 8 p 0) (.ok (.agg [.int .i64 0, .str ⟨#[]⟩, .int .i64 0, .nils, .int .i64 tl])) ⟨H.set rb (.cells ty (RQ tk p e' ln')) ++ Y, I⟩ := fun e' ln' Y h1 h2 h3 =>
  RdP.mkX p rfl ⟨.mk 0 ⟨#[]⟩ 0 [] tl, by simp, ⟨by simp [ok64], by simp [ok64], htl, trivial⟩, ⟨Nat.le_refl _, ha.p, h2, h3, fun _ => h1⟩, fun h => absurd h h1, by simp only [T.wt, T.wtL, sz0]; omega⟩
 have errS : ∀ (e' ln' : Int) (Y : List ABlk), e' ≠ 0 → ok64 e' → ok64 ln' → RdP H I rb ty tk (NodeQ tk 0 16 8 p 0) (.ok (.agg [.int .i64 0, .str ⟨#[]⟩, .int .i64 0, .sl none 0 [], .int .i64 0])) ⟨H.set rb (.cells ty (RQ tk p e' ln')) ++ Y, I⟩ := fun e' ln' Y h1 h2 h3 =>
  RdP.mkX p rfl ⟨.mk 0 ⟨#[]⟩ 0 [] 0, by simp, ⟨by simp [ok64], by simp [ok64], by simp [ok64], trivial⟩, ⟨Nat.le_refl _, ha.p, h2, h3, fun _ => h1⟩, fun h => absurd h h1, by simp only [T.wt, T.wtL, sz0]; omega⟩
 have stp : ∀ (Y : List ABlk) {P : Rt AV × St → Prop}, (∀ e' ln', e' ≠ 0 → ok64 e' → ok64 ln' → P (.ok (.agg nd0), ⟨H.set rb (.cells ty (RQ tk p e' ln')) ++ Y, I⟩)) → obP (doCall (aCall prog k) E .full (.fn 74) [.ptr rb 0, .bool true] ⟨H.set rb (.cells ty (RQ tk p 0 ln)) ++ Y, I⟩) P := fun Y P hP2 =>
  (f74 0 ln true ha.n ha.ok ha.p ha.e ha.ln k (by omega)).call hE hr hb Y rfl stopQ.ref (by rintro _ _ e' ln' ⟨rfl, rfl, q1, q2, q3⟩; exact hP2 e' ln' q1 q2 q3)
 by_cases k1 : tkd = 1
 ·subst k1
  have hlt := hkl (by omega)
  by_cases he : ts = ⟨#[101, 118, 97, 108]⟩ ∨ ts = ⟨#[97, 114, 103, 117, 109, 101, 110, 116, 115]⟩
  ·rcases he with rfl | rfl <;>
   ·simp [hs, e0, g, m0, m1, rg hb]
    refine (f107 0 ln 43 ha.n ha.ok ha.p ha.ln k (by omega)).call hE hr hb _ rfl (failQ.ref rfl) ?_
    rintro _ _ e' ln' ⟨rfl, rfl, q1, q2⟩
    simp only [if_true] at q1
    simp [hs, m0, m1]
    exact err e' ln' _ (by omega) (by rw [q1]; simp [ok64]) q2
  ·have h1 : ¬ ts = ⟨#[101, 118, 97, 108]⟩ := fun h => he (.inl h)
   have h2 : ¬ ts = ⟨#[97, 114, 103, 117, 109, 101, 110, 116, 115]⟩ := fun h => he (.inr h)
   simp [hs, e0, g, m0, m1, rg hb, rs hb, mw_int hr, h1, h2, hw hlt]
   exact fin 1 0 ts _ hlt (by simp [ok64]) (by simp [ok64]) (Nat.le_refl _)
 by_cases k3 : tkd = 3
 ·subst k3
  have hlt := hkl (by omega)
  simp [hs, e0, g, m0, m1, rg hb, rs hb, mw_int hr, hw hlt]
  exact fin 2 tn ⟨#[]⟩ _ hlt (by simp [ok64]) htn (by simp [sz0])
 by_cases k4 : tkd = 4
 ·subst k4
  have hlt := hkl (by omega)
  simp [hs, e0, g, m0, m1, rg hb, rs hb, mw_int hr, hw hlt]
  exact fin 3 0 ts _ hlt (by simp [ok64]) (by simp [ok64]) (Nat.le_refl _)
 by_cases k2 : tkd = 2
 ·subst k2
  have hlt := hkl (by omega)
  by_cases hf : ts = ⟨#[102, 117, 110, 99, 116, 105, 111, 110]⟩
  ·subst hf
   have hpn := hpn hlt
   have an := ha.next hlt
   have gn := Go1.next ha hlt
   have g2 := tok_eq (e := 0) (ln := ln) (ty := ty) an.n an.p (k := k) (by omega) hE hr hb
   simp only [Tk.enc, show ((p + 1 : Nat) : Int) = (p : Int) + 1 from by omega] at g2
   by_cases hk1 : (tkAt tk (p + 1)).kind = 1
   ·simp [hs, e0, g, m0, m1, rg hb, rs hb, mw_int hr, hw hlt, g2, hk1]
    have nm := (f164 0 ln an.n an.ok an.p an.e an.ln k (by omega)).call (rb := rb) (ty := ty) (E := E) (H := H) (I := I) (args' := []) hE hr hb
    simp only [show ((p + 1 : Nat) : Int) = (p : Int) + 1 from by omega] at nm
    refine nm _ rfl nameQ.ref ?_
    rintro w p1 e1 ln1 ⟨he1, hl1, hcase⟩
    obtain ⟨S, hS, g1, hS1, hS2⟩ : ∃ S : ByteArray, w = AV.str S ∧ Go1 tk (p + 1) 0 p1 e1 ln1 ∧ (S.size + pt tk (p + 1) ≤ pt tk p1) ∧ True := by
     rcases hcase with ⟨h1, _, h2, rfl, rfl⟩ | ⟨h1, rfl, rfl⟩
     ·exact ⟨(tkAt tk (p + 1)).s, rfl, ⟨by omega, h2, he1, hl1, fun h => absurd rfl h⟩, by rw [pt_next h2]; omega, trivial⟩
     ·exact ⟨⟨#[]⟩, rfl, ⟨by omega, an.p, he1, hl1, fun _ => h1⟩, by rw [sz0]; omega, trivial⟩
    subst hS
    have a1 := an.to g1
    simp [hs, e0, m1]
    refine (hP.rest a1 (fu_adv (by have := g1.1; omega) a1.p (by omega) hk)).call hE hr hb _ rfl ListQ.ref ?_
    rintro _ p2 e2 ln2 ⟨l, rfl, hl, g3, hw1, hw2⟩
    simp [hs, e0, m1, m0]
    refine RdP.mkX p2 rfl ⟨.mk 10 S 0 l tl, by simp, ⟨by simp [ok64], by simp [ok64], htl, hl⟩, gn.trans (g1.trans g3), fun h => ?_, ?_⟩
    ·have := hw1 h
     simp only [T.wt]; omega
    ·simp only [T.wt]; omega
   ·simp [hs, e0, g, m0, m1, rg hb, rs hb, mw_int hr, hw hlt, g2, hk1]
    have nm := (hP.rest an (fu_adv (by omega) an.p (by omega) hk)).call (rb := rb) (ty := ty) (E := E) (H := H) (I := I) (args' := []) hE hr hb
    simp only [show ((p + 1 : Nat) : Int) = (p : Int) + 1 from by omega] at nm
    refine nm _ rfl ListQ.ref ?_
    rintro _ p2 e2 ln2 ⟨l, rfl, hl, g3, hw1, hw2⟩
    simp [hs, e0, m1, m0]
    refine RdP.mkX p2 rfl ⟨.mk 10 ⟨#[]⟩ 0 l tl, by simp, ⟨by simp [ok64], by simp [ok64], htl, hl⟩, gn.trans g3, fun h => ?_, ?_⟩
    ·have := hw1 h
     simp only [T.wt, sz0]; omega
    ·simp only [T.wt, sz0]; omega
  ·have hE3 : ∀ Y, E.Wf ⟨H.set rb (.cells ty (RQ tk p 0 ln)) ++ Y, I⟩ := fun Y => hE.of (by simp) (Nat.le_refl _)
   simp [hs, e0, g, m0, m1, rg hb, hf]
   refine (f187 ts k (by omega)).call (by rintro _ ⟨n, rfl, _⟩; rfl) (hE3 _) rfl ?_
   rintro _ ⟨n, rfl, hn0⟩
   by_cases hnz : n = 0
   ·subst hnz
    simp [hs, e0, m0, m1]
    refine stp _ fun e' ln' q1 q2 q3 => ?_
    simp [hs, m0, nd0]
    exact errS e' ln' _ q1 q2 q3
   ·simp [hs, e0, m0, m1, rg hb, rs hb, mw_int hr, hw hlt, hnz]
    exact fin n 0 ⟨#[]⟩ _ hlt hn0 (by simp [ok64]) (by simp [sz0])
 by_cases k5 : tkd = 5
 ·subst k5
  have hlt := hkl (by omega)
  by_cases h40 : ts = ⟨#[40]⟩
  ·subst h40
   simp [hs, e0, g, m0, m1, rg hb]
   refine (hP.head ha (by rw [if_pos rfl]; exact fu_le (Nat.le_refl _) id (by omega) hk)).call hE hr hb _ rfl NodeQ.ref ?_
   rintro _ p1 e1 ln1 ⟨⟨op, ss, nn, l, line⟩, rfl, ht, g1, hw1, hw2⟩
   simp [hs, m0]
   exact RdP.mkX p1 rfl ⟨.mk op ss nn l line, by simp, ht, g1, hw1, hw2⟩
  by_cases h123 : ts = ⟨#[123]⟩
  ·subst h123
   simp [hs, e0, g, m0, m1, rg hb]
   refine (hP.object ha (fu_le (Nat.le_refl _) id (by omega) hk)).call hE hr hb _ rfl NodeQ.ref ?_
   rintro _ p1 e1 ln1 ⟨⟨op, ss, nn, l, line⟩, rfl, ht, g1, hw1, hw2⟩
   simp [hs, m0]
   exact RdP.mkX p1 rfl ⟨.mk op ss nn l line, by simp, ht, g1, hw1, hw2⟩
  simp [hs, e0, g, m0, m1, rg hb, h40, h123]
  refine stp _ fun e' ln' q1 q2 q3 => ?_
  simp [hs, m0, nd0]
  exact errS e' ln' _ q1 q2 q3
 simp [hs, e0, g, m0, m1, rg hb, k1, k2, k3, k4, k5]
 refine stp _ fun e' ln' q1 q2 q3 => ?_
 simp [hs, m0, nd0]
 exact errS e' ln' _ q1 q2 q3
theorem f189 (t : Tk) (k : Nat) (hk : 1 ≤ k) : PureC k 189 [.agg t.enc] (.bool (decide (t.kind = 1) || decide (t.kind = 2) || decide (t.kind = 4) || decide (t.kind = 3))) := by
 intro E st hE
 obtain ⟨k, rfl⟩ := uK (k := k) (by omega)
 refine call_in1 rfl rfl (by decide) fun s hs e0 => ?_
 obtain ⟨kd, ts, tn, tl, tnl⟩ := t
 simp only [Tk.enc] at e0
 simp [hs, e0]
 repeat' (with_reducible refine wIf_dec (fun h => ?_) (fun h => ?_) <;> simp [*, hs, h, Grow.appH])
 all_goals omega
def isDgs (n : Nat) (w : AV) : Prop := ∃ s : ByteArray, w = .str s ∧ s.size ≤ n
theorem f190 : ∀ (j : Nat) (n : Int), ok64 n → n < 10 ^ (j + 1) → j ≤ 30 → ∀ k, j + 2 ≤ k → PureE k 190 [.int .i64 n] (isDgs (j + 1)) := by
 intro j
 induction j with
 | zero =>
  intro n hn h10 _ k hk E st hE
  obtain ⟨k, rfl⟩ := uK (k := k) (by omega)
  refine call_in1 rfl rfl (by decide) fun s hs e0 => ?_
  have h : n < 10 := by simpa using h10
  simp [hs, e0, h, wrC, cvsA, bytesA, Grow.refl]
  exact ⟨_, rfl, by simp [ByteArray.size]⟩
 | succ j ih =>
  intro n hn h10 hj k hk E st hE
  obtain ⟨k, rfl⟩ := uK (k := k) (by omega)
  refine call_in1 rfl rfl (by decide) fun s hs e0 => ?_
  by_cases h : n < 10
  ·simp [hs, e0, h, wrC, cvsA, bytesA, Grow.refl]
   exact ⟨_, rfl, by simp [ByteArray.size]⟩
  have hq : n.tdiv 10 = n / 10 := Int.tdiv_eq_ediv_of_nonneg (by omega)
  have hw := wrap64 (n := n / 10) (by unfold ok64 at hn; omega)
  have hlt : n / 10 < 10 ^ (j + 1) := by
   have e1 : (10 : Int) ^ (j + 1 + 1) = 10 ^ (j + 1) * 10 := Int.pow_succ 10 (j + 1)
   rw [e1] at h10
   exact Int.ediv_lt_of_lt_mul (by omega) h10
  simp [hs, e0, h, hq, hw, Nat.testBit]
  refine (ih (n / 10) (by unfold ok64 at hn ⊢; omega) hlt (by omega) k (by omega)).call (by rintro _ ⟨s, rfl, _⟩; rfl) hE rfl ?_
  rintro _ ⟨x, rfl, hx⟩
  have hsz : ∀ b, x.size + (⟨#[b]⟩ : ByteArray).size ≤ 9223372036854775807 := fun b => by
   have : (⟨#[b]⟩ : ByteArray).size = 1 := rfl
   omega
  simp [hs, e0, wrC, cvsA, bytesA, hsz, Grow.refl]
  refine ⟨_, rfl, ?_⟩
  rw [ByteArray.size_append]
  have : ∀ b, (⟨#[b]⟩ : ByteArray).size = 1 := fun _ => rfl
  rw [this]; omega
theorem AccG.one {m I sz n cs v} (h : AccG m I sz n cs v) : v.one = true := by
 rcases h with ⟨_, _, rfl⟩ | ⟨i, rfl, _⟩ <;> rfl
theorem AccG.cells {m I sz n cs v} (h : AccG m I sz n cs v) : v.cells = [v] := by
 rcases h with ⟨_, _, rfl⟩ | ⟨i, rfl, _⟩ <;> rfl
theorem AccG.appU {E : Env} {m : Nat} {I0 I : List (Nat × Nat)} {sz bytes n k : Nat} {cs ys : List AV} {v y : AV} (h : AccG m I sz n cs v) (hr : E.rom ≤ m) (hm : I0.length = m) (hp : I0 <+: I) (hb : bytes ≤ 1000) (hn : n + k ≤ 1000000000) (hs : srcA sz y = some (k, ys)) (hy : ys.length = k * sz) :
  ∃ v' I', (∀ H, appA E ⟨H, I⟩ sz bytes v y = some (v', ⟨H, I'⟩)) ∧ AccG m I' sz (n + k) (cs ++ ys) v' ∧ I0 <+: I' := by
 have hlen := hp.length_le
 have hb1 : ∀ x, x ≤ 1000000000 → x * bytes ≤ 70368744177664 := fun x hx => Nat.le_trans (Nat.mul_le_mul hx hb) (by decide)
 rcases h with ⟨rfl, rfl, rfl⟩ | ⟨j, rfl, hj, hi, hl⟩
 ·by_cases hk : k = 0
  ·subst hk
   have : ys = [] := List.eq_nil_of_length_eq_zero (by simpa using hy)
   subst this
   exact ⟨.nils, I, by simp [appA, hs], .inl ⟨rfl, rfl, rfl⟩, hp⟩
  ·refine ⟨.sl (some I.length) k ys, I ++ [(k, sz)], ?_, .inr ⟨I.length, by simp, by omega, by simp, by simpa using hy⟩, hp.trans (List.prefix_append _ _)⟩
   have h2 : k ≤ 70368744177664 := by omega
   simp [appA, hs, hk, hb1 k (by omega), h2]
 ·have hlt := uB hi
  have h2 : n + k ≤ 70368744177664 := by omega
  have h3 : E.rom ≤ j := by omega
  refine ⟨.sl (some j) (n + k) (cs ++ ys), I.set j (n + k, sz), ?_, .inr ⟨j, rfl, hj, by rw [List.getElem?_set_self hlt], by rw [List.length_append, hl, hy, Nat.add_mul]⟩, ?_⟩
  ·simp [appA, hs, h3, hi, hl, hb1 (n + k) hn, h2]
  ·obtain ⟨r, rfl⟩ := hp
   rw [List.set_append_right _ _ (by omega)]; exact List.prefix_append _ _
def J188 (H : List ABlk) (I : List (Nat × Nat)) (rb ty : Nat) (tk : List Tk) (p : Nat) (e ln line : Int) (n : Nat) (s : List AV) (m : List Nat) (st : St) : Prop :=
 ∃ (p1 : Nat) (e1 ln1 : Int) (l : List T) (v : AV) (X : List ABlk) (I' : List (Nat × Nat)), n = tk.length - p1 ∧ s.length = 94 ∧ m = [] ∧ lk s 0 = .ptr rb 0 ∧ lk s 2 = .ptr H.length 0 ∧ lk s 3 = .ptr (H.length + 1) 0 ∧
  st = ⟨H.set rb (.cells ty (RQ tk p1 e1 ln1)) ++ z5 :: .cells 24 [.int .i64 11, .str ⟨#[]⟩, .int .i64 0, v, .int .i64 line] :: X, I'⟩ ∧ I <+: I' ∧ AccG I.length I' 5 l.length (T.encL l) v ∧ T.okL1 l ∧ Go1 tk p e p1 e1 ln1 ∧ (e1 = 0 → T.wtL l + 24 + pt tk p ≤ pt tk p1) ∧ T.wtL l + pt tk p ≤ pt tk p1
theorem p_object {tk : List Tk} {k : Nat} (hP : Par tk k) {p : Nat} {e ln : Int} (ha : At tk p e ln) (hk : fu tk p e 16 ≤ k + 1) : RdC (k + 1) 188 [] tk p e ln (NodeQ tk 0 16 8 p e) := by
  intro E H I rb ty hE hr hb
  refine call_in1 rfl rfl (by decide) fun s hs e0 => ?_
  have hkk := fu_k hk
  have hn := ha.n
  have m0 := mw_loc0 hE
  have m1 := mw_loc hE
  have g := tok_eq (e := e) (ln := ln) (ty := ty) ha.n ha.p (k := k) (by omega) hE hr hb
  have htl := tkAt_line ha.ok p
  obtain ⟨line, hline⟩ : ∃ x, (tkAt tk p).line = x := ⟨_, rfl⟩
  rw [hline] at htl
  simp only [Tk.enc, hline] at g
  simp [hs, e0, g, m1]
  refine must_call ha _ (by omega) hE hr hb _ fun p1 e1 ln1 g1 a1 q1 q2 q3 => ?_
  simp [hs]
  refine WP_loop (J188 H I rb ty tk p e ln line) (tk.length - p1) (by omega) ⟨p1, e1, ln1, [], .nils, [], I, rfl, by simp [hs], rfl, by simp [hs, e0], by simp [hs], by simp [hs], by simp [z5], List.prefix_rfl, .inl ⟨rfl, rfl, rfl⟩, trivial, g1, fun h => by have := (q1 h).2.2; simp only [T.wtL]; omega, by simp only [T.wtL]; omega⟩ ?_
  clear hs e0 s q1 q2 q3 a1 g1 g
  rintro _ s m _ ⟨p1, e1, ln1, l, v, X, I', rfl, hs, rfl, e0, e2, e3, rfl, hI, hacc, hl, g1, hw1, hw2⟩
  have fI := hacc.fin
  have o1 := hacc.one
  have hE' : E.Wf ⟨H, I'⟩ := hE.of (Nat.le_refl _) hI.length_le
  have a1 := ha.to g1
  have mm := pt_mono (tk := tk) g1.1
  by_cases hz : e1 = 0
  rotate_left
  · simp [hs, e0, e2, e3, z5, o1, rg hb, hz, m0]
    exact RdP.mkI p1 hI rfl ⟨.mk 11 ⟨#[]⟩ 0 l line, by simp [fI], ⟨by simp [ok64], by simp [ok64], htl, hl⟩, g1, fun h => absurd h hz, by simp only [T.wt, sz0]; omega⟩
  subst hz
  have hw1 := hw1 rfl
  have gt1 := take_eq (e := 0) (ln := ln1) (ty := ty) ⟨#[125]⟩ a1.n a1.p (k := k) (by omega) hE' hr hb
  rcases takeF tk p1 0 ⟨#[125]⟩ with ⟨hB, hT, hlt, -, hpt⟩ | ⟨hB, hT⟩
  · rw [hB, hT] at gt1
    simp [hs, e0, e2, e3, z5, o1, rg hb, gt1, m0]
    exact RdP.mkI (p1 + 1) hI (by simp) ⟨.mk 11 ⟨#[]⟩ 0 l line, by simp [fI], ⟨by simp [ok64], by simp [ok64], htl, hl⟩, g1.trans (.next a1 hlt), fun _ => by simp only [T.wt, sz0]; omega, by simp only [T.wt, sz0]; omega⟩
  rw [hB, hT] at gt1
  have g := tok_eq (e := 0) (ln := ln1) (ty := ty) a1.n a1.p (k := k) (by omega) hE' hr hb
  have hkl := kind_lt (tk := tk) (p := p1)
  have htl2 := tkAt_line ha.ok p1
  have htn2 := tkAt_n ha.ok p1
  have hpn : p1 < tk.length → pt tk (p1 + 1) = pt tk p1 + 32 + (tkAt tk p1).s.size := fun h => pt_next h
  have hkey := fun t Hx => (f189 t k (by omega)).full (E := E) (st := ⟨H.set rb (.cells ty (RQ tk p1 0 ln1)) ++ Hx, I'⟩) rfl (hE'.of (by simp) (Nat.le_refl _)) (by simp [Tk.enc])
  have hkey2 := fun t Hx => (f189 t k (by omega)).full (E := E) (st := ⟨H.set rb (.cells ty (RQ tk ((p1 : Int) + 1) 0 ln1)) ++ Hx, I'⟩) rfl (hE'.of (by simp) (Nat.le_refl _)) (by simp [Tk.enc])
  obtain ⟨⟨tkd, ts, tn, tl, tnl⟩, htt⟩ : ∃ t, tkAt tk p1 = t := ⟨_, rfl⟩
  rw [htt] at g hkl htl2 htn2 hpn
  have hk1 := hkey ⟨tkd, ts, tn, tl, tnl⟩
  simp only [Tk.enc] at g hk1
  simp only at htl2 htn2 hkl hpn
  obtain ⟨b, hbk⟩ : ∃ b, (decide (tkd = 1) || decide (tkd = 2) || decide (tkd = 4) || decide (tkd = 3)) = b := ⟨_, rfl⟩
  rw [hbk] at hk1
  cases b
  · simp [hs, e0, e2, e3, z5, o1, rg hb, gt1, g, hk1, m0, m1]
    refine (f74 0 ln1 false a1.n a1.ok a1.p a1.e a1.ln k (by omega)).call hE' hr hb _ rfl stopQ.ref ?_
    rintro _ p2 e2' ln2 ⟨rfl, rfl, q1, q2, q3⟩
    simp [hs, e2, nd0, m0]
    refine RdP.mkI _ hI rfl ⟨.mk 0 ⟨#[]⟩ 0 [] 0, by simp, ⟨by simp [ok64], by simp [ok64], by simp [ok64], trivial⟩, ⟨g1.1, a1.p, q2, q3, fun _ => q1⟩, fun h => absurd h q1, ?_⟩
    simp only [T.wt, T.wtL, sz0] at *; omega
  have hlt : p1 < tk.length := hkl (by simp at hbk; omega)
  have hpn := hpn hlt
  have an := a1.next hlt
  have gn := Go1.next a1 hlt
  have hw := wrap64 (n := (p1 : Int) + 1) (by omega)
  have gx := tok_eq (e := 0) (ln := ln1) (ty := ty) an.n an.p (k := k) (by omega) hE' hr hb
  obtain ⟨u, hu⟩ : ∃ t, tkAt tk (p1 + 1) = t := ⟨_, rfl⟩
  rw [hu] at gx
  simp only [show ((p1 + 1 : Nat) : Int) = (p1 : Int) + 1 from by omega] at gx
  have hk2 := hkey2 u
  obtain ⟨b2, hbk2⟩ : ∃ b, (decide (u.kind = 1) || decide (u.kind = 2) || decide (u.kind = 4) || decide (u.kind = 3)) = b := ⟨_, rfl⟩
  rw [hbk2] at hk2
  have fin0 : ∀ (e' ln' : Int) (Y : List ABlk), e' ≠ 0 → ok64 e' → ok64 ln' → RdP H I rb ty tk (NodeQ tk 0 16 8 p e) (.ok (.agg [.int .i64 11, .str ⟨#[]⟩, .int .i64 0, v, .int .i64 line])) ⟨H.set rb (.cells ty (RQ tk ((p1 : Int) + 1) e' ln')) ++ Y, I'⟩ := fun e' ln' Y h1 h2 h3 =>
    RdP.mkI (p1 + 1) hI (by simp) ⟨.mk 11 ⟨#[]⟩ 0 l line, by simp [fI], ⟨by simp [ok64], by simp [ok64], htl, hl⟩, g1.trans ⟨by omega, hlt, h2, h3, fun _ => h1⟩, fun h => absurd h h1, by simp only [T.wt, sz0]; omega⟩
  by_cases hg1 : (tkd = 1 ∧ (ts = ⟨#[103, 101, 116]⟩ ∨ ts = ⟨#[115, 101, 116]⟩)) ∧ b2 = true
  · obtain ⟨⟨rfl, hg⟩, rfl⟩ := hg1
    have err : ∀ (Y : List ABlk) {P : Rt AV × St → Prop}, (∀ e' ln', e' ≠ 0 → ok64 e' → ok64 ln' → P (.ok (.tup []), ⟨H.set rb (.cells ty (RQ tk ((p1 : Int) + 1) e' ln')) ++ Y, I'⟩)) → obP (doCall (aCall prog k) E .full (.fn 107) [.ptr rb 0, .int .i64 46] ⟨H.set rb (.cells ty (RQ tk ((p1 : Int) + 1) 0 ln1)) ++ Y, I'⟩) P := fun Y P hP2 => by
      have := (f107 0 ln1 46 an.n an.ok an.p an.ln k (by omega)).call (ty := ty) (P := P) hE' hr hb Y (args' := [.int .i64 46]) rfl (failQ.ref rfl) (by rintro _ _ e' ln' ⟨rfl, rfl, q1, q2⟩; simp only [if_true] at q1; exact hP2 e' ln' (by omega) (by rw [q1]; simp [ok64]) q2)
      simpa using this
    rcases hg with rfl | rfl <;>
    · simp [hs, e0, e2, e3, z5, o1, rg hb, rs hb, gt1, g, gx, hk1, hk2, m0, m1, mw_int hr, hw]
      refine err _ fun e' ln' q1 q2 q3 => ?_
      simp [hs, e2, e3, m0, o1]
      exact fin0 e' ln' _ q1 q2 q3
  have hcase : (tkd = 1 ∧ (ts = ⟨#[103, 101, 116]⟩) = True ∧ b2 = false) ∨ (tkd = 1 ∧ (ts = ⟨#[103, 101, 116]⟩) = False ∧ (ts = ⟨#[115, 101, 116]⟩) = True ∧ b2 = false) ∨ (tkd = 1 ∧ (ts = ⟨#[103, 101, 116]⟩) = False ∧ (ts = ⟨#[115, 101, 116]⟩) = False) ∨ (¬ tkd = 1 ∧ ¬ tkd = 3) ∨ tkd = 3 := by
    by_cases k1 : tkd = 1
    · by_cases kg : ts = ⟨#[103, 101, 116]⟩
      · refine .inl ⟨k1, eq_true kg, ?_⟩
        cases b2
        · rfl
        · exact absurd ⟨⟨k1, .inl kg⟩, rfl⟩ hg1
      · by_cases ks : ts = ⟨#[115, 101, 116]⟩
        · refine .inr (.inl ⟨k1, eq_false kg, eq_true ks, ?_⟩)
          cases b2
          · rfl
          · exact absurd ⟨⟨k1, .inr ks⟩, rfl⟩ hg1
        · exact .inr (.inr (.inl ⟨k1, eq_false kg, eq_false ks⟩))
    · by_cases k3 : tkd = 3
      · exact .inr (.inr (.inr (.inr k3)))
      · exact .inr (.inr (.inr (.inl ⟨k1, k3⟩)))
  have mst : ∀ (Y : List ABlk) {P : Rt AV × St → Prop}, (∀ p' e' ln', Go1 tk (p1 + 1) 0 p' e' ln' → At tk p' e' ln' → pt tk p1 + 32 + ts.size ≤ pt tk p' → (e' = 0 → pt tk p1 + 64 + ts.size ≤ pt tk p') → P (.ok (.tup []), ⟨H.set rb (.cells ty (RQ tk (p' : Nat) e' ln')) ++ Y, I'⟩)) →
      obP (doCall (aCall prog k) E .full (.fn 163) [.ptr rb 0, .str ⟨#[58]⟩] ⟨H.set rb (.cells ty (RQ tk ((p1 : Int) + 1) 0 ln1)) ++ Y, I'⟩) P := fun Y P hP2 => by
    have := must_call (ty := ty) (P := P) (k := k) an ⟨#[58]⟩ (by omega) hE' hr hb Y (fun p' e' ln' g2 a2 q1 q2 q3 => hP2 p' e' ln' g2 a2 (by omega) (fun h => by have := (q1 h).2.2; omega))
    simpa using this
  have app : ∀ (nm : ByteArray) (x : T), ∃ v' I2, (∀ Hx, appA E ⟨Hx, I' ++ [(1, 5), (1, 5)]⟩ 5 64 v (.sl (some (I'.length + 1)) 1 [.int .i64 12, .str nm, .int .i64 0, .sl none 1 x.enc, .int .i64 tl]) = some (v', ⟨Hx, I2⟩)) ∧ AccG I.length I2 5 (l ++ [T.mk 12 nm 0 [x] tl]).length (T.encL (l ++ [.mk 12 nm 0 [x] tl])) v' ∧ I <+: I2 := fun nm x => by
    have hll := T.len_wtL l
    have hp1 := ha.pt p1
    obtain ⟨op, ss, nn, l2, line2⟩ := x
    obtain ⟨v', I2, ha1, ha2, ha3⟩ := (hacc.push [(1, 5), (1, 5)]).appU (E := E) (bytes := 64) (k := 1) (y := .sl (some (I'.length + 1)) 1 [.int .i64 12, .str nm, .int .i64 0, .sl none 1 (T.mk op ss nn l2 line2).enc, .int .i64 tl]) (ys := T.encL [.mk 12 nm 0 [.mk op ss nn l2 line2] tl]) hE.rom rfl (hI.trans (List.prefix_append _ _)) (by omega) (by omega) (by simp [srcA, T.encL]) rfl
    exact ⟨v', I2, ha1, by rw [T.encL_append, List.length_append]; exact ha2, ha3⟩
  have pair : ∀ (nm : ByteArray), nm.size ≤ 19 + ts.size → ∀ (p3 : Nat) (e3 ln3 : Int) (x : T) (v' : AV) (I2 : List (Nat × Nat)), x.ok1 → AccG I.length I2 5 (l ++ [T.mk 12 nm 0 [x] tl]).length (T.encL (l ++ [.mk 12 nm 0 [x] tl])) v' → I <+: I2 → Go1 tk p e p3 e3 ln3 → (e3 = 0 → x.wt + 60 + ts.size + pt tk p1 ≤ pt tk p3) → x.wt + pt tk p1 + ts.size + 20 ≤ pt tk p3 → p1 < p3 →
      T.okL1 (l ++ [.mk 12 nm 0 [x] tl]) ∧ (e3 = 0 → T.wtL (l ++ [.mk 12 nm 0 [x] tl]) + 24 + pt tk p ≤ pt tk p3) ∧ T.wtL (l ++ [.mk 12 nm 0 [x] tl]) + pt tk p ≤ pt tk p3 := fun nm hnm p3 e3 ln3 x v' I2 hx h1 h2 h3 h4 h5 h6 => by
    refine ⟨T.okL1_app hl ⟨⟨by simp [ok64], by simp [ok64], htl2, hx, trivial⟩, trivial⟩, fun h => ?_, ?_⟩
    · have := h4 h
      rw [T.wtL_app]; simp only [T.wtL, T.wt]; omega
    · rw [T.wtL_app]; simp only [T.wtL, T.wt]; omega
  rcases hcase with ⟨rfl, kg, rfl⟩ | ⟨rfl, kg, ks, rfl⟩ | ⟨rfl, kg, ks⟩ | ⟨k1, k3⟩ | rfl
  rotate_left 4
  · simp [hs, e0, e2, e3, z5, o1, rg hb, rs hb, gt1, g, gx, hk1, hk2, m0, m1, mw_int hr, hw]
    refine (f190 18 tn htn2 (by unfold ok64 at htn2; omega) (by omega) k (by omega)).call (by rintro _ ⟨s, rfl, _⟩; rfl) (hE'.of (by simp) (Nat.le_refl _)) rfl ?_
    rintro _ ⟨S, rfl, hS⟩
    simp [hs, e0, m1]
    refine mst _ fun p2 e2' ln2 g2 a2 q1 q2 => ?_
    simp [hs, e0]
    refine (hP.expr a2 (fu_adv (by have := g1.1; have := g2.1; omega) a2.p (by omega) hk)).call hE' hr hb _ rfl NodeQ.ref ?_
    rintro _ p3 e3' ln3 ⟨⟨op, ss, nn, l2, line2⟩, rfl, ht, g3, hw3, hw4⟩
    have a3 := a2.to g3
    have g13 := g1.trans (gn.trans (g2.trans g3))
    obtain ⟨v', I2, happ, hacc2, hI2⟩ := app S (.mk op ss nn l2 line2)
    have hE2 : E.Wf ⟨H, I2⟩ := hE.of (Nat.le_refl _) hI2.length_le
    have o2 := hacc2.one
    have c2 := hacc2.cells
    have f2 := hacc2.fin
    have e23 : e3' = 0 → e2' = 0 := fun h => by
      rcases Decidable.em (e2' = 0) with h' | h'
      · exact h'
      · exact absurd h (g3.2.2.2.2 h')
    obtain ⟨w1, w2, w3⟩ := pair S (by omega) p3 e3' ln3 (.mk op ss nn l2 line2) v' I2 ht hacc2 hI2 g13 (fun h => by have := hw3 h; have := q2 (e23 h); omega) (by omega) (by have := g2.1; have := g3.1; omega)
    have gt2 := take_eq (e := e3') (ln := ln3) (ty := ty) ⟨#[44]⟩ a3.n a3.p (k := k) (by omega) hE2 hr hb
    simp only [T.enc] at happ
    rcases takeF tk p3 e3' ⟨#[44]⟩ with ⟨hB3, hT3, hlt3, rfl, hpt3⟩ | ⟨hB3, hT3⟩
    · rw [hB3, hT3] at gt2
      simp [hs, e0, e2, e3, m0, m1, o1, o2, c2, wr53, happ, gt2]
      exact ⟨_, by have := g2.1; have := g3.1; omega, p3 + 1, 0, ln3, _, v', _, I2, rfl, by simp [hs], rfl, by simp [hs, e0], by simp [hs, e2], by simp [hs, e3], by simp [z5]; rfl, hI2, hacc2, w1, g13.trans (.next a3 hlt3), fun _ => by have := w2 rfl; omega, by omega⟩
    · rw [hB3, hT3] at gt2
      simp [hs, e0, e2, e3, m0, m1, o1, o2, c2, wr53, happ, gt2]
      refine must_call a3 _ (by omega) hE2 hr hb _ fun p4 e4 ln4 g4 a4 q4 q5 q6 => ?_
      simp [hs, e2, e3, m0, o2]
      exact RdP.mkI p4 hI2 rfl ⟨.mk 11 ⟨#[]⟩ 0 (l ++ [.mk 12 S 0 [.mk op ss nn l2 line2] tl]) line, by simp [f2], ⟨by simp [ok64], by simp [ok64], htl, w1⟩, g13.trans g4, fun h => by have := w2 (q4 h).1; simp only [T.wt, sz0]; omega, by simp only [T.wt, sz0]; omega⟩
  · simp [hs, e0, e2, e3, z5, o1, rg hb, rs hb, gt1, g, gx, hk1, hk2, m0, m1, mw_int hr, hw, kg]
    refine mst _ fun p2 e2' ln2 g2 a2 q1 q2 => ?_
    simp [hs, e0]
    refine (hP.expr a2 (fu_adv (by have := g1.1; have := g2.1; omega) a2.p (by omega) hk)).call hE' hr hb _ rfl NodeQ.ref ?_
    rintro _ p3 e3' ln3 ⟨⟨op, ss, nn, l2, line2⟩, rfl, ht, g3, hw3, hw4⟩
    have a3 := a2.to g3
    have g13 := g1.trans (gn.trans (g2.trans g3))
    obtain ⟨v', I2, happ, hacc2, hI2⟩ := app ts (.mk op ss nn l2 line2)
    have hE2 : E.Wf ⟨H, I2⟩ := hE.of (Nat.le_refl _) hI2.length_le
    have o2 := hacc2.one
    have c2 := hacc2.cells
    have f2 := hacc2.fin
    have e23 : e3' = 0 → e2' = 0 := fun h => by
      rcases Decidable.em (e2' = 0) with h' | h'
      · exact h'
      · exact absurd h (g3.2.2.2.2 h')
    obtain ⟨w1, w2, w3⟩ := pair ts (by omega) p3 e3' ln3 (.mk op ss nn l2 line2) v' I2 ht hacc2 hI2 g13 (fun h => by have := hw3 h; have := q2 (e23 h); omega) (by omega) (by have := g2.1; have := g3.1; omega)
    have gt2 := take_eq (e := e3') (ln := ln3) (ty := ty) ⟨#[44]⟩ a3.n a3.p (k := k) (by omega) hE2 hr hb
    simp only [T.enc] at happ
    rcases takeF tk p3 e3' ⟨#[44]⟩ with ⟨hB3, hT3, hlt3, rfl, hpt3⟩ | ⟨hB3, hT3⟩
    · rw [hB3, hT3] at gt2
      simp [hs, e0, e2, e3, m0, m1, o1, o2, c2, wr53, happ, gt2]
      exact ⟨_, by have := g2.1; have := g3.1; omega, p3 + 1, 0, ln3, _, v', _, I2, rfl, by simp [hs], rfl, by simp [hs, e0], by simp [hs, e2], by simp [hs, e3], by simp [z5]; rfl, hI2, hacc2, w1, g13.trans (.next a3 hlt3), fun _ => by have := w2 rfl; omega, by omega⟩
    · rw [hB3, hT3] at gt2
      simp [hs, e0, e2, e3, m0, m1, o1, o2, c2, wr53, happ, gt2]
      refine must_call a3 _ (by omega) hE2 hr hb _ fun p4 e4 ln4 g4 a4 q4 q5 q6 => ?_
      simp [hs, e2, e3, m0, o2]
      exact RdP.mkI p4 hI2 rfl ⟨.mk 11 ⟨#[]⟩ 0 (l ++ [.mk 12 ts 0 [.mk op ss nn l2 line2] tl]) line, by simp [f2], ⟨by simp [ok64], by simp [ok64], htl, w1⟩, g13.trans g4, fun h => by have := w2 (q4 h).1; simp only [T.wt, sz0]; omega, by simp only [T.wt, sz0]; omega⟩
  · simp [hs, e0, e2, e3, z5, o1, rg hb, rs hb, gt1, g, gx, hk1, hk2, m0, m1, mw_int hr, hw, kg, ks]
    refine mst _ fun p2 e2' ln2 g2 a2 q1 q2 => ?_
    simp [hs, e0]
    refine (hP.expr a2 (fu_adv (by have := g1.1; have := g2.1; omega) a2.p (by omega) hk)).call hE' hr hb _ rfl NodeQ.ref ?_
    rintro _ p3 e3' ln3 ⟨⟨op, ss, nn, l2, line2⟩, rfl, ht, g3, hw3, hw4⟩
    have a3 := a2.to g3
    have g13 := g1.trans (gn.trans (g2.trans g3))
    obtain ⟨v', I2, happ, hacc2, hI2⟩ := app ts (.mk op ss nn l2 line2)
    have hE2 : E.Wf ⟨H, I2⟩ := hE.of (Nat.le_refl _) hI2.length_le
    have o2 := hacc2.one
    have c2 := hacc2.cells
    have f2 := hacc2.fin
    have e23 : e3' = 0 → e2' = 0 := fun h => by
      rcases Decidable.em (e2' = 0) with h' | h'
      · exact h'
      · exact absurd h (g3.2.2.2.2 h')
    obtain ⟨w1, w2, w3⟩ := pair ts (by omega) p3 e3' ln3 (.mk op ss nn l2 line2) v' I2 ht hacc2 hI2 g13 (fun h => by have := hw3 h; have := q2 (e23 h); omega) (by omega) (by have := g2.1; have := g3.1; omega)
    have gt2 := take_eq (e := e3') (ln := ln3) (ty := ty) ⟨#[44]⟩ a3.n a3.p (k := k) (by omega) hE2 hr hb
    simp only [T.enc] at happ
    rcases takeF tk p3 e3' ⟨#[44]⟩ with ⟨hB3, hT3, hlt3, rfl, hpt3⟩ | ⟨hB3, hT3⟩
    · rw [hB3, hT3] at gt2
      simp [hs, e0, e2, e3, m0, m1, o1, o2, c2, wr53, happ, gt2]
      exact ⟨_, by have := g2.1; have := g3.1; omega, p3 + 1, 0, ln3, _, v', _, I2, rfl, by simp [hs], rfl, by simp [hs, e0], by simp [hs, e2], by simp [hs, e3], by simp [z5]; rfl, hI2, hacc2, w1, g13.trans (.next a3 hlt3), fun _ => by have := w2 rfl; omega, by omega⟩
    · rw [hB3, hT3] at gt2
      simp [hs, e0, e2, e3, m0, m1, o1, o2, c2, wr53, happ, gt2]
      refine must_call a3 _ (by omega) hE2 hr hb _ fun p4 e4 ln4 g4 a4 q4 q5 q6 => ?_
      simp [hs, e2, e3, m0, o2]
      exact RdP.mkI p4 hI2 rfl ⟨.mk 11 ⟨#[]⟩ 0 (l ++ [.mk 12 ts 0 [.mk op ss nn l2 line2] tl]) line, by simp [f2], ⟨by simp [ok64], by simp [ok64], htl, w1⟩, g13.trans g4, fun h => by have := w2 (q4 h).1; simp only [T.wt, sz0]; omega, by simp only [T.wt, sz0]; omega⟩
  · simp [hs, e0, e2, e3, z5, o1, rg hb, rs hb, gt1, g, gx, hk1, hk2, m0, m1, mw_int hr, hw, kg, ks]
    refine mst _ fun p2 e2' ln2 g2 a2 q1 q2 => ?_
    simp [hs, e0]
    refine (hP.expr a2 (fu_adv (by have := g1.1; have := g2.1; omega) a2.p (by omega) hk)).call hE' hr hb _ rfl NodeQ.ref ?_
    rintro _ p3 e3' ln3 ⟨⟨op, ss, nn, l2, line2⟩, rfl, ht, g3, hw3, hw4⟩
    have a3 := a2.to g3
    have g13 := g1.trans (gn.trans (g2.trans g3))
    obtain ⟨v', I2, happ, hacc2, hI2⟩ := app ts (.mk op ss nn l2 line2)
    have hE2 : E.Wf ⟨H, I2⟩ := hE.of (Nat.le_refl _) hI2.length_le
    have o2 := hacc2.one
    have c2 := hacc2.cells
    have f2 := hacc2.fin
    have e23 : e3' = 0 → e2' = 0 := fun h => by
      rcases Decidable.em (e2' = 0) with h' | h'
      · exact h'
      · exact absurd h (g3.2.2.2.2 h')
    obtain ⟨w1, w2, w3⟩ := pair ts (by omega) p3 e3' ln3 (.mk op ss nn l2 line2) v' I2 ht hacc2 hI2 g13 (fun h => by have := hw3 h; have := q2 (e23 h); omega) (by omega) (by have := g2.1; have := g3.1; omega)
    have gt2 := take_eq (e := e3') (ln := ln3) (ty := ty) ⟨#[44]⟩ a3.n a3.p (k := k) (by omega) hE2 hr hb
    simp only [T.enc] at happ
    rcases takeF tk p3 e3' ⟨#[44]⟩ with ⟨hB3, hT3, hlt3, rfl, hpt3⟩ | ⟨hB3, hT3⟩
    · rw [hB3, hT3] at gt2
      simp [hs, e0, e2, e3, m0, m1, o1, o2, c2, wr53, happ, gt2]
      exact ⟨_, by have := g2.1; have := g3.1; omega, p3 + 1, 0, ln3, _, v', _, I2, rfl, by simp [hs], rfl, by simp [hs, e0], by simp [hs, e2], by simp [hs, e3], by simp [z5]; rfl, hI2, hacc2, w1, g13.trans (.next a3 hlt3), fun _ => by have := w2 rfl; omega, by omega⟩
    · rw [hB3, hT3] at gt2
      simp [hs, e0, e2, e3, m0, m1, o1, o2, c2, wr53, happ, gt2]
      refine must_call a3 _ (by omega) hE2 hr hb _ fun p4 e4 ln4 g4 a4 q4 q5 q6 => ?_
      simp [hs, e2, e3, m0, o2]
      exact RdP.mkI p4 hI2 rfl ⟨.mk 11 ⟨#[]⟩ 0 (l ++ [.mk 12 ts 0 [.mk op ss nn l2 line2] tl]) line, by simp [f2], ⟨by simp [ok64], by simp [ok64], htl, w1⟩, g13.trans g4, fun h => by have := w2 (q4 h).1; simp only [T.wt, sz0]; omega, by simp only [T.wt, sz0]; omega⟩
  · simp [hs, e0, e2, e3, z5, o1, rg hb, rs hb, gt1, g, gx, hk1, hk2, m0, m1, mw_int hr, hw, k1, k3]
    refine mst _ fun p2 e2' ln2 g2 a2 q1 q2 => ?_
    simp [hs, e0]
    refine (hP.expr a2 (fu_adv (by have := g1.1; have := g2.1; omega) a2.p (by omega) hk)).call hE' hr hb _ rfl NodeQ.ref ?_
    rintro _ p3 e3' ln3 ⟨⟨op, ss, nn, l2, line2⟩, rfl, ht, g3, hw3, hw4⟩
    have a3 := a2.to g3
    have g13 := g1.trans (gn.trans (g2.trans g3))
    obtain ⟨v', I2, happ, hacc2, hI2⟩ := app ts (.mk op ss nn l2 line2)
    have hE2 : E.Wf ⟨H, I2⟩ := hE.of (Nat.le_refl _) hI2.length_le
    have o2 := hacc2.one
    have c2 := hacc2.cells
    have f2 := hacc2.fin
    have e23 : e3' = 0 → e2' = 0 := fun h => by
      rcases Decidable.em (e2' = 0) with h' | h'
      · exact h'
      · exact absurd h (g3.2.2.2.2 h')
    obtain ⟨w1, w2, w3⟩ := pair ts (by omega) p3 e3' ln3 (.mk op ss nn l2 line2) v' I2 ht hacc2 hI2 g13 (fun h => by have := hw3 h; have := q2 (e23 h); omega) (by omega) (by have := g2.1; have := g3.1; omega)
    have gt2 := take_eq (e := e3') (ln := ln3) (ty := ty) ⟨#[44]⟩ a3.n a3.p (k := k) (by omega) hE2 hr hb
    simp only [T.enc] at happ
    rcases takeF tk p3 e3' ⟨#[44]⟩ with ⟨hB3, hT3, hlt3, rfl, hpt3⟩ | ⟨hB3, hT3⟩
    · rw [hB3, hT3] at gt2
      simp [hs, e0, e2, e3, m0, m1, o1, o2, c2, wr53, happ, gt2]
      exact ⟨_, by have := g2.1; have := g3.1; omega, p3 + 1, 0, ln3, _, v', _, I2, rfl, by simp [hs], rfl, by simp [hs, e0], by simp [hs, e2], by simp [hs, e3], by simp [z5]; rfl, hI2, hacc2, w1, g13.trans (.next a3 hlt3), fun _ => by have := w2 rfl; omega, by omega⟩
    · rw [hB3, hT3] at gt2
      simp [hs, e0, e2, e3, m0, m1, o1, o2, c2, wr53, happ, gt2]
      refine must_call a3 _ (by omega) hE2 hr hb _ fun p4 e4 ln4 g4 a4 q4 q5 q6 => ?_
      simp [hs, e2, e3, m0, o2]
      exact RdP.mkI p4 hI2 rfl ⟨.mk 11 ⟨#[]⟩ 0 (l ++ [.mk 12 ts 0 [.mk op ss nn l2 line2] tl]) line, by simp [f2], ⟨by simp [ok64], by simp [ok64], htl, w1⟩, g13.trans g4, fun h => by have := w2 (q4 h).1; simp only [T.wt, sz0]; omega, by simp only [T.wt, sz0]; omega⟩
theorem Go1.e0 {tk p e p' e' ln'} (g : Go1 tk p e p' e' ln') (h : e' = 0) : e = 0 := by
 rcases Decidable.em (e = 0) with h' | h'
 ·exact h'
 ·exact absurd h (g.2.2.2.2 h')
theorem AccG.add {E : Env} {I I' : List (Nat × Nat)} {l : List T} {v : AV} (h : AccG I.length I' 5 l.length (T.encL l) v) (hr : E.rom ≤ I.length) (hI : I <+: I') (hl : l.length ≤ 900000000) (x : T) :
  ∃ v' I2, (∀ Hx, appA E ⟨Hx, I' ++ [(1, 5)]⟩ 5 64 v (.sl (some I'.length) 1 x.enc) = some (v', ⟨Hx, I2⟩)) ∧ AccG I.length I2 5 (l ++ [x]).length (T.encL (l ++ [x])) v' ∧ I <+: I2 := by
 obtain ⟨op, ss, nn, l2, line2⟩ := x
 obtain ⟨v', I2, ha1, ha2, ha3⟩ := (h.push [(1, 5)]).appU (E := E) (bytes := 64) (k := 1) (y := .sl (some I'.length) 1 (T.mk op ss nn l2 line2).enc) (ys := T.encL [.mk op ss nn l2 line2]) hr rfl (hI.trans (List.prefix_append _ _)) (by omega) (by omega) (by simp [srcA, T.encL]) rfl
 exact ⟨v', I2, ha1, by rw [T.encL_append, List.length_append]; exact ha2, ha3⟩
def J167 (H : List ABlk) (I : List (Nat × Nat)) (rb ty : Nat) (tk : List Tk) (p : Nat) (e ln : Int) (n : Nat) (s : List AV) (m : List Nat) (st : St) : Prop :=
 ∃ (p1 : Nat) (e1 ln1 : Int) (l : List T) (v : AV) (I' : List (Nat × Nat)) (more : Bool), n = mu tk p1 e1 + (if more then 1 else 0) ∧ s.length = 40 ∧ m = [] ∧ lk s 0 = .ptr rb 0 ∧ lk s 3 = v ∧ lk s 5 = .bool more ∧
  st = ⟨H.set rb (.cells ty (RQ tk p1 e1 ln1)), I'⟩ ∧ I <+: I' ∧ AccG I.length I' 5 l.length (T.encL l) v ∧ T.okL1 l ∧ Go1 tk p e p1 e1 ln1 ∧ (e1 = 0 → T.wtL l + pt tk p ≤ pt tk p1) ∧ T.wtL l + pt tk p ≤ pt tk p1 + 1
theorem p_rest {tk : List Tk} {k : Nat} (hP : Par tk k) {p : Nat} {e ln : Int} (ha : At tk p e ln) (hk : fu tk p e 45 ≤ k + 1) : RdC (k + 1) 167 [] tk p e ln (ListQ tk 10 p e) := by
  intro E H I rb ty hE hr hb
  refine call_in1 rfl rfl (by decide) fun s hs e0 => ?_
  have hkk := fu_k hk
  have hn := ha.n
  simp [hs, e0]
  refine must_call0 ha _ (by omega) hE hr hb fun p1 e1 ln1 g1 a1 q1 q2 q3 => ?_
  have gi := is_eq0 (e := e1) (ln := ln1) (ty := ty) ⟨#[41]⟩ a1.n a1.p (k := k) (by omega) hE hr hb
  have hmu : mu tk p1 e1 ≤ mu tk p e := mu_le g1.1 g1.2.2.2.2
  have hmu2 : mu tk p e ≤ 2 * tk.length + 1 := by unfold mu; split <;> omega
  simp [hs, e0, gi]
  refine WP_loop (J167 H I rb ty tk p e ln) (mu tk p1 e1 + if !isB tk p1 e1 ⟨#[41]⟩ then 1 else 0) (by unfold fu at hk; split <;> omega) ⟨p1, e1, ln1, [], .nils, I, !isB tk p1 e1 ⟨#[41]⟩, rfl, by simp [hs], rfl, by simp [hs, e0], by simp [hs], by simp [hs], rfl, List.prefix_rfl, .inl ⟨rfl, rfl, rfl⟩, trivial, g1, fun _ => by simp only [T.wtL]; omega, by simp only [T.wtL]; omega⟩ ?_
  clear hs e0 s q1 q2 q3 a1 g1 hmu gi
  rintro _ s m _ ⟨p1, e1, ln1, l, v, I', more, rfl, hs, rfl, e0, e3, e5, rfl, hI, hacc, hl, g1, hw1, hw2⟩
  have hE' : E.Wf ⟨H, I'⟩ := hE.of (Nat.le_refl _) hI.length_le
  have a1 := ha.to g1
  have mm := pt_mono (tk := tk) g1.1
  have hll := T.len_wtL l
  have hp1 := ha.pt p1
  by_cases hc : e1 = 0 ∧ more = true
  rotate_left
  · have hout : (e1 = 0 ∧ more = false) ∨ e1 ≠ 0 := by
      by_cases h : e1 = 0
      · refine .inl ⟨h, ?_⟩
        cases more
        · rfl
        · exact absurd ⟨h, rfl⟩ hc
      · exact .inr h
    have fin : ∀ p2 e2 ln2, Go1 tk p1 e1 p2 e2 ln2 → pt tk p1 ≤ pt tk p2 → ∀ p3 e3 ln3 (x : T) (v' : AV) (I2 : List (Nat × Nat)), I <+: I2 → AccG I.length I2 5 (l ++ [x]).length (T.encL (l ++ [x])) v' → x.ok1 → Go1 tk p2 e2 p3 e3 ln3 → (e3 = 0 → x.wt + 12 + pt tk p2 ≤ pt tk p3) → x.wt + pt tk p2 ≤ pt tk p3 + 8 →
        RdP H I rb ty tk (ListQ tk 10 p e) (.ok v') ⟨H.set rb (.cells ty (RQ tk p3 e3 ln3)), I2⟩ := fun p2 e2 ln2 g2 hpp p3 e3 ln3 x v' I2 h1 h2 h3 h4 h5 h6 => by
      refine RdP.mkJ p3 h1 rfl ⟨l ++ [x], h2.fin, T.okL1_app hl ⟨h3, trivial⟩, g1.trans (g2.trans h4), fun h => ?_, ?_⟩
      · have := h5 h
        have := hw1 (g2.e0 (h4.e0 h))
        rw [T.wtL_app]; simp only [T.wtL]; omega
      · rw [T.wtL_app]; simp only [T.wtL]; omega
    rcases hout with ⟨rfl, rfl⟩ | hz
    · simp [hs, e0, e3, e5, rg0 hb]
      refine must_call0 a1 _ (by omega) hE' hr hb fun p2 e2 ln2 g2 a2 q1 q2 q3 => ?_
      simp [hs, e0, e3]
      refine (hP.block a2 (fu_le (Nat.le_trans g1.1 g2.1) (fun h => g2.2.2.2.2 (g1.2.2.2.2 h)) (by omega) hk)).call0 hE' hr hb rfl NodeQ.ref ?_
      rintro _ p3 e3' ln3 ⟨⟨op, ss, nn, l2, line⟩, rfl, ht, g3, hw3, hw4⟩
      obtain ⟨v', I2, happ, hacc2, hI2⟩ := hacc.add hE.rom hI (by omega) (.mk op ss nn l2 line)
      simp only [T.enc] at happ
      simp [hs, e3, happ]
      exact fin p2 e2 ln2 g2 q3 p3 e3' ln3 _ v' I2 hI2 hacc2 ht g3 (fun h => by have := hw3 h; omega) hw4
    · simp [hs, e0, e3, e5, rg0 hb, hz]
      refine must_call0 a1 _ (by omega) hE' hr hb fun p2 e2 ln2 g2 a2 q1 q2 q3 => ?_
      simp [hs, e0, e3]
      refine (hP.block a2 (fu_le (Nat.le_trans g1.1 g2.1) (fun h => g2.2.2.2.2 (g1.2.2.2.2 h)) (by omega) hk)).call0 hE' hr hb rfl NodeQ.ref ?_
      rintro _ p3 e3' ln3 ⟨⟨op, ss, nn, l2, line⟩, rfl, ht, g3, hw3, hw4⟩
      obtain ⟨v', I2, happ, hacc2, hI2⟩ := hacc.add hE.rom hI (by omega) (.mk op ss nn l2 line)
      simp only [T.enc] at happ
      simp [hs, e3, happ]
      exact fin p2 e2 ln2 g2 q3 p3 e3' ln3 _ v' I2 hI2 hacc2 ht g3 (fun h => by have := hw3 h; omega) hw4
  obtain ⟨rfl, rfl⟩ := hc
  have hw1 := hw1 rfl
  have g := tok_eq0 (e := 0) (ln := ln1) (ty := ty) a1.n a1.p (k := k) (by omega) hE' hr hb
  have htl := tkAt_line ha.ok p1
  obtain ⟨line, hline⟩ : ∃ x, (tkAt tk p1).line = x := ⟨_, rfl⟩
  rw [hline] at htl
  simp only [Tk.enc, hline] at g
  simp [hs, e0, e3, e5, rg0 hb, g]
  refine (f164 0 ln1 a1.n a1.ok a1.p a1.e a1.ln k (by omega)).call0 hE' hr hb rfl nameQ.ref ?_
  rintro w p2 e2 ln2 ⟨he1, hl1, hcase⟩
  obtain ⟨S, hS, g2, hS1, hS2, hS3⟩ : ∃ S : ByteArray, w = AV.str S ∧ Go1 tk p1 0 p2 e2 ln2 ∧ (e2 = 0 → p1 < p2 ∧ S.size + 32 + pt tk p1 ≤ pt tk p2) ∧ (e2 ≠ 0 → S.size = 0) ∧ pt tk p1 ≤ pt tk p2 := by
    rcases hcase with ⟨h1, _, h2, rfl, rfl⟩ | ⟨h1, rfl, rfl⟩
    · exact ⟨(tkAt tk p1).s, rfl, ⟨by omega, h2, he1, hl1, fun h => absurd rfl h⟩, fun _ => ⟨by omega, by rw [pt_next h2]; omega⟩, fun h => absurd h1 h, by rw [pt_next h2]; omega⟩
    · exact ⟨⟨#[]⟩, rfl, ⟨by omega, a1.p, he1, hl1, fun _ => h1⟩, fun h => absurd h h1, fun _ => sz0, Nat.le_refl _⟩
  subst hS
  have a2 := a1.to g2
  obtain ⟨v', I2, happ, hacc2, hI2⟩ := hacc.add hE.rom hI (by omega) (.mk 1 S 0 [] line)
  simp only [T.enc, T.encL, List.length_nil] at happ
  have hE2 : E.Wf ⟨H, I2⟩ := hE.of (Nat.le_refl _) hI2.length_le
  have gt := take_eq0 (e := e2) (ln := ln2) (ty := ty) ⟨#[44]⟩ a2.n a2.p (k := k) (by omega) hE2 hr hb
  have gT := takeN_go a2 ⟨#[44]⟩
  have hpt : pt tk p2 ≤ pt tk (takeN tk p2 e2 ⟨#[44]⟩) := pt_mono gT.1
  simp [hs, e0, e3, happ, gt]
  refine ⟨_, ?_, takeN tk p2 e2 ⟨#[44]⟩, e2, ln2, l ++ [.mk 1 S 0 [] line], v', I2, isB tk p2 e2 ⟨#[44]⟩, rfl, by simp [hs], rfl, by simp [hs, e0], by simp [hs], by simp [hs], rfl, hI2, hacc2, T.okL1_app hl (show T.okL1 [T.mk 1 S 0 [] line] from ⟨⟨by simp [ok64], by simp [ok64], htl, trivial⟩, trivial⟩), g1.trans (g2.trans gT), fun h => ?_, ?_⟩
  · have hmu2 : mu tk (takeN tk p2 e2 ⟨#[44]⟩) e2 + 1 ≤ mu tk p1 0 := by
      by_cases h : e2 = 0
      · exact mu_adv (by have := gT.1; have := (hS1 h).1; omega) gT.2.1
      · exact mu_err (by have := g2.1; have := gT.1; omega) h
    simp only [if_true]
    split <;> omega
  · have := (hS1 h).2
    rw [T.wtL_app]; simp only [T.wtL, T.wt]; omega
  · rw [T.wtL_app]; simp only [T.wtL, T.wt]
    by_cases h : e2 = 0
    · have := (hS1 h).2; omega
    · have := hS2 h; omega
theorem stmtsE {tk : List Tk} {p : Nat} {e ln : Int} (he : e ≠ 0) (ha : At tk p e ln) (k : Nat) (hk : 5 ≤ k) : RdC k 73 [] tk p e ln (isQ (.sl none 0 []) p e ln) := by
 intro E H I rb ty hE hr hb
 obtain ⟨k, rfl⟩ := uK (k := k) (by omega)
 refine call_in1 rfl rfl (by decide) fun s hs e0 => ?_
 simp [hs, e0]
 refine WP_loop (fun n s m st => s.length = 29 ∧ m = [] ∧ lk s 0 = .ptr rb 0 ∧ lk s 3 = .nils ∧ st = ⟨H.set rb (.cells ty (RQ tk p e ln)), I⟩) 0 (by omega) ⟨by simp [hs], rfl, by simp [hs, e0], by simp [hs], rfl⟩ ?_
 rintro _ s m _ ⟨hs, rfl, e0, e3, rfl⟩
 simp [hs, e0, e3, rg0 hb, he]
 exact RdP.mk0 p rfl ⟨by simp, rfl, rfl, rfl⟩
theorem p_block {tk : List Tk} {k : Nat} (hP : Par tk k) {p : Nat} {e ln : Int} (ha : At tk p e ln) (hk : fu tk p e 30 ≤ k + 1) : RdC (k + 1) 145 [] tk p e ln (NodeQ tk 0 12 8 p e) := by
 intro E H I rb ty hE hr hb
 refine call_in1 rfl rfl (by decide) fun s hs e0 => ?_
 have hkk := fu_k hk
 have m0 := mw_loc0 hE
 have m1 := mw_loc hE
 have g := tok_eq (e := e) (ln := ln) (ty := ty) ha.n ha.p (k := k) (by omega) hE hr hb
 have htl := tkAt_line ha.ok p
 obtain ⟨line, hline⟩ : ∃ x, (tkAt tk p).line = x := ⟨_, rfl⟩
 rw [hline] at htl
 simp only [Tk.enc, hline] at g
 simp [hs, e0, g, m1]
 refine must_call ha _ (by omega) hE hr hb _ fun p1 e1 ln1 g1 a1 q1 q2 q3 => ?_
 simp [hs, e0]
 by_cases hz : e1 = 0
 ·refine (hP.stmts a1 (by rw [if_pos hz]; exact fu_adv (q1 hz).2.1 a1.p (by omega) hk)).call hE hr hb _ rfl ListQ.ref ?_
  rintro _ p2 e2 ln2 ⟨l, rfl, hl, g2, hw1, hw2⟩
  have := (q1 hz).2.2
  simp [hs, e0, m1]
  refine must_call (a1.to g2) _ (by omega) hE hr hb _ fun p3 e3 ln3 g3 a3 q4 q5 q6 => ?_
  simp [hs, m0]
  exact RdP.mkX p3 rfl ⟨.mk 32 ⟨#[]⟩ 0 l line, by simp, ⟨by simp [ok64], by simp [ok64], htl, hl⟩, g1.trans (g2.trans g3), fun h => by have := hw1 (q4 h).1; simp only [T.wt, sz0]; omega, by simp only [T.wt, sz0]; omega⟩
 ·refine (stmtsE hz a1 k (by omega)).call hE hr hb _ rfl (by rintro _ _ _ _ ⟨rfl, _⟩; rfl) ?_
  rintro _ p2 e2 ln2 ⟨rfl, rfl, rfl, rfl⟩
  simp [hs, e0, m1]
  refine must_call a1 _ (by omega) hE hr hb _ fun p3 e3 ln3 g3 a3 q4 q5 q6 => ?_
  simp [hs, m0]
  exact RdP.mkX p3 rfl ⟨.mk 32 ⟨#[]⟩ 0 [] line, by simp, ⟨by simp [ok64], by simp [ok64], htl, trivial⟩, g1.trans g3, fun h => absurd (q4 h).1 hz, by simp only [T.wt, T.wtL, sz0]; omega⟩
def J73 (H : List ABlk) (I : List (Nat × Nat)) (rb ty : Nat) (tk : List Tk) (p : Nat) (e ln : Int) (n : Nat) (s : List AV) (m : List Nat) (st : St) : Prop :=
 ∃ (p1 : Nat) (e1 ln1 : Int) (l : List T) (v : AV) (I' : List (Nat × Nat)), n = mu tk p1 e1 ∧ s.length = 29 ∧ m = [] ∧ lk s 0 = .ptr rb 0 ∧ lk s 3 = v ∧
  st = ⟨H.set rb (.cells ty (RQ tk p1 e1 ln1)), I'⟩ ∧ I <+: I' ∧ AccG I.length I' 5 l.length (T.encL l) v ∧ T.okL1 l ∧ Go1 tk p e p1 e1 ln1 ∧ (e1 = 0 → T.wtL l + pt tk p ≤ pt tk p1) ∧ T.wtL l + pt tk p ≤ pt tk p1 + 9
theorem p_stmts {tk : List Tk} {k : Nat} (hP : Par tk k) {p : Nat} {e ln : Int} (ha : At tk p e ln) (hk : fu tk p e (if e = 0 then 40 else 5) ≤ k + 1) : RdC (k + 1) 73 [] tk p e ln (ListQ tk 9 p e) := by
  intro E H I rb ty hE hr hb
  refine call_in1 rfl rfl (by decide) fun s hs e0 => ?_
  have hkk := fu_k hk
  have hn := ha.n
  have hmu2 : mu tk p e ≤ 2 * tk.length + 1 := by unfold mu; split <;> omega
  simp [hs, e0]
  refine WP_loop (J73 H I rb ty tk p e ln) (mu tk p e) (by unfold fu at hk; omega) ⟨p, e, ln, [], .nils, I, rfl, by simp [hs], rfl, by simp [hs, e0], by simp [hs], rfl, List.prefix_rfl, .inl ⟨rfl, rfl, rfl⟩, trivial, .refl ha, fun _ => by simp only [T.wtL]; omega, by simp only [T.wtL]; omega⟩ ?_
  clear hs e0 s
  rintro _ s m _ ⟨p1, e1, ln1, l, v, I', rfl, hs, rfl, e0, e3, rfl, hI, hacc, hl, g1, hw1, hw2⟩
  have hE' : E.Wf ⟨H, I'⟩ := hE.of (Nat.le_refl _) hI.length_le
  have a1 := ha.to g1
  have mm := pt_mono (tk := tk) g1.1
  have hll := T.len_wtL l
  have hp1 := ha.pt p1
  have fin : RdP H I rb ty tk (ListQ tk 9 p e) (.ok v) ⟨H.set rb (.cells ty (RQ tk p1 e1 ln1)), I'⟩ := RdP.mkJ p1 hI rfl ⟨l, hacc.fin, hl, g1, hw1, hw2⟩
  by_cases hz : e1 = 0
  rotate_left
  · simp [hs, e0, e3, rg0 hb, hz, fin]
  subst hz
  have hw1 := hw1 rfl
  have he : e = 0 := g1.e0 rfl
  subst he
  rw [if_pos rfl] at hk
  have g := tok_eq0 (e := 0) (ln := ln1) (ty := ty) a1.n a1.p (k := k) (by omega) hE' hr hb
  simp only [Tk.enc] at g
  by_cases hkd : (tkAt tk p1).kind = 0
  · simp [hs, e0, e3, rg0 hb, g, hkd, fin]
  have gi := is_eq0 (e := 0) (ln := ln1) (ty := ty) ⟨#[125]⟩ a1.n a1.p (k := k) (by omega) hE' hr hb
  cases hB : isB tk p1 0 ⟨#[125]⟩
  rotate_left
  · rw [hB] at gi
    simp [hs, e0, e3, rg0 hb, g, hkd, gi, fin, blkQ_exit]
  rw [hB] at gi
  have gt := take_eq0 (e := 0) (ln := ln1) (ty := ty) ⟨#[59]⟩ a1.n a1.p (k := k) (by omega) hE' hr hb
  rcases takeF tk p1 0 ⟨#[59]⟩ with ⟨hB2, hT2, hlt, -, hpt⟩ | ⟨hB2, hT2⟩
  · rw [hB2, hT2] at gt
    simp [hs, e0, e3, rg0 hb, g, hkd, gi, gt, blkQ_exit]
    exact ⟨_, by have := mu_adv (tk := tk) (e := 0) (f := 0) (p := p1) (q := p1 + 1) (by omega) hlt; omega, p1 + 1, 0, ln1, l, v, I', rfl, by simp [hs], rfl, by simp [hs, e0], by simp [hs, e3], by simp, hI, hacc, hl, g1.trans (.next a1 hlt), fun _ => by omega, by omega⟩
  rw [hB2, hT2] at gt
  simp [hs, e0, e3, rg0 hb, g, hkd, gi, gt]
  refine (hP.stmt a1 (fu_le g1.1 g1.2.2.2.2 (by omega) hk)).call0 hE' hr hb rfl NodeQ.ref ?_
  rintro _ p2 e2 ln2 ⟨⟨op, ss, nn, l2, line⟩, rfl, ht, g2, hw3, hw4⟩
  obtain ⟨v', I2, happ, hacc2, hI2⟩ := hacc.add hE.rom hI (by omega) (.mk op ss nn l2 line)
  simp only [T.enc] at happ
  simp [hs, e0, e3, happ]
  refine ⟨_, ?_, p2, e2, ln2, l ++ [.mk op ss nn l2 line], v', I2, rfl, by simp [hs], rfl, by simp [hs, e0], by simp [hs], rfl, hI2, hacc2, T.okL1_app hl ⟨ht, trivial⟩, g1.trans g2, fun h => ?_, ?_⟩
  · have : mu tk p2 e2 + 1 ≤ mu tk p1 0 := by
      by_cases h : e2 = 0
      · have := hw3 h
        exact mu_adv (pt_lt (tk := tk) (by simp only [T.wt] at this; omega)) g2.2.1
      · exact mu_err g2.1 h
    omega
  · have := hw3 h
    rw [T.wtL_app]; simp only [T.wtL]; omega
  · rw [T.wtL_app]; simp only [T.wtL]; omega
theorem p_within {tk : List Tk} {k : Nat} (hP : Par tk k) {p : Nat} {e ln : Int} (ha : At tk p e ln) (hk : fu tk p e 41 ≤ k + 1) : RdC (k + 1) 166 [] tk p e ln (NodeQ tk 0 8 10 p e) := by
 intro E H I rb ty hE hr hb
 refine call_in1 rfl rfl (by decide) fun s hs e0 => ?_
 have hkk := fu_k hk
 have m0 := mw_loc0 hE
 have m1 := mw_loc hE
 have g := tok_eq (e := e) (ln := ln) (ty := ty) ha.n ha.p (k := k) (by omega) hE hr hb
 have htl := tkAt_line ha.ok p
 obtain ⟨line, hline⟩ : ∃ x, (tkAt tk p).line = x := ⟨_, rfl⟩
 rw [hline] at htl
 simp only [Tk.enc, hline] at g
 have gi := is_eq (e := e) (ln := ln) (ty := ty) ⟨#[123]⟩ ha.n ha.p (k := k) (by omega) hE hr hb
 cases hB : isB tk p e ⟨#[123]⟩
 rotate_left
 ·rw [hB] at gi
  simp [hs, e0, g, gi, m1]
  refine (hP.block ha (fu_le (Nat.le_refl _) id (by omega) hk)).call hE hr hb _ rfl NodeQ.ref ?_
  rintro _ p2 e2 ln2 ⟨⟨op, ss, nn, l2, line⟩, rfl, ht, g2, hw3, hw4⟩
  simp [hs, e0, m0]
  exact RdP.mkX p2 rfl ⟨.mk op ss nn l2 line, by simp, ht, g2, fun h => by have := hw3 h; omega, by omega⟩
 rw [hB] at gi
 have gt := take_eq (e := e) (ln := ln) (ty := ty) ⟨#[59]⟩ ha.n ha.p (k := k) (by omega) hE hr hb
 rcases takeF tk p e ⟨#[59]⟩ with ⟨hB2, hT2, hlt, rfl, hpt⟩ | ⟨hB2, hT2⟩
 ·rw [hB2, hT2] at gt
  simp [hs, e0, g, gi, gt, m0, m1]
  exact RdP.mkX (p + 1) (by simp) ⟨.mk 32 ⟨#[]⟩ 0 [] line, by simp, ⟨by simp [ok64], by simp [ok64], htl, trivial⟩, .next ha hlt, fun _ => by simp only [T.wt, T.wtL, sz0]; omega, by simp only [T.wt, T.wtL, sz0]; omega⟩
 rw [hB2, hT2] at gt
 have go : ∀ (Y : List ABlk) {P : Rt AV × St → Prop}, (∀ (t : T) p' e' ln', t.ok1 → Go1 tk p e p' e' ln' → (e' = 0 → t.wt + 12 + pt tk p ≤ pt tk p') → t.wt + pt tk p ≤ pt tk p' + 9 → P (.ok (.agg t.enc), ⟨H.set rb (.cells ty (RQ tk (p' : Nat) e' ln')) ++ Y, I⟩)) → obP (doCall (aCall prog k) E .full (.fn 106) [.ptr rb 0] ⟨H.set rb (.cells ty (RQ tk p e ln)) ++ Y, I⟩) P := fun Y P hP2 =>
  (hP.stmt ha (fu_le (Nat.le_refl _) id (by omega) hk)).call hE hr hb _ rfl NodeQ.ref (by
   rintro _ p2 e2 ln2 ⟨t, rfl, ht, g2, hw3, hw4⟩
   exact hP2 t p2 e2 ln2 ht g2 (fun h => by have := hw3 h; omega) hw4)
 by_cases hz : e = 0 ∧ (tkAt tk p).kind = 0
 ·obtain ⟨rfl, hz⟩ := hz
  simp [hs, e0, g, gi, gt, m0, m1, rg hb, hz]
  refine (f74 0 ln true ha.n ha.ok ha.p ha.e ha.ln k (by omega)).call hE hr hb _ rfl stopQ.ref ?_
  rintro _ _ e' ln' ⟨rfl, rfl, q1, q2, q3⟩
  simp [hs, m0, m1]
  exact RdP.mkX _ rfl ⟨.mk 32 ⟨#[]⟩ 0 [] line, by simp, ⟨by simp [ok64], by simp [ok64], htl, trivial⟩, ⟨Nat.le_refl _, ha.p, q2, q3, fun _ => q1⟩, fun h => absurd h q1, by simp only [T.wt, T.wtL, sz0]; omega⟩
 have fin : ∀ (t : T) p' e' ln' (X : List ABlk) (Y : List (Nat × Nat)), t.ok1 → Go1 tk p e p' e' ln' → (e' = 0 → t.wt + 12 + pt tk p ≤ pt tk p') → t.wt + pt tk p ≤ pt tk p' + 9 → RdP H I rb ty tk (NodeQ tk 0 8 10 p e) (.ok (.agg [.int .i64 32, .str ⟨#[]⟩, .int .i64 0, .sl (some I.length) 1 t.enc, .int .i64 line])) ⟨H.set rb (.cells ty (RQ tk (p' : Nat) e' ln')) ++ X, I ++ Y⟩ := fun t p' e' ln' X Y h1 h2 h3 h4 => by
  obtain ⟨op, ss, nn, l2, line2⟩ := t
  exact RdP.mk p' rfl ⟨.mk 32 ⟨#[]⟩ 0 [.mk op ss nn l2 line2] line, by simp, ⟨by simp [ok64], by simp [ok64], htl, h1, trivial⟩, h2, fun h => by have := h3 h; simp only [T.wt, T.wtL, sz0] at *; omega, by simp only [T.wt, T.wtL, sz0] at *; omega⟩
 by_cases hz1 : e = 0
 ·subst hz1
  have hz2 : ¬ (tkAt tk p).kind = 0 := fun h => hz ⟨rfl, h⟩
  simp [hs, e0, g, gi, gt, m0, m1, rg hb, hz2]
  refine go _ fun t p' e' ln' h1 h2 h3 h4 => ?_
  obtain ⟨op, ss, nn, l2, line2⟩ := t
  simp [hs, m0, m1]
  exact fin (.mk op ss nn l2 line2) p' e' ln' _ _ h1 h2 h3 h4
 ·simp [hs, e0, g, gi, gt, m0, m1, rg hb, hz1]
  refine go _ fun t p' e' ln' h1 h2 h3 h4 => ?_
  obtain ⟨op, ss, nn, l2, line2⟩ := t
  simp [hs, m0, m1]
  exact fin (.mk op ss nn l2 line2) p' e' ln' _ _ h1 h2 h3 h4
def N0 (line : Int) : List AV := [.int .i64 0, .str ⟨#[]⟩, .int .i64 0, .nils, .int .i64 line]
def WdP (H : List ABlk) (I : List (Nat × Nat)) (rb ty : Nat) (tk : List Tk) (p : Nat) (e ln line : Int) (r : Rt AV) (st' : St) : Prop :=
 (r = .ok (.bool false) ∧ st' = ⟨H.set rb (.cells ty (RQ tk p e ln)) ++ [.cells 24 (N0 line)], I⟩) ∨
 ∃ (op : Int) (S : ByteArray) (l : List T) (v : AV) (p' : Nat) (e' ln' : Int) (X : List ABlk) (I' : List (Nat × Nat)), r = .ok (.bool true) ∧ st' = ⟨H.set rb (.cells ty (RQ tk p' e' ln')) ++ .cells 24 [.int .i64 op, .str S, .int .i64 0, v, .int .i64 line] :: X, I'⟩ ∧ I <+: I' ∧ v.fin I.length = .sl none l.length (T.encL l) ∧ v.one = true ∧ ok64 op ∧ T.okL1 l ∧ Go1 tk p e p' e' ln' ∧ (e' = 0 → 1 + S.size + T.wtL l + 12 + pt tk p ≤ pt tk p') ∧ 1 + S.size + T.wtL l + pt tk p ≤ pt tk p' + 8
def WdC (k f : Nat) (tk : List Tk) (p : Nat) (e ln : Int) (w : ByteArray) : Prop :=
 ∀ E H I rb ty line, E.Wf ⟨H, I⟩ → E.rob ≤ rb → rb < H.length → ok64 line → CallQ k E f [.ptr rb 0, .ptr H.length 0, .str w] ⟨H.set rb (.cells ty (RQ tk p e ln)) ++ [.cells 24 (N0 line)], I⟩ (WdP H I rb ty tk p e ln line)
theorem app_two {E : Env} {I : List (Nat × Nat)} (hr : E.rom ≤ I.length) {n : Nat} {cs : List AV} (hl : cs.length = n * 5) (hn : n ≤ 1000) (t : T) (Hx : List ABlk) :
  appA E ⟨Hx, I ++ [(n, 5)]⟩ 5 64 (.sl (some I.length) n cs) (.sl none 1 t.enc) = some (.sl (some I.length) (n + 1) (cs ++ t.enc), ⟨Hx, I ++ [(n + 1, 5)]⟩) := by
 have hs : srcA 5 (.sl none 1 t.enc) = some (1, t.enc) := by
  obtain ⟨op, ss, nn, l, line⟩ := t
  simp [srcA]
 rw [app_own hr (by simp) hl hs (by omega) (by omega)]
 rw [List.set_append_right _ _ (Nat.le_refl _)]; simp
@[simp] theorem om5 (j n : Nat) (cs : List AV) (i : Int) : oneMore 5 (.sl (some j) n cs) (.sl none 1 [.int .i64 0, .str ⟨#[]⟩, .int .i64 0, .sl none 0 [], .int .i64 0]) (.int .i64 i) = decide (i = n) := by
 simp [oneMore, srcA]
theorem WdP.mk {H : List ABlk} {I I' : List (Nat × Nat)} {rb ty : Nat} {tk : List Tk} {p : Nat} {e ln line : Int} (l : List T) (p' : Nat) {op e' ln' : Int} {S : ByteArray} {o : Option Nat} {n : Nat} {cs : List AV} {X : List ABlk} (hn : n = l.length) (hc : cs = T.encL l) (hop : ok64 op) (hl : T.okL1 l) (ho : newO I.length o) (hI : I <+: I') (hline : ok64 line) (g : Go1 tk p e p' e' ln') (h1 : e' = 0 → 1 + S.size + T.wtL l + 12 + pt tk p ≤ pt tk p') (h2 : 1 + S.size + T.wtL l + pt tk p ≤ pt tk p' + 8) :
  WdP H I rb ty tk p e ln line (.ok (.bool true)) ⟨H.set rb (.cells ty (RQ tk p' e' ln')) ++ .cells 24 [.int .i64 op, .str S, .int .i64 0, .sl o n cs, .int .i64 line] :: X, I'⟩ := by
 subst hn hc
 exact .inr ⟨op, S, l, _, p', e', ln', X, I', rfl, rfl, hI, by rw [ho.fin, T.encL_fin], rfl, hop, hl, g, h1, h2⟩
theorem WdP.mk0 {H : List ABlk} {I : List (Nat × Nat)} {rb ty : Nat} {tk : List Tk} {p : Nat} {e ln line : Int} (p' : Nat) {op e' ln' : Int} {S : ByteArray} {X : List ABlk} (hop : ok64 op) (g : Go1 tk p e p' e' ln') (h1 : e' = 0 → 1 + S.size + 12 + pt tk p ≤ pt tk p') (h2 : 1 + S.size + pt tk p ≤ pt tk p' + 8) :
  WdP H I rb ty tk p e ln line (.ok (.bool true)) ⟨H.set rb (.cells ty (RQ tk p' e' ln')) ++ .cells 24 [.int .i64 op, .str S, .int .i64 0, .nils, .int .i64 line] :: X, I⟩ :=
 .inr ⟨op, S, [], .nils, p', e', ln', X, I, rfl, rfl, List.prefix_rfl, rfl, rfl, hop, trivial, g, by simpa only [T.wtL, Nat.add_zero] using h1, by simpa only [T.wtL, Nat.add_zero] using h2⟩
theorem newO.no (m : Nat) : newO m none := fun _ h => nomatch h
theorem newO.so (m : Nat) : newO m (some m) := fun _ h => by cases h; exact Nat.le_refl _
section
variable {tk : List Tk} {p : Nat} {e ln : Int} {k : Nat} {E : Env} {H : List ABlk} {I : List (Nat × Nat)} {rb ty : Nat}
theorem name_call (ha : At tk p e ln) (hk : 6 ≤ k) (hE : E.Wf ⟨H, I⟩) (hr : E.rob ≤ rb) (hb : rb < H.length) (l : List ABlk) {P : Rt AV × St → Prop}
  (hp : ∀ S p' e' ln', Go1 tk p e p' e' ln' → At tk p' e' ln' → S.size + pt tk p ≤ pt tk p' → (e' = 0 → S.size + 32 + pt tk p ≤ pt tk p') → P (.ok (.str S), ⟨H.set rb (.cells ty (RQ tk (p' : Nat) e' ln')) ++ l, I⟩)) :
  obP (doCall (aCall prog k) E .full (.fn 164) [.ptr rb 0] ⟨H.set rb (.cells ty (RQ tk p e ln)) ++ l, I⟩) P :=
 (f164 e ln ha.n ha.ok ha.p ha.e ha.ln k hk).call hE hr hb l rfl nameQ.ref (by
  rintro w p' e' ln' ⟨h1, h2, hm⟩
  rcases hm with ⟨h3, h4, h5, rfl, rfl⟩ | ⟨h3, rfl, rfl⟩
  ·have g : Go1 tk p e (p + 1) e' ln' := ⟨by omega, h5, h1, h2, fun h => absurd h4 h⟩
   have := pt_next h5
   exact hp _ _ e' ln' g (ha.to g) (by omega) (fun _ => by omega)
  ·have g : Go1 tk p' e p' e' ln' := ⟨Nat.le_refl _, ha.p, h1, h2, fun _ => h3⟩
   exact hp _ _ e' ln' g (ha.to g) (by rw [sz0]; omega) (fun h => absurd h h3))
theorem end_call (ha : At tk p e ln) (hk : 6 ≤ k) (hE : E.Wf ⟨H, I⟩) (hr : E.rob ≤ rb) (hb : rb < H.length) (l : List ABlk) {P : Rt AV × St → Prop}
  (hp : ∀ p' e' ln', Go1 tk p e p' e' ln' → pt tk p ≤ pt tk p' → P (.ok (.tup []), ⟨H.set rb (.cells ty (RQ tk (p' : Nat) e' ln')) ++ l, I⟩)) :
  obP (doCall (aCall prog k) E .full (.fn 148) [.ptr rb 0] ⟨H.set rb (.cells ty (RQ tk p e ln)) ++ l, I⟩) P :=
 (f148 e ln ha.n ha.ok ha.p ha.e ha.ln k hk).call hE hr hb l rfl endQ'.ref (by
  rintro _ p' e' ln' ⟨rfl, h1, h2, h3, h4, h5, h6⟩
  exact hp p' e' ln' ⟨h3, h4, h1, h2, h6⟩ (pt_mono h3))
end
theorem w_if {tk : List Tk} {k : Nat} (hP : Par tk k) {p : Nat} {e ln : Int} (ha : At tk p e ln) (hlt : p < tk.length) (hk : fu tk p e 34 ≤ k + 1) : WdC (k + 1) 146 tk p e ln ⟨#[105, 102]⟩ := by
 intro E H I rb ty line hE hr hb hline
 refine call_in3 rfl rfl (by decide) fun s hs e0 e1 e2 => ?_
 have hkk := fu_k hk
 have hn := ha.n
 have m0 := mw_loc0 hE
 have m1 := mw_loc hE
 have hw := wrap64 (n := (p : Int) + 1) (by omega)
 have an := ha.next hlt
 have gn := Go1.next ha hlt
 have hpt := pt_next hlt
 have hc : (p : Int) + 1 = ((p + 1 : Nat) : Int) := by omega
 simp [hs, e0, e1, e2, N0, rg hb, rs hb, mw_int hr, m0, hw]
 rw [hc]
 refine (hP.head an (by split <;> exact fu_adv (by omega) hlt (by omega) hk)).call hE hr hb _ rfl NodeQ.ref ?_
 rintro _ p2 e2' ln2 ⟨⟨op, ss, nn, l2, line2⟩, rfl, ht, g2, hw3, hw4⟩
 have a2 := an.to g2
 have hE2 : E.Wf ⟨H, I ++ [(1, 5)]⟩ := hE.of (Nat.le_refl _) (by simp)
 have hE3 : E.Wf ⟨H, I ++ [(2, 5)]⟩ := hE.of (Nat.le_refl _) (by simp)
 simp [hs, e0, e1, e2, m0, Nat.testBit]
 refine (hP.within a2 (fu_adv (by have := g2.1; omega) a2.p (by omega) hk)).call hE2 hr hb _ rfl NodeQ.ref ?_
 rintro _ p3 e3 ln3 ⟨⟨op3, ss3, nn3, l3, line3⟩, rfl, ht3, g3, hw5, hw6⟩
 have a3 := a2.to g3
 have ap2 := app_two hE.rom (cs := (T.mk op ss nn l2 line2).enc) (n := 1) rfl (by omega) (.mk op3 ss3 nn3 l3 line3)
 simp only [T.enc, List.cons_append, List.nil_append] at ap2
 have gt := take_eq (e := e3) (ln := ln3) (ty := ty) ⟨#[101, 108, 115, 101]⟩ a3.n a3.p (k := k) (by omega) hE3 hr hb
 rcases takeF tk p3 e3 ⟨#[101, 108, 115, 101]⟩ with ⟨hB, hT, hlt3, rfl, hpt3⟩ | ⟨hB, hT⟩
 rotate_left
 ·rw [hB, hT] at gt
  simp [hs, e0, e1, e2, m0, ap2, Nat.testBit, gt]
  refine WdP.mk [.mk op ss nn l2 line2, .mk op3 ss3 nn3 l3 line3] p3 rfl (by simp [T.encL]) (by simp [ok64]) ⟨ht, ht3, trivial⟩ (.so _) (List.prefix_append _ _) hline (gn.trans (g2.trans g3)) (fun h => ?_) ?_
  ·have := hw5 h
   have := hw3 (g3.e0 h)
   simp only [T.wtL, sz0]; omega
  ·simp only [T.wtL, sz0]; omega
 rw [hB, hT] at gt
 have a4 := a3.next hlt3
 have hc3 : (p3 : Int) + 1 = ((p3 + 1 : Nat) : Int) := by omega
 have g4 := Go1.next a3 hlt3
 simp [hs, e0, e1, e2, m0, ap2, Nat.testBit, gt]
 rw [hc3]
 refine (hP.within a4 (fu_adv (by have := g2.1; have := g3.1; omega) a4.p (by omega) hk)).call hE3 hr hb _ rfl NodeQ.ref ?_
 rintro _ p5 e5 ln5 ⟨⟨op5, ss5, nn5, l5, line5⟩, rfl, ht5, g5, hw7, hw8⟩
 have ap3 := app_two hE.rom (cs := T.encL [T.mk op ss nn l2 line2, .mk op3 ss3 nn3 l3 line3]) (n := 2) rfl (by omega) (.mk op5 ss5 nn5 l5 line5)
 simp only [T.enc, T.encL, List.cons_append, List.nil_append] at ap3
 simp [hs, e0, e1, e2, m0, ap3, Nat.testBit]
 refine WdP.mk [.mk op ss nn l2 line2, .mk op3 ss3 nn3 l3 line3, .mk op5 ss5 nn5 l5 line5] p5 rfl (by simp [T.encL]) (by simp [ok64]) ⟨ht, ht3, ht5, trivial⟩ (.so _) (List.prefix_append _ _) hline (gn.trans (g2.trans (g3.trans (g4.trans g5)))) (fun h => ?_) ?_
 ·have := hw7 h
  have := hw5 (g5.e0 h)
  have := hw3 (g3.e0 (g5.e0 h))
  simp only [T.wtL, sz0]; omega
 ·simp only [T.wtL, sz0]; omega
theorem w_while {tk : List Tk} {k : Nat} (hP : Par tk k) {p : Nat} {e ln : Int} (ha : At tk p e ln) (hlt : p < tk.length) (hk : fu tk p e 34 ≤ k + 1) : WdC (k + 1) 146 tk p e ln ⟨#[119, 104, 105, 108, 101]⟩ := by
 intro E H I rb ty line hE hr hb hline
 refine call_in3 rfl rfl (by decide) fun s hs e0 e1 e2 => ?_
 have hkk := fu_k hk
 have hn := ha.n
 have m0 := mw_loc0 hE
 have m1 := mw_loc hE
 have hw := wrap64 (n := (p : Int) + 1) (by omega)
 have an := ha.next hlt
 have gn := Go1.next ha hlt
 have hpt := pt_next hlt
 have hc : (p : Int) + 1 = ((p + 1 : Nat) : Int) := by omega
 simp [hs, e0, e1, e2, N0, rg hb, rs hb, mw_int hr, m0, hw]
 rw [hc]
 refine (hP.head an (by split <;> exact fu_adv (by omega) hlt (by omega) hk)).call hE hr hb _ rfl NodeQ.ref ?_
 rintro _ p2 e2' ln2 ⟨⟨op, ss, nn, l2, line2⟩, rfl, ht, g2, hw3, hw4⟩
 have a2 := an.to g2
 have hE2 : E.Wf ⟨H, I ++ [(1, 5)]⟩ := hE.of (Nat.le_refl _) (by simp)
 simp [hs, e0, e1, e2, m0, Nat.testBit]
 refine (hP.within a2 (fu_adv (by have := g2.1; omega) a2.p (by omega) hk)).call hE2 hr hb _ rfl NodeQ.ref ?_
 rintro _ p3 e3 ln3 ⟨⟨op3, ss3, nn3, l3, line3⟩, rfl, ht3, g3, hw5, hw6⟩
 have ap2 := app_two hE.rom (cs := (T.mk op ss nn l2 line2).enc) (n := 1) rfl (by omega) (.mk op3 ss3 nn3 l3 line3)
 simp only [T.enc, List.cons_append, List.nil_append] at ap2
 simp [hs, e0, e1, e2, m0, ap2, Nat.testBit]
 refine WdP.mk [.mk op ss nn l2 line2, .mk op3 ss3 nn3 l3 line3] p3 rfl (by simp [T.encL]) (by simp [ok64]) ⟨ht, ht3, trivial⟩ (.so _) (List.prefix_append _ _) hline (gn.trans (g2.trans g3)) (fun h => ?_) ?_
 ·have := hw5 h
  have := hw3 (g3.e0 h)
  simp only [T.wtL, sz0]; omega
 ·simp only [T.wtL, sz0]; omega
theorem w_var {tk : List Tk} {k : Nat} (hP : Par tk k) {p : Nat} {e ln : Int} (ha : At tk p e ln) (hlt : p < tk.length) (hk : fu tk p e 34 ≤ k + 1) : WdC (k + 1) 146 tk p e ln ⟨#[118, 97, 114]⟩ := by
 intro E H I rb ty line hE hr hb hline
 refine call_in3 rfl rfl (by decide) fun s hs e0 e1 e2 => ?_
 have hkk := fu_k hk
 have hn := ha.n
 have m0 := mw_loc0 hE
 have m1 := mw_loc hE
 have hw := wrap64 (n := (p : Int) + 1) (by omega)
 have an := ha.next hlt
 have gn := Go1.next ha hlt
 have hpt := pt_next hlt
 have hc : (p : Int) + 1 = ((p + 1 : Nat) : Int) := by omega
 simp [hs, e0, e1, e2, N0, rg hb, rs hb, mw_int hr, m0, hw]
 rw [hc]
 refine name_call an (by omega) hE hr hb _ fun S p2 e2' ln2 g2 a2 q1 q2 => ?_
 have gt := take_eq (e := e2') (ln := ln2) (ty := ty) ⟨#[61]⟩ a2.n a2.p (k := k) (by omega) hE hr hb
 have hE2 : E.Wf ⟨H, I ++ [(1, 5)]⟩ := hE.of (Nat.le_refl _) (by simp)
 rcases takeF tk p2 e2' ⟨#[61]⟩ with ⟨hB, hT, hlt3, rfl, hpt3⟩ | ⟨hB, hT⟩
 rotate_left
 ·rw [hB, hT] at gt
  simp [hs, e0, e1, e2, m0, gt]
  refine end_call a2 (by omega) hE hr hb _ fun p3 e3 ln3 g3 q3 => ?_
  simp [hs]
  refine WdP.mk0 p3 ?_ (gn.trans (g2.trans g3)) (fun h => ?_) ?_
  ·simp [ok64]
  ·have := q2 (g3.e0 h); omega
  ·omega
 rw [hB, hT] at gt
 have a3 := a2.next hlt3
 have g3 := Go1.next a2 hlt3
 have hc3 : (p2 : Int) + 1 = ((p2 + 1 : Nat) : Int) := by omega
 simp [hs, e0, e1, e2, m0, gt]
 rw [hc3]
 refine (hP.expr a3 (fu_adv (by have := g2.1; omega) a3.p (by omega) hk)).call hE hr hb _ rfl NodeQ.ref ?_
 rintro _ p4 e4 ln4 ⟨⟨op, ss, nn, l2, line2⟩, rfl, ht, g4, hw3, hw4⟩
 simp [hs, e0, e1, e2, m0]
 refine end_call (a3.to g4) (by omega) hE2 hr hb _ fun p5 e5 ln5 g5 q3 => ?_
 simp [hs]
 exact WdP.mk [.mk op ss nn l2 line2] p5 rfl (by simp [T.encL]) (by simp [ok64]) ⟨ht, trivial⟩ (.so _) (List.prefix_append _ _) hline (gn.trans (g2.trans (g3.trans (g4.trans g5)))) (fun h => by have := hw3 (g5.e0 h); have := q2 rfl; simp only [T.wtL]; omega) (by simp only [T.wtL]; omega)
theorem w_try {tk : List Tk} {k : Nat} (hP : Par tk k) {p : Nat} {e ln : Int} (ha : At tk p e ln) (hlt : p < tk.length) (hk : fu tk p e 34 ≤ k + 1) : WdC (k + 1) 146 tk p e ln ⟨#[116, 114, 121]⟩ := by
 intro E H I rb ty line hE hr hb hline
 refine call_in3 rfl rfl (by decide) fun s hs e0 e1 e2 => ?_
 have hkk := fu_k hk
 have hn := ha.n
 have m0 := mw_loc0 hE
 have m1 := mw_loc hE
 have hw := wrap64 (n := (p : Int) + 1) (by omega)
 have an := ha.next hlt
 have gn := Go1.next ha hlt
 have hpt := pt_next hlt
 have hc : (p : Int) + 1 = ((p + 1 : Nat) : Int) := by omega
 simp [hs, e0, e1, e2, N0, rg hb, rs hb, mw_int hr, m0, hw]
 rw [hc]
 refine (hP.block an (fu_adv (by omega) hlt (by omega) hk)).call hE hr hb _ rfl NodeQ.ref ?_
 rintro _ p2 e2' ln2 ⟨⟨op, ss, nn, l2, line2⟩, rfl, ht, g2, hw3, hw4⟩
 have a2 := an.to g2
 have hE2 : E.Wf ⟨H, I ++ [(1, 5)]⟩ := hE.of (Nat.le_refl _) (by simp)
 simp [hs, e0, e1, e2, m0]
 refine must_call a2 _ (by omega) hE2 hr hb _ fun p3 e3 ln3 g3 a3 q1 q2 q3 => ?_
 simp [hs, e0, e1, e2, m0]
 refine must_call a3 _ (by omega) hE2 hr hb _ fun p4 e4 ln4 g4 a4 q4 q5 q6 => ?_
 simp [hs, e0, e1, e2, m0]
 refine name_call a4 (by omega) hE2 hr hb _ fun S p5 e5 ln5 g5 a5 q7 q8 => ?_
 simp [hs, e0, e1, e2, m0]
 refine must_call a5 _ (by omega) hE2 hr hb _ fun p6 e6 ln6 g6 a6 q9 q10 q11 => ?_
 simp [hs, e0, e1, e2, m0, Nat.testBit]
 refine (hP.block a6 (fu_adv (by have := g2.1; have := g3.1; have := g4.1; have := g5.1; have := g6.1; omega) a6.p (by omega) hk)).call hE2 hr hb _ rfl NodeQ.ref ?_
 rintro _ p7 e7 ln7 ⟨⟨op3, ss3, nn3, l3, line3⟩, rfl, ht3, g7, hw5, hw6⟩
 have ap2 := app_two hE.rom (cs := (T.mk op ss nn l2 line2).enc) (n := 1) rfl (by omega) (.mk op3 ss3 nn3 l3 line3)
 simp only [T.enc, List.cons_append, List.nil_append] at ap2
 simp [hs, e0, e1, e2, m0, ap2, Nat.testBit]
 refine WdP.mk [.mk op ss nn l2 line2, .mk op3 ss3 nn3 l3 line3] p7 rfl (by simp [T.encL]) (by simp [ok64]) ⟨ht, ht3, trivial⟩ (.so _) (List.prefix_append _ _) hline (gn.trans (g2.trans (g3.trans (g4.trans (g5.trans (g6.trans g7)))))) (fun h => ?_) ?_
 ·have h7 := hw5 h
  have h6 := g7.e0 h
  have h5 := g6.e0 h6
  have h4 := g5.e0 h5
  have h3 := g4.e0 h4
  have := hw3 (g3.e0 h3)
  simp only [T.wtL]; omega
 ·simp only [T.wtL]; omega
theorem w_function {tk : List Tk} {k : Nat} (hP : Par tk k) {p : Nat} {e ln : Int} (ha : At tk p e ln) (hlt : p < tk.length) (hk : fu tk p e 34 ≤ k + 1) : WdC (k + 1) 146 tk p e ln ⟨#[102, 117, 110, 99, 116, 105, 111, 110]⟩ := by
 intro E H I rb ty line hE hr hb hline
 refine call_in3 rfl rfl (by decide) fun s hs e0 e1 e2 => ?_
 have hkk := fu_k hk
 have hn := ha.n
 have m0 := mw_loc0 hE
 have m1 := mw_loc hE
 have hw := wrap64 (n := (p : Int) + 1) (by omega)
 have an := ha.next hlt
 have gn := Go1.next ha hlt
 have hpt := pt_next hlt
 have hc : (p : Int) + 1 = ((p + 1 : Nat) : Int) := by omega
 simp [hs, e0, e1, e2, N0, rg hb, rs hb, mw_int hr, m0, hw]
 rw [hc]
 refine name_call an (by omega) hE hr hb _ fun S p2 e2' ln2 g2 a2 q1 q2 => ?_
 simp [hs, e0, e1, e2, m0]
 refine (hP.rest a2 (fu_adv (by have := g2.1; omega) a2.p (by omega) hk)).call hE hr hb _ rfl ListQ.ref ?_
 rintro _ p3 e3 ln3 ⟨l3, rfl, ht3, g3, hw5, hw6⟩
 simp [hs, e0, e1, e2, m0]
 refine WdP.mk l3 p3 rfl rfl ?_ ht3 (.no _) List.prefix_rfl hline (gn.trans (g2.trans g3)) (fun h => ?_) ?_
 ·simp [ok64]
 ·have := hw5 h
  omega
 ·omega
theorem w_for {tk : List Tk} {k : Nat} (hP : Par tk k) {p : Nat} {e ln : Int} (ha : At tk p e ln) (hlt : p < tk.length) (hk : fu tk p e 34 ≤ k + 1) : WdC (k + 1) 146 tk p e ln ⟨#[102, 111, 114]⟩ := by
 intro E H I rb ty line hE hr hb hline
 refine call_in3 rfl rfl (by decide) fun s hs e0 e1 e2 => ?_
 have hkk := fu_k hk
 have hn := ha.n
 have m0 := mw_loc0 hE
 have m1 := mw_loc hE
 have hw := wrap64 (n := (p : Int) + 1) (by omega)
 have an := ha.next hlt
 have gn := Go1.next ha hlt
 have hpt := pt_next hlt
 have hc : (p : Int) + 1 = ((p + 1 : Nat) : Int) := by omega
 simp [hs, e0, e1, e2, N0, rg hb, rs hb, mw_int hr, m0, hw]
 rw [hc]
 refine must_call an _ (by omega) hE hr hb _ fun p1 e1' ln1 g1 a1 q1 q2 q3 => ?_
 have gt := take_eq (e := e1') (ln := ln1) (ty := ty) ⟨#[118, 97, 114]⟩ a1.n a1.p (k := k) (by omega) hE hr hb
 have g := tok_eq (e := e1') (ln := ln1) (ty := ty) a1.n a1.p (k := k) (by omega) hE hr hb
 simp only [Tk.enc] at g
 have hc1 : (p1 : Int) + 1 = ((p1 + 1 : Nat) : Int) := by omega
 have fl : ∀ (e2' ln2 : Int) (Y : List ABlk) {P : Rt AV × St → Prop}, Go1 tk p1 e1' p1 e2' ln2 → (∀ p' e3 ln3, Go1 tk p1 e1' p' e3 ln3 → At tk p' e3 ln3 → P (.ok (.tup []), ⟨H.set rb (.cells ty (RQ tk (p' : Nat) e3 ln3)) ++ Y, I⟩)) → obP (doCall (aCall prog k) E .full (.fn 107) [.ptr rb 0, .int .i64 47] ⟨H.set rb (.cells ty (RQ tk p1 e2' ln2)) ++ Y, I⟩) P := fun e2' ln2 Y P g2 hP2 =>
  (f107 e2' ln2 47 a1.n a1.ok a1.p g2.2.2.2.1 k (by omega)).call hE hr hb Y rfl (failQ.ref rfl) (by
   rintro _ p' e' ln' ⟨rfl, rfl, h1, h2⟩
   have g3 : Go1 tk p' e1' p' e' ln' := by
    refine ⟨Nat.le_refl _, a1.p, ?_, h2, fun h => ?_⟩
    ·rw [h1]; split
     ·simp [ok64]
     ·exact g2.2.2.1
    ·rw [h1]; split
     ·omega
     ·exact g2.2.2.2.2 h
   exact hP2 p' e' ln' g3 (a1.to g3))
 rcases takeF tk p1 e1' ⟨#[118, 97, 114]⟩ with ⟨hB, hT, hlt1, rfl, hpt1⟩ | ⟨hB, hT⟩
 ·rw [hB, hT] at gt
  have a2 := a1.next hlt1
  have g2 := Go1.next a1 hlt1
  simp [hs, e0, e1, e2, m0, gt]
  rw [hc1]
  have mm2 := pt_mono (tk := tk) g2.1
  refine name_call a2 (by omega) hE hr hb _ fun S p3 e3 ln3 g3 a3 q4 q5 => ?_
  simp [hs, e0, e1, e2, m0]
  refine must_call a3 _ (by omega) hE hr hb _ fun p4 e4 ln4 g4 a4 q6 q7 q8 => ?_
  simp [hs, e0, e1, e2, m0]
  refine (hP.expr a4 (fu_adv (by have := g1.1; have := g2.1; have := g3.1; have := g4.1; omega) a4.p (by omega) hk)).call hE hr hb _ rfl NodeQ.ref ?_
  rintro _ p5 e5 ln5 ⟨⟨op, ss, nn, l2, line2⟩, rfl, ht, g5, hw3, hw4⟩
  have a5 := a4.to g5
  have hE2 : E.Wf ⟨H, I ++ [(1, 5)]⟩ := hE.of (Nat.le_refl _) (by simp)
  simp [hs, e0, e1, e2, m0]
  refine must_call a5 _ (by omega) hE2 hr hb _ fun p6 e6 ln6 g6 a6 q9 q10 q11 => ?_
  simp [hs, e0, e1, e2, m0, Nat.testBit]
  refine (hP.within a6 (fu_adv (by have := g1.1; have := g2.1; have := g3.1; have := g4.1; have := g5.1; have := g6.1; omega) a6.p (by omega) hk)).call hE2 hr hb _ rfl NodeQ.ref ?_
  rintro _ p7 e7 ln7 ⟨⟨op3, ss3, nn3, l3, line3⟩, rfl, ht3, g7, hw5, hw6⟩
  have ap2 := app_two hE.rom (cs := (T.mk op ss nn l2 line2).enc) (n := 1) rfl (by omega) (.mk op3 ss3 nn3 l3 line3)
  simp only [T.enc, List.cons_append, List.nil_append] at ap2
  simp [hs, e0, e1, e2, m0, ap2, Nat.testBit]
  refine WdP.mk [.mk op ss nn l2 line2, .mk op3 ss3 nn3 l3 line3] p7 rfl (by simp [T.encL]) (by simp [ok64]) ⟨ht, ht3, trivial⟩ (.so _) (List.prefix_append _ _) hline (gn.trans (g1.trans (g2.trans (g3.trans (g4.trans (g5.trans (g6.trans g7))))))) (fun h => ?_) ?_
  ·have h7 := hw5 h
   have h6 := g7.e0 h
   have := hw3 (g6.e0 h6)
   simp only [T.wtL]; omega
  ·simp only [T.wtL]; omega
 rw [hB, hT] at gt
 by_cases hz : (tkAt tk p1).kind = 0
 ·simp [hs, e0, e1, e2, m0, gt, g, hz]
  refine (f74 e1' ln1 false a1.n a1.ok a1.p a1.e a1.ln k (by omega)).call hE hr hb _ rfl stopQ.ref ?_
  rintro _ _ e' ln' ⟨rfl, rfl, h1, h2, h3⟩
  simp [hs, e0, e1, e2]
  refine fl e' ln' _ ⟨Nat.le_refl _, a1.p, h2, h3, fun _ => h1⟩ fun p2 e2' ln2 g2 a2 => ?_
  simp [hs, e0, e1, e2, m0]
  have mm2 := pt_mono (tk := tk) g2.1
  refine name_call a2 (by omega) hE hr hb _ fun S p3 e3 ln3 g3 a3 q4 q5 => ?_
  simp [hs, e0, e1, e2, m0]
  refine must_call a3 _ (by omega) hE hr hb _ fun p4 e4 ln4 g4 a4 q6 q7 q8 => ?_
  simp [hs, e0, e1, e2, m0]
  refine (hP.expr a4 (fu_adv (by have := g1.1; have := g2.1; have := g3.1; have := g4.1; omega) a4.p (by omega) hk)).call hE hr hb _ rfl NodeQ.ref ?_
  rintro _ p5 e5 ln5 ⟨⟨op, ss, nn, l2, line2⟩, rfl, ht, g5, hw3, hw4⟩
  have a5 := a4.to g5
  have hE2 : E.Wf ⟨H, I ++ [(1, 5)]⟩ := hE.of (Nat.le_refl _) (by simp)
  simp [hs, e0, e1, e2, m0]
  refine must_call a5 _ (by omega) hE2 hr hb _ fun p6 e6 ln6 g6 a6 q9 q10 q11 => ?_
  simp [hs, e0, e1, e2, m0, Nat.testBit]
  refine (hP.within a6 (fu_adv (by have := g1.1; have := g2.1; have := g3.1; have := g4.1; have := g5.1; have := g6.1; omega) a6.p (by omega) hk)).call hE2 hr hb _ rfl NodeQ.ref ?_
  rintro _ p7 e7 ln7 ⟨⟨op3, ss3, nn3, l3, line3⟩, rfl, ht3, g7, hw5, hw6⟩
  have ap2 := app_two hE.rom (cs := (T.mk op ss nn l2 line2).enc) (n := 1) rfl (by omega) (.mk op3 ss3 nn3 l3 line3)
  simp only [T.enc, List.cons_append, List.nil_append] at ap2
  simp [hs, e0, e1, e2, m0, ap2, Nat.testBit]
  refine WdP.mk [.mk op ss nn l2 line2, .mk op3 ss3 nn3 l3 line3] p7 rfl (by simp [T.encL]) (by simp [ok64]) ⟨ht, ht3, trivial⟩ (.so _) (List.prefix_append _ _) hline (gn.trans (g1.trans (g2.trans (g3.trans (g4.trans (g5.trans (g6.trans g7))))))) (fun h => ?_) ?_
  ·have h7 := hw5 h
   have h6 := g7.e0 h
   have := hw3 (g6.e0 h6)
   simp only [T.wtL]; omega
  ·simp only [T.wtL]; omega
 ·simp [hs, e0, e1, e2, m0, gt, g, hz]
  refine fl e1' ln1 _ (.refl a1) fun p2 e2' ln2 g2 a2 => ?_
  simp [hs, e0, e1, e2, m0]
  have mm2 := pt_mono (tk := tk) g2.1
  refine name_call a2 (by omega) hE hr hb _ fun S p3 e3 ln3 g3 a3 q4 q5 => ?_
  simp [hs, e0, e1, e2, m0]
  refine must_call a3 _ (by omega) hE hr hb _ fun p4 e4 ln4 g4 a4 q6 q7 q8 => ?_
  simp [hs, e0, e1, e2, m0]
  refine (hP.expr a4 (fu_adv (by have := g1.1; have := g2.1; have := g3.1; have := g4.1; omega) a4.p (by omega) hk)).call hE hr hb _ rfl NodeQ.ref ?_
  rintro _ p5 e5 ln5 ⟨⟨op, ss, nn, l2, line2⟩, rfl, ht, g5, hw3, hw4⟩
  have a5 := a4.to g5
  have hE2 : E.Wf ⟨H, I ++ [(1, 5)]⟩ := hE.of (Nat.le_refl _) (by simp)
  simp [hs, e0, e1, e2, m0]
  refine must_call a5 _ (by omega) hE2 hr hb _ fun p6 e6 ln6 g6 a6 q9 q10 q11 => ?_
  simp [hs, e0, e1, e2, m0, Nat.testBit]
  refine (hP.within a6 (fu_adv (by have := g1.1; have := g2.1; have := g3.1; have := g4.1; have := g5.1; have := g6.1; omega) a6.p (by omega) hk)).call hE2 hr hb _ rfl NodeQ.ref ?_
  rintro _ p7 e7 ln7 ⟨⟨op3, ss3, nn3, l3, line3⟩, rfl, ht3, g7, hw5, hw6⟩
  have ap2 := app_two hE.rom (cs := (T.mk op ss nn l2 line2).enc) (n := 1) rfl (by omega) (.mk op3 ss3 nn3 l3 line3)
  simp only [T.enc, List.cons_append, List.nil_append] at ap2
  simp [hs, e0, e1, e2, m0, ap2, Nat.testBit]
  refine WdP.mk [.mk op ss nn l2 line2, .mk op3 ss3 nn3 l3 line3] p7 rfl (by simp [T.encL]) (by simp [ok64]) ⟨ht, ht3, trivial⟩ (.so _) (List.prefix_append _ _) hline (gn.trans (g1.trans (g2.trans (g3.trans (g4.trans (g5.trans (g6.trans g7))))))) (fun h => ?_) ?_
  ·have h7 := hw5 h
   have h6 := g7.e0 h
   have := hw3 (g6.e0 h6)
   simp only [T.wtL]; omega
  ·simp only [T.wtL]; omega
theorem w_break {tk : List Tk} {k : Nat} (hP : Par tk k) {p : Nat} {e ln : Int} (ha : At tk p e ln) (hlt : p < tk.length) (hk : fu tk p e 33 ≤ k + 1) : WdC (k + 1) 168 tk p e ln ⟨#[98, 114, 101, 97, 107]⟩ := by
 intro E H I rb ty line hE hr hb hline
 refine call_in3 rfl rfl (by decide) fun s hs e0 e1 e2 => ?_
 have hkk := fu_k hk
 have hn := ha.n
 have m0 := mw_loc0 hE
 have m1 := mw_loc hE
 have hw := wrap64 (n := (p : Int) + 1) (by omega)
 have an := ha.next hlt
 have gn := Go1.next ha hlt
 have hpt := pt_next hlt
 have hc : (p : Int) + 1 = ((p + 1 : Nat) : Int) := by omega
 simp [hs, e0, e1, e2, N0, rg hb, rs hb, mw_int hr, m0, hw]
 rw [hc]
 refine end_call an (by omega) hE hr hb _ fun p2 e2' ln2 g2 q2 => ?_
 simp [hs]
 refine WdP.mk0 p2 ?_ (gn.trans g2) (fun h => ?_) ?_
 ·simp [ok64]
 ·simp only [T.wtL, sz0]; omega
 ·simp only [T.wtL, sz0]; omega
theorem w_continue {tk : List Tk} {k : Nat} (hP : Par tk k) {p : Nat} {e ln : Int} (ha : At tk p e ln) (hlt : p < tk.length) (hk : fu tk p e 33 ≤ k + 1) : WdC (k + 1) 168 tk p e ln ⟨#[99, 111, 110, 116, 105, 110, 117, 101]⟩ := by
 intro E H I rb ty line hE hr hb hline
 refine call_in3 rfl rfl (by decide) fun s hs e0 e1 e2 => ?_
 have hkk := fu_k hk
 have hn := ha.n
 have m0 := mw_loc0 hE
 have m1 := mw_loc hE
 have hw := wrap64 (n := (p : Int) + 1) (by omega)
 have an := ha.next hlt
 have gn := Go1.next ha hlt
 have hpt := pt_next hlt
 have hc : (p : Int) + 1 = ((p + 1 : Nat) : Int) := by omega
 simp [hs, e0, e1, e2, N0, rg hb, rs hb, mw_int hr, m0, hw]
 rw [hc]
 refine end_call an (by omega) hE hr hb _ fun p2 e2' ln2 g2 q2 => ?_
 simp [hs]
 refine WdP.mk0 p2 ?_ (gn.trans g2) (fun h => ?_) ?_
 ·simp [ok64]
 ·simp only [T.wtL, sz0]; omega
 ·simp only [T.wtL, sz0]; omega
theorem w_throw {tk : List Tk} {k : Nat} (hP : Par tk k) {p : Nat} {e ln : Int} (ha : At tk p e ln) (hlt : p < tk.length) (hk : fu tk p e 33 ≤ k + 1) : WdC (k + 1) 168 tk p e ln ⟨#[116, 104, 114, 111, 119]⟩ := by
 intro E H I rb ty line hE hr hb hline
 refine call_in3 rfl rfl (by decide) fun s hs e0 e1 e2 => ?_
 have hkk := fu_k hk
 have hn := ha.n
 have m0 := mw_loc0 hE
 have m1 := mw_loc hE
 have hw := wrap64 (n := (p : Int) + 1) (by omega)
 have an := ha.next hlt
 have gn := Go1.next ha hlt
 have hpt := pt_next hlt
 have hc : (p : Int) + 1 = ((p + 1 : Nat) : Int) := by omega
 have g := tok_eq (e := e) (ln := ln) (ty := ty) an.n an.p (k := k) (by omega) hE hr hb
 simp only [Tk.enc, ← hc] at g
 cases hnl : (tkAt tk (p + 1)).nl
 ·rw [hnl] at g
  simp [hs, e0, e1, e2, N0, rg hb, rs hb, mw_int hr, m0, hw, g]
  rw [hc]
  refine (hP.expr an (fu_adv (by omega) an.p (by omega) hk)).call hE hr hb _ rfl NodeQ.ref ?_
  rintro _ p4 e4 ln4 ⟨⟨op, ss, nn, l2, line2⟩, rfl, ht, g4, hw3, hw4⟩
  have hE2 : E.Wf ⟨H, I ++ [(1, 5)]⟩ := hE.of (Nat.le_refl _) (by simp)
  simp [hs, e0, e1, e2, m0]
  refine end_call (an.to g4) (by omega) hE2 hr hb _ fun p5 e5 ln5 g5 q3 => ?_
  simp [hs]
  refine WdP.mk [.mk op ss nn l2 line2] p5 rfl (by simp [T.encL]) (by simp [ok64]) ⟨ht, trivial⟩ (.so _) (List.prefix_append _ _) hline (gn.trans (g4.trans g5)) (fun h => ?_) ?_
  ·have := hw3 (g5.e0 h); simp only [T.wtL, sz0]; omega
  ·simp only [T.wtL, sz0]; omega
 ·rw [hnl] at g
  simp [hs, e0, e1, e2, N0, rg hb, rs hb, mw_int hr, m0, hw, g]
  rw [hc]
  refine (f74 e ln false an.n an.ok an.p an.e an.ln k (by omega)).call hE hr hb _ rfl stopQ.ref ?_
  rintro _ p2 e' ln' ⟨rfl, rfl, h1, h2, h3⟩
  have gs : Go1 tk (p + 1) e (p + 1) e' ln' := ⟨Nat.le_refl _, an.p, h2, h3, fun _ => h1⟩
  have zq := an.to gs
  simp [hs, e0, e1, e2, m0]
  rw [hc]
  refine (hP.expr zq (fu_adv (by omega) zq.p (by omega) hk)).call hE hr hb _ rfl NodeQ.ref ?_
  rintro _ p4 e4 ln4 ⟨⟨op, ss, nn, l2, line2⟩, rfl, ht, g4, hw3, hw4⟩
  have hE2 : E.Wf ⟨H, I ++ [(1, 5)]⟩ := hE.of (Nat.le_refl _) (by simp)
  simp [hs, e0, e1, e2, m0]
  refine end_call (zq.to g4) (by omega) hE2 hr hb _ fun p5 e5 ln5 g5 q3 => ?_
  simp [hs]
  refine WdP.mk [.mk op ss nn l2 line2] p5 rfl (by simp [T.encL]) (by simp [ok64]) ⟨ht, trivial⟩ (.so _) (List.prefix_append _ _) hline ((gn.trans gs).trans (g4.trans g5)) (fun h => ?_) ?_
  ·have := hw3 (g5.e0 h); simp only [T.wtL, sz0]; omega
  ·simp only [T.wtL, sz0]; omega
theorem w_return {tk : List Tk} {k : Nat} (hP : Par tk k) {p : Nat} {e ln : Int} (ha : At tk p e ln) (hlt : p < tk.length) (hk : fu tk p e 33 ≤ k + 1) : WdC (k + 1) 168 tk p e ln ⟨#[114, 101, 116, 117, 114, 110]⟩ := by
 intro E H I rb ty line hE hr hb hline
 refine call_in3 rfl rfl (by decide) fun s hs e0 e1 e2 => ?_
 have hkk := fu_k hk
 have hn := ha.n
 have m0 := mw_loc0 hE
 have m1 := mw_loc hE
 have hw := wrap64 (n := (p : Int) + 1) (by omega)
 have an := ha.next hlt
 have gn := Go1.next ha hlt
 have hpt := pt_next hlt
 have hc : (p : Int) + 1 = ((p + 1 : Nat) : Int) := by omega
 have g := tok_eq (e := e) (ln := ln) (ty := ty) an.n an.p (k := k) (by omega) hE hr hb
 obtain ⟨⟨tkd, ts, tn, tl, tnl⟩, htt⟩ : ∃ t, tkAt tk (p + 1) = t := ⟨_, rfl⟩
 rw [htt] at g
 simp only [Tk.enc, ← hc] at g
 have hcase : (¬ tkd = 0 ∧ tnl = false ∧ ¬ (tkd = 5 ∧ (ts = ⟨#[59]⟩ ∨ ts = ⟨#[125]⟩))) ∨ tkd = 0 ∨ (¬ tkd = 0 ∧ tnl = true) ∨ (tkd = 5 ∧ tnl = false ∧ ts = ⟨#[59]⟩) ∨ (tkd = 5 ∧ tnl = false ∧ ts = ⟨#[125]⟩) := by
  by_cases h0 : tkd = 0
  ·exact .inr (.inl h0)
  cases tnl
  ·by_cases h5 : tkd = 5
   ·by_cases h1 : ts = ⟨#[59]⟩
    ·exact .inr (.inr (.inr (.inl ⟨h5, rfl, h1⟩)))
    ·by_cases h2 : ts = ⟨#[125]⟩
     ·exact .inr (.inr (.inr (.inr ⟨h5, rfl, h2⟩)))
     ·exact .inl ⟨h0, rfl, fun h => h.2.elim h1 h2⟩
   ·exact .inl ⟨h0, rfl, fun h => h5 h.1⟩
  ·exact .inr (.inr (.inl ⟨h0, rfl⟩))
 rcases hcase with ⟨h0, rfl, h5⟩ | rfl | ⟨h0, rfl⟩ | ⟨rfl, rfl, rfl⟩ | ⟨rfl, rfl, rfl⟩
 ·by_cases h : tkd = 5
  ·have h1 : ¬ ts = ⟨#[59]⟩ := fun q => h5 ⟨h, .inl q⟩
   have h2 : ¬ ts = ⟨#[125]⟩ := fun q => h5 ⟨h, .inr q⟩
   subst h
   simp [hs, e0, e1, e2, N0, rg hb, rs hb, mw_int hr, m0, m1, hw, g, h1, h2]
   rw [hc]
   refine (hP.expr an (fu_adv (by omega) an.p (by omega) hk)).call hE hr hb _ rfl NodeQ.ref ?_
   rintro _ p4 e4 ln4 ⟨⟨op, ss, nn, l2, line2⟩, rfl, ht, g4, hw3, hw4⟩
   have hE2 : E.Wf ⟨H, I ++ [(1, 5)]⟩ := hE.of (Nat.le_refl _) (by simp)
   simp [hs, e0, e1, e2, m0]
   refine end_call (an.to g4) (by omega) hE2 hr hb _ fun p5 e5 ln5 g5 q3 => ?_
   simp [hs]
   refine WdP.mk [.mk op ss nn l2 line2] p5 rfl (by simp [T.encL]) (by simp [ok64]) ⟨ht, trivial⟩ (.so _) (List.prefix_append _ _) hline (gn.trans (g4.trans g5)) (fun h => ?_) ?_
   ·have := hw3 (g5.e0 h); simp only [T.wtL, sz0]; omega
   ·simp only [T.wtL, sz0]; omega
  ·simp [hs, e0, e1, e2, N0, rg hb, rs hb, mw_int hr, m0, m1, hw, g, h0, h]
   rw [hc]
   refine (hP.expr an (fu_adv (by omega) an.p (by omega) hk)).call hE hr hb _ rfl NodeQ.ref ?_
   rintro _ p4 e4 ln4 ⟨⟨op, ss, nn, l2, line2⟩, rfl, ht, g4, hw3, hw4⟩
   have hE2 : E.Wf ⟨H, I ++ [(1, 5)]⟩ := hE.of (Nat.le_refl _) (by simp)
   simp [hs, e0, e1, e2, m0]
   refine end_call (an.to g4) (by omega) hE2 hr hb _ fun p5 e5 ln5 g5 q3 => ?_
   simp [hs]
   refine WdP.mk [.mk op ss nn l2 line2] p5 rfl (by simp [T.encL]) (by simp [ok64]) ⟨ht, trivial⟩ (.so _) (List.prefix_append _ _) hline (gn.trans (g4.trans g5)) (fun h => ?_) ?_
   ·have := hw3 (g5.e0 h); simp only [T.wtL, sz0]; omega
   ·simp only [T.wtL, sz0]; omega
 ·simp [hs, e0, e1, e2, N0, rg hb, rs hb, mw_int hr, m0, m1, hw, g]
  rw [hc]
  refine end_call an (by omega) hE hr hb _ fun p2 e2' ln2 g2 q2 => ?_
  simp [hs]
  refine WdP.mk0 p2 ?_ (gn.trans g2) (fun h => ?_) ?_
  ·simp [ok64]
  ·simp only [T.wtL, sz0]; omega
  ·simp only [T.wtL, sz0]; omega
 ·simp [hs, e0, e1, e2, N0, rg hb, rs hb, mw_int hr, m0, m1, hw, g, h0]
  rw [hc]
  refine end_call an (by omega) hE hr hb _ fun p2 e2' ln2 g2 q2 => ?_
  simp [hs]
  refine WdP.mk0 p2 ?_ (gn.trans g2) (fun h => ?_) ?_
  ·simp [ok64]
  ·simp only [T.wtL, sz0]; omega
  ·simp only [T.wtL, sz0]; omega
 ·simp [hs, e0, e1, e2, N0, rg hb, rs hb, mw_int hr, m0, m1, hw, g]
  rw [hc]
  refine end_call an (by omega) hE hr hb _ fun p2 e2' ln2 g2 q2 => ?_
  simp [hs]
  refine WdP.mk0 p2 ?_ (gn.trans g2) (fun h => ?_) ?_
  ·simp [ok64]
  ·simp only [T.wtL, sz0]; omega
  ·simp only [T.wtL, sz0]; omega
 ·simp [hs, e0, e1, e2, N0, rg hb, rs hb, mw_int hr, m0, m1, hw, g]
  rw [hc]
  refine end_call an (by omega) hE hr hb _ fun p2 e2' ln2 g2 q2 => ?_
  simp [hs]
  refine WdP.mk0 p2 ?_ (gn.trans g2) (fun h => ?_) ?_
  ·simp [ok64]
  ·simp only [T.wtL, sz0]; omega
  ·simp only [T.wtL, sz0]; omega
theorem p_jump {tk : List Tk} {k : Nat} (hP : Par tk k) {p : Nat} {e ln : Int} (w : ByteArray) (ha : At tk p e ln) (hlt : p < tk.length) (hk : fu tk p e 33 ≤ k + 1) : WdC (k + 1) 168 tk p e ln w := by
 by_cases h0 : w = ⟨#[114, 101, 116, 117, 114, 110]⟩
 ·subst h0; exact w_return hP ha hlt hk
 by_cases h1 : w = ⟨#[116, 104, 114, 111, 119]⟩
 ·subst h1; exact w_throw hP ha hlt hk
 by_cases h2 : w = ⟨#[98, 114, 101, 97, 107]⟩
 ·subst h2; exact w_break hP ha hlt hk
 by_cases h3 : w = ⟨#[99, 111, 110, 116, 105, 110, 117, 101]⟩
 ·subst h3; exact w_continue hP ha hlt hk
 intro E H I rb ty line hE hr hb hline
 refine call_in3 rfl rfl (by decide) fun s hs e0 e1 e2 => ?_
 simp [hs, e0, e1, e2, h0, h1, h2, h3]
 exact .inl ⟨rfl, rfl⟩
theorem no_call {k f : Nat} {args : List AV} {E : Env} {st : St} {Q : Rt AV → St → Prop} {P : Rt AV × St → Prop} (h : CallQ k E f args st Q) (hq : ∀ r st', Q r st' → P (r, st')) : obP (doCall (aCall prog k) E .no (.fn f) args st) P :=
 obP_intro (show obP (doCall (aCall prog k) E .no (.fn f) args st) _ from h) fun p hp => hq p.1 p.2 hp
theorem p_word {tk : List Tk} {k : Nat} (hP : Par tk k) {p : Nat} {e ln : Int} (w : ByteArray) (hJ : fu tk p e 33 ≤ k → WdC k 168 tk p e ln w) (ha : At tk p e ln) (hlt : p < tk.length) (hk : fu tk p e 34 ≤ k + 1) : WdC (k + 1) 146 tk p e ln w := by
 by_cases h0 : w = ⟨#[118, 97, 114]⟩
 ·subst h0; exact w_var hP ha hlt hk
 by_cases h1 : w = ⟨#[105, 102]⟩
 ·subst h1; exact w_if hP ha hlt hk
 by_cases h2 : w = ⟨#[119, 104, 105, 108, 101]⟩
 ·subst h2; exact w_while hP ha hlt hk
 by_cases h3 : w = ⟨#[102, 111, 114]⟩
 ·subst h3; exact w_for hP ha hlt hk
 by_cases h4 : w = ⟨#[116, 114, 121]⟩
 ·subst h4; exact w_try hP ha hlt hk
 by_cases h5 : w = ⟨#[102, 117, 110, 99, 116, 105, 111, 110]⟩
 ·subst h5; exact w_function hP ha hlt hk
 intro E H I rb ty line hE hr hb hline
 refine call_in3 rfl rfl (by decide) fun s hs e0 e1 e2 => ?_
 simp [hs, e0, e1, e2, h0, h1, h2, h3, h4, h5]
 refine no_call (hJ (fu_le (Nat.le_refl _) id (by omega) hk) E H I rb ty line hE hr hb hline) fun r st' h => ?_
 rcases h with ⟨rfl, rfl⟩ | ⟨op, S, l, v, p', e', ln', X, I', rfl, rfl, h⟩
 ·simp [hs]
  exact .inl ⟨rfl, rfl⟩
 ·simp [hs]
  exact .inr ⟨op, S, l, v, p', e', ln', X, I', rfl, rfl, h⟩
theorem word_call {tk : List Tk} {p : Nat} {e ln line : Int} {k : Nat} {w : ByteArray} (h : WdC k 146 tk p e ln w) {E : Env} {H : List ABlk} {I : List (Nat × Nat)} {rb ty : Nat} (hE : E.Wf ⟨H, I⟩) (hr : E.rob ≤ rb) (hb : rb < H.length) (hline : ok64 line) (a b : ABlk) {P : Rt AV × St → Prop}
  (h0 : P (.ok (.bool false), ⟨H.set rb (.cells ty (RQ tk p e ln)) ++ [a, b, .cells 24 (N0 line)], I⟩))
  (h1 : ∀ (op : Int) (S : ByteArray) (l : List T) (v : AV) (p' : Nat) (e' ln' : Int) (X : List ABlk) (I' : List (Nat × Nat)), I <+: I' → v.fin I.length = .sl none l.length (T.encL l) → v.one = true → ok64 op → T.okL1 l → Go1 tk p e p' e' ln' → (e' = 0 → 1 + S.size + T.wtL l + 12 + pt tk p ≤ pt tk p') → 1 + S.size + T.wtL l + pt tk p ≤ pt tk p' + 8 →
   P (.ok (.bool true), ⟨H.set rb (.cells ty (RQ tk p' e' ln')) ++ a :: b :: .cells 24 [.int .i64 op, .str S, .int .i64 0, v, .int .i64 line] :: X, I'⟩)) :
  obP (doCall (aCall prog k) E .no (.fn 146) [.ptr rb 0, .ptr (H.length + 2) 0, .str w] ⟨H.set rb (.cells ty (RQ tk p e ln)) ++ [a, b, .cells 24 (N0 line)], I⟩) P := by
 have e1 : ∀ c l, H.set rb c ++ a :: b :: l = (H ++ [a, b]).set rb c ++ l := fun c l => by rw [List.set_append_left _ _ hb]; simp
 have hE2 : E.Wf ⟨H ++ [a, b], I⟩ := hE.of (by simp) (Nat.le_refl _)
 have := h E (H ++ [a, b]) I rb ty line hE2 hr (by simp; omega) hline
 rw [show (H ++ [a, b]).length = H.length + 2 by simp, ← e1] at this
 refine no_call this fun r st' hw => ?_
 rcases hw with ⟨rfl, rfl⟩ | ⟨op, S, l, v, p', e', ln', X, I', rfl, rfl, q1, q2, q3, q4, q5, q6, q7, q8⟩
 ·rw [← e1]; exact h0
 ·rw [← e1]; exact h1 op S l v p' e' ln' X I' q1 q2 q3 q4 q5 q6 q7 q8
theorem p_stmt {tk : List Tk} {k : Nat} (hP : Par tk k) {p : Nat} {e ln : Int} (hW : ∀ w, p < tk.length → fu tk p e 34 ≤ k → WdC k 146 tk p e ln w) (ha : At tk p e ln) (hk : fu tk p e 35 ≤ k + 1) : RdC (k + 1) 106 [] tk p e ln (NodeQ tk 0 12 9 p e) := by
 intro E H I rb ty hE hr hb
 refine call_in1 rfl rfl (by decide) fun s hs e0 => ?_
 have hkk := fu_k hk
 have hn := ha.n
 have hp := ha.p
 have m0 := mw_loc0 hE
 have m1 := mw_loc hE
 have g := tok_eq (e := e) (ln := ln) (ty := ty) ha.n ha.p (k := k) (by omega) hE hr hb
 have gb := fun l => (f103 (tk := tk) (p := p) e ln ha.n ha.p 1 (by omega) k (by omega)).eq (ty := ty) hE hr hb (by simp) rfl l
 have hkl := kind_lt (tk := tk) (p := p)
 have htl := tkAt_line ha.ok p
 have hpn : p < tk.length → pt tk (p + 1) = pt tk p + 32 + (tkAt tk p).s.size := fun h => pt_next h
 obtain ⟨⟨tkd, ts, tn, tl, tnl⟩, htt⟩ : ∃ t, tkAt tk p = t := ⟨_, rfl⟩
 rw [htt] at g hkl htl hpn
 simp only [Tk.enc] at g
 simp only at htl hkl hpn
 obtain ⟨⟨ukd, us, un, ul, unl⟩, hut⟩ : ∃ t, tkAt tk (p + 1) = t := ⟨_, rfl⟩
 rw [hut] at gb
 simp only [Tk.enc, Int.natCast_one] at gb
 have hE2 : E.Wf ⟨H, I ++ [(1, 5)]⟩ := hE.of (Nat.le_refl _) (by simp)
 by_cases hbl : tkd = 5 ∧ ts = ⟨#[123]⟩
 ·obtain ⟨rfl, rfl⟩ := hbl
  simp [hs, e0, g, m0, m1]
  refine (hP.block ha (fu_le (Nat.le_refl _) id (by omega) hk)).call hE hr hb _ rfl NodeQ.ref ?_
  rintro _ p2 e2 ln2 ⟨⟨op, ss, nn, l2, line⟩, rfl, ht, g2, hw3, hw4⟩
  simp [hs, e0, m0]
  exact RdP.mkX p2 rfl ⟨.mk op ss nn l2 line, by simp, ht, g2, fun h => by have := hw3 h; omega, by omega⟩
 have ex : ∀ (Y : List ABlk) {P : Rt AV × St → Prop}, (∀ (t : T) p' e' ln', t.ok1 → Go1 tk p e p' e' ln' → (e' = 0 → t.wt + 16 + pt tk p ≤ pt tk p') → t.wt + pt tk p ≤ pt tk p' + 8 → P (.ok (.agg t.enc), ⟨H.set rb (.cells ty (RQ tk (p' : Nat) e' ln')) ++ Y, I⟩)) → obP (doCall (aCall prog k) E .full (.fn 147) [.ptr rb 0] ⟨H.set rb (.cells ty (RQ tk p e ln)) ++ Y, I⟩) P := fun Y P hP2 =>
  (hP.expr ha (fu_le (Nat.le_refl _) id (by omega) hk)).call hE hr hb _ rfl NodeQ.ref (by
   rintro _ p2 e2 ln2 ⟨t, rfl, ht, g2, hw3, hw4⟩
   exact hP2 t p2 e2 ln2 ht g2 (fun h => by have := hw3 h; omega) hw4)
 have fin : ∀ (t : T) p' e' ln' (X : List ABlk) (Y : List (Nat × Nat)), t.ok1 → Go1 tk p e p' e' ln' → (e' = 0 → t.wt + 16 + pt tk p ≤ pt tk p') → t.wt + pt tk p ≤ pt tk p' + 8 → RdP H I rb ty tk (NodeQ tk 0 12 9 p e) (.ok (.agg [.int .i64 31, .str ⟨#[]⟩, .int .i64 0, .sl (some I.length) 1 t.enc, .int .i64 tl])) ⟨H.set rb (.cells ty (RQ tk (p' : Nat) e' ln')) ++ X, I ++ Y⟩ := fun t p' e' ln' X Y h1 h2 h3 h4 => by
  obtain ⟨op, ss, nn, l2, line2⟩ := t
  exact RdP.mk p' rfl ⟨.mk 31 ⟨#[]⟩ 0 [.mk op ss nn l2 line2] tl, by simp, ⟨by simp [ok64], by simp [ok64], htl, h1, trivial⟩, h2, fun h => by have := h3 h; simp only [T.wt, T.wtL, sz0] at *; omega, by simp only [T.wt, T.wtL, sz0] at *; omega⟩
 have hcase : (tkd = 2) ∨ (tkd = 1 ∧ ukd = 5 ∧ us = ⟨#[58]⟩) ∨ (¬ tkd = 2 ∧ ¬ (tkd = 5 ∧ ts = ⟨#[123]⟩) ∧ ¬ (tkd = 1 ∧ ukd = 5 ∧ us = ⟨#[58]⟩)) := by
  by_cases h2 : tkd = 2
  ·exact .inl h2
  ·by_cases h1 : tkd = 1 ∧ ukd = 5 ∧ us = ⟨#[58]⟩
   ·exact .inr (.inl h1)
   ·exact .inr (.inr ⟨h2, hbl, h1⟩)
 rcases hcase with rfl | ⟨rfl, rfl, rfl⟩ | ⟨h2, h5, h1⟩
 ·have hlt := hkl (by omega)
  simp [hs, e0, g, m0, m1]
  refine word_call (hW ts hlt (fu_le (Nat.le_refl _) id (by omega) hk)) hE hr hb htl _ _ ?_ fun op S l v p' e' ln' X I' q1 q2 q3 q4 q5 q6 q7 q8 => ?_
  ·simp [hs, e0, gb, N0, m1]
   refine ex _ fun t p2 e2 ln2 ht g2 w1 w2 => ?_
   obtain ⟨op2, ss2, nn2, l2, line2⟩ := t
   simp [hs, e0, m1]
   refine end_call (ha.to g2) (by omega) hE2 hr hb _ fun p3 e3 ln3 g3 q3 => ?_
   simp [hs, m0]
   exact fin (.mk op2 ss2 nn2 l2 line2) p3 e3 ln3 _ _ ht (g2.trans g3) (fun h => by have := w1 (g3.e0 h); omega) (by omega)
  ·simp [hs, q3, m0]
   exact RdP.mkI p' q1 rfl ⟨.mk op S 0 l tl, by simp [q2], ⟨q4, by simp [ok64], htl, q5⟩, q6, fun h => by have := q7 h; simp only [T.wt]; omega, by simp only [T.wt]; omega⟩
 ·by_cases he : ts = ⟨#[101, 118, 97, 108]⟩ ∨ ts = ⟨#[97, 114, 103, 117, 109, 101, 110, 116, 115]⟩
  ·rcases he with rfl | rfl <;>
   ·simp [hs, e0, g, gb, m0, m1]
    refine ex _ fun t p2 e2 ln2 ht g2 w1 w2 => ?_
    obtain ⟨op2, ss2, nn2, l2, line2⟩ := t
    simp [hs, e0, m1]
    refine end_call (ha.to g2) (by omega) hE2 hr hb _ fun p3 e3 ln3 g3 q3 => ?_
    simp [hs, m0]
    exact fin (.mk op2 ss2 nn2 l2 line2) p3 e3 ln3 _ _ ht (g2.trans g3) (fun h => by have := w1 (g3.e0 h); omega) (by omega)
  ·have h1 : ¬ ts = ⟨#[101, 118, 97, 108]⟩ := fun h => he (.inl h)
   have h2 : ¬ ts = ⟨#[97, 114, 103, 117, 109, 101, 110, 116, 115]⟩ := fun h => he (.inr h)
   have hlt := hkl (by omega)
   have hpn := hpn hlt
   have an := ha.next hlt
   have hw := wrap64 (n := (p : Int) + 1) (by omega)
   have hc : (p : Int) + 1 = ((p + 1 : Nat) : Int) := by omega
   simp [hs, e0, g, gb, m0, m1, h1, h2, rg hb, rs hb, mw_int hr, hw]
   rw [hc]
   refine (f107 e ln 45 an.n an.ok an.p an.ln k (by omega)).call hE hr hb _ rfl (failQ.ref rfl) ?_
   rintro _ _ e' ln' ⟨rfl, rfl, q1, q2⟩
   simp [hs, m0]
   have q3 : e' ≠ 0 ∧ ok64 e' := by
    rw [q1]; split
    ·exact ⟨by omega, by simp [ok64]⟩
    ·rename_i h; exact ⟨h, ha.e⟩
   rw [hc]
   exact RdP.mkX (p + 1) rfl ⟨.mk 0 ⟨#[]⟩ 0 [] tl, by simp, ⟨by simp [ok64], by simp [ok64], htl, trivial⟩, ⟨by omega, hlt, q3.2, q2, fun _ => q3.1⟩, fun h => absurd h q3.1, by simp only [T.wt, T.wtL, sz0]; omega⟩
 ·by_cases k5 : tkd = 5
  ·subst k5
   have h6 : ¬ ts = ⟨#[123]⟩ := fun h => h5 ⟨rfl, h⟩
   simp [hs, e0, g, gb, m0, m1, h6]
   refine ex _ fun t p2 e2 ln2 ht g2 w1 w2 => ?_
   obtain ⟨op2, ss2, nn2, l2, line2⟩ := t
   simp [hs, e0, m1]
   refine end_call (ha.to g2) (by omega) hE2 hr hb _ fun p3 e3 ln3 g3 q3 => ?_
   simp [hs, m0]
   exact fin (.mk op2 ss2 nn2 l2 line2) p3 e3 ln3 _ _ ht (g2.trans g3) (fun h => by have := w1 (g3.e0 h); omega) (by omega)
  by_cases k1 : tkd = 1
  ·subst k1
   by_cases k6 : ukd = 5
   ·subst k6
    have h6 : ¬ us = ⟨#[58]⟩ := fun h => h1 ⟨rfl, rfl, h⟩
    simp [hs, e0, g, gb, m0, m1, h6]
    refine ex _ fun t p2 e2 ln2 ht g2 w1 w2 => ?_
    obtain ⟨op2, ss2, nn2, l2, line2⟩ := t
    simp [hs, e0, m1]
    refine end_call (ha.to g2) (by omega) hE2 hr hb _ fun p3 e3 ln3 g3 q3 => ?_
    simp [hs, m0]
    exact fin (.mk op2 ss2 nn2 l2 line2) p3 e3 ln3 _ _ ht (g2.trans g3) (fun h => by have := w1 (g3.e0 h); omega) (by omega)
   ·simp [hs, e0, g, gb, m0, m1, k6]
    refine ex _ fun t p2 e2 ln2 ht g2 w1 w2 => ?_
    obtain ⟨op2, ss2, nn2, l2, line2⟩ := t
    simp [hs, e0, m1]
    refine end_call (ha.to g2) (by omega) hE2 hr hb _ fun p3 e3 ln3 g3 q3 => ?_
    simp [hs, m0]
    exact fin (.mk op2 ss2 nn2 l2 line2) p3 e3 ln3 _ _ ht (g2.trans g3) (fun h => by have := w1 (g3.e0 h); omega) (by omega)
  ·simp [hs, e0, g, gb, m0, m1, k5, k1, h2]
   refine ex _ fun t p2 e2 ln2 ht g2 w1 w2 => ?_
   obtain ⟨op2, ss2, nn2, l2, line2⟩ := t
   simp [hs, e0, m1]
   refine end_call (ha.to g2) (by omega) hE2 hr hb _ fun p3 e3 ln3 g3 q3 => ?_
   simp [hs, m0]
   exact fin (.mk op2 ss2 nn2 l2 line2) p3 e3 ln3 _ _ ht (g2.trans g3) (fun h => by have := w1 (g3.e0 h); omega) (by omega)
structure ParW (tk : List Tk) (k : Nat) : Prop where
 par : Par tk k
 jump : ∀ {p e ln} (w : ByteArray), At tk p e ln → p < tk.length → fu tk p e 33 ≤ k → WdC k 168 tk p e ln w
 word : ∀ {p e ln} (w : ByteArray), At tk p e ln → p < tk.length → fu tk p e 34 ≤ k → WdC k 146 tk p e ln w
theorem fu_0 {tk : List Tk} {p : Nat} {e : Int} {c : Nat} (h : fu tk p e c ≤ 0) : False := by unfold fu at h; omega
theorem parW (tk : List Tk) : ∀ k, ParW tk k
 | 0 => ⟨⟨fun _ h => (fu_0 h).elim, fun _ h => (fu_0 h).elim, fun _ _ _ h => (fu_0 h).elim, fun _ h => (fu_0 h).elim, fun _ h => (fu_0 h).elim, fun _ _ _ _ h => (fu_0 h).elim, fun _ _ _ _ h => absurd h (by omega), fun _ h => (fu_0 h).elim, fun _ h => (fu_0 h).elim, fun _ h => (fu_0 h).elim, fun _ h => (fu_0 h).elim, fun _ h => (fu_0 h).elim, fun _ h => (fu_0 h).elim, fun _ h => (fu_0 h).elim, fun _ h => (fu_0 h).elim⟩, fun _ _ _ h => (fu_0 h).elim, fun _ _ _ h => (fu_0 h).elim⟩
 | k + 1 => by
  obtain ⟨hP, hJ, hW⟩ := parW tk k
  exact ⟨⟨p_expr hP, p_cond hP, fun lv h => p_chain hP lv h, p_signed hP, p_thing hP, fun t b h => p_parts hP t b h, fun t b h => p_partsE t b h, p_head hP, p_object hP, p_args hP, p_rest hP, p_block hP, p_stmts hP, fun a h => p_stmt hP (fun w h1 h2 => hW w a h1 h2) a h, p_within hP⟩, fun w a h1 h2 => p_jump hP w a h1 h2, fun w a h1 h2 => p_word hP w (fun h => hJ w a h1 h) a h1 h2⟩
theorem Tk.len_pot : ∀ l : List Tk, 32 * l.length ≤ Tk.pot l
 | [] => by simp
 | t :: r => by have := Tk.len_pot r; simp only [Tk.pot, List.length_cons]; omega
theorem rd_call {k f args args' tk p e ln Q} (h : RdC k f args tk p e ln Q) {E : Env} {H : List ABlk} {I : List (Nat × Nat)} (hE : E.Wf ⟨H, I⟩) (a : ABlk) (l : List ABlk) (hf : args'.map AV.arg = args) (hq : ∀ w p' e' ln', Q w p' e' ln' → w.refs = [])
  {P : Rt AV × St → Prop} (hp : ∀ w p' e' ln', Q w p' e' ln' → P (.ok w, ⟨H ++ a :: .cells 126 (RQ tk (p' : Nat) e' ln') :: l, I⟩)) :
  obP (doCall (aCall prog k) E .full (.fn f) (.ptr (H.length + 1) 0 :: args') ⟨H ++ a :: .cells 126 (RQ tk p e ln) :: l, I⟩) P := by
 have e1 : ∀ c, H ++ a :: c :: l = (H ++ [a, a]).set (H.length + 1) c ++ l := fun c => by rw [List.set_append_right _ _ (by omega)]; simp
 have hE2 : E.Wf ⟨H ++ [a, a], I⟩ := hE.of (by simp) (Nat.le_refl _)
 have := h.call (P := P) (rb := H.length + 1) (ty := 126) hE2 (by have := hE.rob; simp only at this; omega) (by simp) l hf hq (fun w p' e' ln' q => by rw [← e1]; exact hp w p' e' ln' q)
 rwa [← e1] at this
@[simp] theorem wr40 (a b c d x : AV) : wrC [a, b, c, d] 0 [x] = [x, b, c, d] := nr rfl
def isPrs (n : Nat) (w : AV) : Prop := ∃ (t : T) (a b : Int), w = .tup [.agg t.enc, .int .i64 a, .int .i64 b] ∧ t.ok ∧ t.wt ≤ n
theorem isPrs.no (n : Nat) (hn : 1 ≤ n) (a b : Int) : isPrs n (.tup [.agg [.int .i64 0, .str ⟨#[]⟩, .int .i64 0, .sl none 0 [], .int .i64 0], .int .i64 a, .int .i64 b]) :=
 ⟨.mk 0 ⟨#[]⟩ 0 [] 0, a, b, rfl, ⟨by simp [sz0], by simp, by simp [ok64], by simp [ok64], by simp [ok64], trivial⟩, by simp only [T.wt, T.wtL, sz0]; omega⟩
theorem f46 (tk : List Tk) (hok : ∀ t ∈ tk, t.ok) (hpot : Tk.pot tk ≤ 66000) (k : Nat) (hk : 300000 ≤ k) : PureE k 46 [.sl none tk.length (Tk.encL tk)] (isPrs 70000) := by
 intro E st hE
 obtain ⟨H, I⟩ := st
 have hlen := Tk.len_pot tk
 obtain ⟨k, rfl⟩ := uK (k := k) (by omega)
 refine call_in1 rfl rfl (by decide) fun s hs e0 => ?_
 have ha : At tk 0 0 0 := ⟨by omega, hok, by omega, by simp [ok64], by simp [ok64], by omega⟩
 have m0 := mayWrite_new hE H.length
 have mj := fun j => mayWrite_new hE (H.length + j)
 have hfu : fu tk 0 0 (if (0 : Int) = 0 then 40 else 5) ≤ k := by
  unfold fu mu; simp only [if_true]; omega
 simp [hs, e0]
 show obP (doCall _ _ _ _ _ ⟨H ++ .cells 24 [.int .i64 0, .str ⟨#[]⟩, .int .i64 0, .nils, .int .i64 0] :: .cells 126 (RQ tk ((0 : Nat) : Int) 0 0) :: [], I⟩) _
 refine rd_call ((parW tk k).par.stmts ha hfu) hE _ _ rfl ListQ.ref ?_
 rintro _ p1 e1 ln1 ⟨l, rfl, hl, g1, hw1, hw2⟩
 have a1 := ha.to g1
 have hp1 := pt_le tk p1
 have zero := fun a b => isPrs.no 70000 (by omega) a b
 by_cases hz : e1 = 0
 rotate_left
 ·simp [hs, e0, hz, mj, m0]
  exact ⟨Grow.appH ⟨H, I⟩ _, zero _ _⟩
 subst hz
 have hw1 := hw1 rfl
 by_cases hlt : p1 < tk.length
 ·simp [hs, e0, mj, hlt]
  refine rd_call (f74 0 ln1 true a1.n a1.ok a1.p a1.e a1.ln k (by omega)) hE _ _ rfl stopQ.ref ?_
  rintro _ p2 e2 ln2 ⟨rfl, rfl, q1, q2, q3⟩
  simp [hs, e0, q1, m0]
  exact ⟨Grow.appH ⟨H, I⟩ _, zero _ _⟩
 have htok : (T.mk 32 ⟨#[]⟩ 0 l 0).ok := T.ok_of _ ⟨by simp [ok64], by simp [ok64], by simp [ok64], hl⟩ (by simp only [T.wt, sz0]; omega)
 have c27 := fun Hx => (f27 _ htok k (by simp only [T.wt, sz0]; omega)).full (E := E) (st := ⟨H ++ Hx, I⟩) rfl (hE.of (by simp) (Nat.le_refl _))
 simp only [T.enc] at c27
 cases hr : right (.mk 32 ⟨#[]⟩ 0 l 0)
 ·rw [hr] at c27
  simp [hs, e0, mj, hlt, c27, m0]
  exact ⟨Grow.appH ⟨H, I⟩ _, zero _ _⟩
 rw [hr] at c27
 by_cases h0 : 0 < tk.length
 ·obtain ⟨t, ht⟩ : ∃ t, tk[0]? = some t := ⟨_, List.getElem?_eq_getElem h0⟩
  have h3 := Tk.cell ht 3 (by omega)
  simp [hs, e0, mj, hlt, c27, m0, h0, h3, Tk.enc]
  exact ⟨Grow.appH ⟨H, I⟩ _, .mk 32 ⟨#[]⟩ 0 l t.line, 0, 0, rfl, T.ok_of _ ⟨by simp [ok64], by simp [ok64], tk_line hok ht, hl⟩ (by simp only [T.wt, sz0]; omega), by simp only [T.wt, sz0]; omega⟩
 ·simp [hs, e0, mj, hlt, c27, m0, h0]
  exact ⟨Grow.appH ⟨H, I⟩ _, .mk 32 ⟨#[]⟩ 0 l 0, 0, 0, rfl, htok, by simp only [T.wt, sz0]; omega⟩
theorem isPrs.ref {n : Nat} : ∀ w, isPrs n w → w.refs = [] := by
 rintro _ ⟨t, a, b, rfl, _⟩
 simp [T.enc_refs]
theorem isToks.ref {n : Nat} : ∀ w, isToks n w → w.refs = [] := by
 rintro _ ⟨l, rfl, _⟩
 simp only [AV.refs, Tk.encL_refs]
def isTree (n : Nat) (w : AV) : Prop := ∃ t : T, w = .agg t.enc ∧ t.ok ∧ t.wt ≤ n
theorem isTree.ref {n : Nat} : ∀ w, isTree n w → w.refs = [] := by
 rintro _ ⟨t, rfl, _⟩
 simp only [AV.refs, T.enc_refs]
theorem f24 (t : ByteArray) (ht : t.size ≤ 2000) (k : Nat) (hk : 300010 ≤ k) : PureE k 24 [.str t] (isTree 70000) := by
 intro E st hE
 obtain ⟨H, I⟩ := st
 obtain ⟨k, rfl⟩ := uK (k := k) (by omega)
 refine call_in1 rfl rfl (by decide) fun s hs e0 => ?_
 have m0 := mayWrite_new hE H.length
 have mj := fun j => mayWrite_new hE (H.length + j)
 have hE2 : ∀ Hx, E.Wf ⟨H ++ Hx, I⟩ := fun Hx => hE.of (by simp) (Nat.le_refl _)
 simp [hs, e0]
 refine (f47 t (by omega) k (by omega)).call isToks.ref (hE2 _) rfl ?_
 rintro _ ⟨tk, rfl, hok, hpot⟩
 simp [hs]
 refine (f46 tk hok (by omega) k (by omega)).call isPrs.ref (hE2 _) (by simp [Tk.encL_fin]) ?_
 rintro _ ⟨⟨op, ss, nn, l, line⟩, a, b, rfl, htok, hwt⟩
 simp [hs, m0, mj]
 exact ⟨Grow.appH ⟨H, I⟩ _, .mk op ss nn l line, rfl, htok, hwt⟩
theorem k24cF : doCall (aCallF 400) { base := 0, rob := 0, rom := 0 } .full (.fn 24) [.str ⟨#[118, 97, 114, 32, 97, 59, 32, 102, 117, 110, 99, 116, 105, 111, 110, 32, 102, 40, 98, 41, 32, 123, 32, 114, 101, 116, 117, 114, 110, 32, 97, 32, 43, 32, 98, 59, 32, 125]⟩] ⟨[], []⟩ = some (.ok (.agg [.int .i64 32, .str ⟨#[]⟩, .int .i64 0, .sl none 2 [.int .i64 30, .str ⟨#[97]⟩, .int .i64 0, .sl none 0 [], .int .i64 1, .int .i64 41, .str ⟨#[102]⟩, .int .i64 0, .sl none 2 [.int .i64 1, .str ⟨#[98]⟩, .int .i64 0, .sl none 0 [], .int .i64 1, .int .i64 32, .str ⟨#[]⟩, .int .i64 0, .sl none 1 [.int .i64 36, .str ⟨#[]⟩, .int .i64 0, .sl none 1 [.int .i64 18, .str ⟨#[43]⟩, .int .i64 0, .sl none 2 [.int .i64 1, .str ⟨#[97]⟩, .int .i64 0, .sl none 0 [], .int .i64 1, .int .i64 1, .str ⟨#[98]⟩, .int .i64 0, .sl none 0 [], .int .i64 1], .int .i64 1], .int .i64 1], .int .i64 1], .int .i64 1], .int .i64 1]), ⟨[], []⟩) := by kernel_rfl
theorem k24c : doCall (aCall prog 400) { base := 0, rob := 0, rom := 0 } .full (.fn 24) [.str ⟨#[118, 97, 114, 32, 97, 59, 32, 102, 117, 110, 99, 116, 105, 111, 110, 32, 102, 40, 98, 41, 32, 123, 32, 114, 101, 116, 117, 114, 110, 32, 97, 32, 43, 32, 98, 59, 32, 125]⟩] ⟨[], []⟩ = some (.ok (.agg [.int .i64 32, .str ⟨#[]⟩, .int .i64 0, .sl none 2 [.int .i64 30, .str ⟨#[97]⟩, .int .i64 0, .sl none 0 [], .int .i64 1, .int .i64 41, .str ⟨#[102]⟩, .int .i64 0, .sl none 2 [.int .i64 1, .str ⟨#[98]⟩, .int .i64 0, .sl none 0 [], .int .i64 1, .int .i64 32, .str ⟨#[]⟩, .int .i64 0, .sl none 1 [.int .i64 36, .str ⟨#[]⟩, .int .i64 0, .sl none 1 [.int .i64 18, .str ⟨#[43]⟩, .int .i64 0, .sl none 2 [.int .i64 1, .str ⟨#[97]⟩, .int .i64 0, .sl none 0 [], .int .i64 1, .int .i64 1, .str ⟨#[98]⟩, .int .i64 0, .sl none 0 [], .int .i64 1], .int .i64 1], .int .i64 1], .int .i64 1], .int .i64 1], .int .i64 1]), ⟨[], []⟩) := by
 have h := k24cF
 rw [aCallF_eq] at h
 exact h
theorem k24dF : (fun Y : ABlk => doCall (aCallF 400) { base := 0, rob := 0, rom := 0 } .full (.fn 24) [.str ⟨#[118, 97, 114, 32, 97, 10, 120]⟩] ⟨[Y], []⟩) = fun Y : ABlk => some (.ok (.agg [.int .i64 32, .str ⟨#[]⟩, .int .i64 0, .sl none 2 [.int .i64 30, .str ⟨#[97]⟩, .int .i64 0, .sl none 0 [], .int .i64 1, .int .i64 31, .str ⟨#[]⟩, .int .i64 0, .sl none 1 [.int .i64 1, .str ⟨#[120]⟩, .int .i64 0, .sl none 0 [], .int .i64 2], .int .i64 2], .int .i64 1]), ⟨[Y], []⟩) := by kernel_rfl
theorem k24d (Y : ABlk) : doCall (aCall prog 400) { base := 0, rob := 0, rom := 0 } .full (.fn 24) [.str ⟨#[118, 97, 114, 32, 97, 10, 120]⟩] ⟨[Y], []⟩ = some (.ok (.agg [.int .i64 32, .str ⟨#[]⟩, .int .i64 0, .sl none 2 [.int .i64 30, .str ⟨#[97]⟩, .int .i64 0, .sl none 0 [], .int .i64 1, .int .i64 31, .str ⟨#[]⟩, .int .i64 0, .sl none 1 [.int .i64 1, .str ⟨#[120]⟩, .int .i64 0, .sl none 0 [], .int .i64 2], .int .i64 2], .int .i64 1]), ⟨[Y], []⟩) := by
 have h := congrFun k24dF Y
 rw [aCallF_eq] at h
 exact h
theorem f18e (k : Nat) (hk : 5000 ≤ k) : CallQ (k + 1) { base := 0, rob := 0, rom := 0 } 18 [] ⟨[], []⟩ fun r st' => ∃ v, r = .ok v ∧ Grow ⟨[], []⟩ st' ∧ v = .bool true := by
 have c1 := doCall_le (aCall_mono (show 400 ≤ k by omega)) _ _ _ _ _ _ k24c
 have c2 := fun Y => doCall_le (aCall_mono (show 400 ≤ k by omega)) _ _ _ _ _ _ (k24d Y)
 have c1 : doCall (aCall prog k) { base := 0, rob := 0, rom := 0 } .full (.fn 24) _ ⟨[], []⟩ = _ := c1
 have c2 : ∀ Y, doCall (aCall prog k) { base := 0, rob := 0, rom := 0 } .full (.fn 24) _ ⟨[Y], []⟩ = _ := c2
 have c3 := k20a k hk { base := 0, rob := 0, rom := 0 } ⟨[], []⟩ wf0
 have c4 := fun Y => k20b k hk { base := 0, rob := 0, rom := 0 } ⟨[Y], []⟩ ⟨by simp, by simp, by simp⟩
 rw [rqA] at c3
 rw [rqB] at c4
 simp [tA] at c3
 simp [tB] at c4
 have hm : ∀ j x y, mayWrite { base := 0, rob := 0, rom := 0 } j x y = true := fun j x y => by simp [mayWrite]
 have hm1 := fun x y => hm 0 x y
 have hm2 := fun x y => hm 1 x y
 refine call_in0 rfl rfl (by decide) fun s hs => ?_
 simp [hs, c1, c3, storeA, hm1, wrC]
 simp [hs, c2, c4, storeA, hm2, wrC]
 exact Grow.appH ⟨[], []⟩ _
theorem k18e : doCall (aCall prog 5001) { base := 0, rob := 0, rom := 0 } .full (.fn 18) [] ⟨[], []⟩ = some (.ok (.bool true), ⟨[], []⟩) := by
 obtain ⟨⟨r, st'⟩, e, v, e1, g, e2⟩ := f18e 5000 (Nat.le_refl _)
 simp only at e1 g e2
 subst e1 e2
 have e : aCall prog 5001 { base := 0, rob := 0, rom := 0 } (.fn 18) [] ⟨[], []⟩ = some (.ok (.bool true), st') := e
 have h1 := pfx_take g.H
 have h2 := pfx_take g.I
 simp only [List.length_cons, List.length_nil, Nat.zero_add] at h1 h2
 simp only [doCall, List.map_nil, List.length_cons, List.length_nil, Nat.zero_add, e, obind_some]
 simp only [AV.fin, AV.refs, refsLt_nil, guardb_true, okv_eq, h1, h2]
theorem size_cut (x : ByteArray) (n : Nat) : (x.extract 0 n).size ≤ n := by rw [ByteArray.size_extract]; omega
theorem f4 (x : ByteArray) (k : Nat) (hk : 2500000 ≤ k) (E : Env) (st : St) (hE : E.Wf st)
    (h18 : doCall (aCall prog k) E .full (.fn 18) [] st = some (.ok (.bool true), st)) : CallQ (k + 1) E 4 [.str x] st fun r st' => ∃ v, r = .ok v ∧ Grow st st' ∧ v.fin st.I.length = .bool true := by
  have hmw := mayWrite_new hE
  have hE1 : ∀ y, E.Wf ⟨st.H ++ y, st.I⟩ := fun y => hE.of (by simp) (by simp)
  have parts : ∀ t : T, t.ok → t.wt ≤ 70000 → (resV (resolve t)).refs = [] ∧
      (∀ st3, E.Wf st3 → doCall (aCall prog k) E .full (.fn 20) [.agg t.enc] st3 = some (.ok (resV (resolve t)), st3)) ∧ (∀ st3, E.Wf st3 → doCall (aCall prog k) E .full (.fn 21) [.agg t.enc] st3 = some (.ok (resV (resolve t)), st3)) ∧
      (∀ st3, E.Wf st3 → doCall (aCall prog k) E .full (.fn 22) [.sl none (resolve t).1.length (encFs (resolve t).1), .sl none (resolve t).1.length (encFs (resolve t).1)] st3 = some (.ok (.bool true), st3)) ∧ (∀ st3, E.Wf st3 → doCall (aCall prog k) E .full (.fn 23) [.agg (resolve t).2.1.enc, .agg (resolve t).2.1.enc] st3 = some (.ok (.bool true), st3)) := fun t ht hw => by
    have hrr : (resV (resolve t)).refs = [] := by simp [resV, encFs_refs, T.enc_refs]
    have hfs : (resolve t).1.length ≤ 500 ∧ ∀ f ∈ (resolve t).1, f.vars.length ≤ 200 := ⟨(resolve_fs t).len, fun f hf => by obtain ⟨i, hi⟩ := List.getElem?_of_mem hf; exact ((resolve_fs t).each i f hi).2.2⟩
    have hwt : (resolve t).2.1.wt ≤ t.wt := resolve_wt t
    exact ⟨hrr, fun st3 h => (f20 t ht (by omega) k (by omega)).full hrr h, fun st3 h => (f21 t ht (by omega) k (by omega)).full hrr h, fun st3 h => (f22 (resolve t).1 (by omega) (fun f hf => by have := hfs.2 f hf; omega) k (by omega)).full rfl h, fun st3 h => (f23 (resolve t).2.1.wt (resolve t).2.1 (Nat.le_refl _) (by omega) k (by omega)).full rfl h⟩
  refine call_in1 rfl rfl (by decide) fun s hs e0 => ?_
  by_cases hx : 2000 < x.size
  · have hx' : (2000 : Int) < x.size := by omega
    have hle : 2000 ≤ x.size := by omega
    simp [hs, e0, h18, hx', hle]
    refine (f24 (x.extract 0 2000) (size_cut x 2000) k (by omega)).call isTree.ref hE rfl ?_
    rintro _ ⟨t, rfl, ht, hw⟩
    obtain ⟨hrr, c20, c21, c22, c23⟩ := parts t ht hw
    obtain ⟨op, s0, nn, l, line⟩ := t
    generalize resolve (.mk op s0 nn l line) = R at *
    obtain ⟨fs, t', x1, y1⟩ := R
    have hte := T.enc_eq t'
    simp only [T.enc, resV] at c20 c21 c22 c23
    rw [hte] at c20 c21 c23
    simp [hs, e0, c20 _ (hE1 _), storeA, hmw, wrC]
    simp [hs, e0, c21 _ (hE1 _), storeA, hmw, wrC]
    simp [hs, c22 _ (hE1 _), c23 _ (hE1 _)]
    exact Grow.appH _ _
  · have hx' : ¬ (2000 : Int) < x.size := by omega
    simp [hs, e0, h18, hx']
    refine (f24 x (by omega) k (by omega)).call isTree.ref hE rfl ?_
    rintro _ ⟨t, rfl, ht, hw⟩
    obtain ⟨hrr, c20, c21, c22, c23⟩ := parts t ht hw
    obtain ⟨op, s0, nn, l, line⟩ := t
    generalize resolve (.mk op s0 nn l line) = R at *
    obtain ⟨fs, t', x1, y1⟩ := R
    have hte := T.enc_eq t'
    simp only [T.enc, resV] at c20 c21 c22 c23
    rw [hte] at c20 c21 c23
    simp [hs, e0, c20 _ (hE1 _), storeA, hmw, wrC]
    simp [hs, e0, c21 _ (hE1 _), storeA, hmw, wrC]
    simp [hs, c22 _ (hE1 _), c23 _ (hE1 _)]
    exact Grow.appH _ _
theorem says4 (x : ByteArray) (_ : x.size ≤ 1048576) : Says 4 [.str x] :=
 says_of (f4 x 2500000 (Nat.le_refl _) E0 ⟨[], []⟩ wf0 (doCall_le (aCall_mono (by omega)) _ _ _ _ _ _ k18e))
end Go.Proofs.YP
