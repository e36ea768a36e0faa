/- Texts that the laws of the seat rest on: an abstract machine, what the functions answer in it, plain laws. -/
import Derived.Test.YtjehnhppfneidaaGreatDoorRmj
set_option linter.unusedVariables false
set_option linter.unusedSimpArgs false
set_option linter.unusedSectionVars false
set_option maxHeartbeats 8000000
set_option maxRecDepth 20000
namespace Go.Proofs.YP
open Go
mutual
def ndT : T → Nat
 | .mk op _ _ l _ => (if isDec op then 1 else 0) + (if isFn op then 0 else ndL l)
def ndL : List T → Nat
 | [] => 0
 | t :: r => ndT t + ndL r
end
mutual
theorem ndT_le : ∀ t : T, ndT t ≤ t.count
 | .mk op s n l x => by
  have := ndL_le l
  simp only [ndT, T.count]
  split <;> split <;> omega
theorem ndL_le : ∀ l : List T, ndL l ≤ T.countL l
 | [] => Nat.le_refl _
 | t :: r => by
  have h1 := ndT_le t
  have h2 := ndL_le r
  simp only [ndL, T.countL]; omega
end
mutual
theorem decT_nd : ∀ (t : T) (out : List ByteArray), (decT t out).length ≤ out.length + ndT t
 | .mk op s n l x, out => by
  have h1 := withS_len out s
  simp only [decT, ndT]
  by_cases hd : isDec op = true
  ·by_cases hf : isFn op = true
   ·simp only [hd, hf, if_true]; omega
   ·have h2 := decL_nd l (withS out s)
    simp only [hd, hf, if_true, if_false, Bool.false_eq_true]; omega
  ·by_cases hf : isFn op = true
   ·simp only [hd, hf, if_true, if_false, Bool.false_eq_true]; omega
   ·have h2 := decL_nd l out
    simp only [hd, hf, if_false, Bool.false_eq_true]; omega
theorem decL_nd : ∀ (l : List T) (out : List ByteArray), (decL l out).length ≤ out.length + ndL l
 | [], out => by simp [decL, ndL]
 | t :: r, out => by
  have h1 := decT_nd t out
  have h2 := decL_nd r (decT t out)
  simp only [decL, ndL]; omega
end
theorem params_len : ∀ (l : List T) (o : List ByteArray), (l.foldl (fun o x => withS o x.s) o).length ≤ o.length + l.length
 | [], o => by simp
 | t :: r, o => by
  have h1 := withS_len o t.s
  have h2 := params_len r (withS o t.s)
  simp only [List.foldl_cons, List.length_cons]; omega
theorem fn_len (op : Int) (s : ByteArray) (l : List T) (at_ : Int) (mark : Nat) : (fnOf' op s l at_ mark).vars.length ≤ (l.length - 1) + 1 + ndT (l.getLast?.getD default) := by
 have h1 := params_len l.dropLast []
 simp only [List.length_nil, List.length_dropLast] at h1
 unfold fnOf' paramsOf
 simp only
 refine Nat.le_trans (decT_nd _ _) ?_
 split
 ·have h2 := withS_len (l.dropLast.foldl (fun o x => withS o x.s) []) s
  omega
 ·omega
def lastC : List T → Nat
 | [] => 0
 | [t] => t.count
 | _ :: u :: r => lastC (u :: r)
theorem lastC_le : ∀ l : List T, lastC l + (l.length - 1) ≤ T.countL l
 | [] => Nat.le_refl _
 | [t] => by simp [lastC, T.countL]
 | t :: u :: r => by
  have h1 := lastC_le (u :: r)
  have h2 := T.count_pos t
  simp only [lastC, T.countL, List.length_cons] at h1 ⊢; omega
mutual
theorem count_bareT : ∀ t : T, (bareT t).count = t.count
 | .mk op s n l x => by simp only [bareT, T.count, count_bareL l]
theorem count_bareL : ∀ l : List T, T.countL (bareL l) = T.countL l
 | [] => rfl
 | t :: r => by simp only [bareL, T.countL, count_bareT t, count_bareL r]
end
def vsum (fs : List Fn) : Nat := (fs.map fun f => f.vars.length).sum
theorem vsum_app (a b : List Fn) : vsum (a ++ b) = vsum a + vsum b := by simp [vsum]
mutual
theorem wT_vsum (at_ : Nat) (loop : Bool) : ∀ (t : T) (w : Wk), vsum (wT at_ loop t w).2.fs + ndT t ≤ vsum w.fs + 2 * t.count
 | .mk op s n l x, w => by
  have hnd := ndT_le (.mk op s n l x)
  by_cases hwe : w.e ≠ 0
  ·rw [wT_errL _ _ _ _ hwe]; simp only; omega
  simp only [wT, if_neg hwe]
  by_cases hf : isFn op = true
  ·rw [if_pos hf]
   split
   ·simp only [fail_fsL]; omega
   ·have h1 := wP_vsum w.fs.length l { w with mark := w.mark + 2, fs := w.fs ++ [fnOf' op s l at_ w.mark] }
    have h2 := fn_len op s l at_ w.mark
    have h3 : ndT (.mk op s n l x) ≤ 1 := by simp only [ndT, hf, if_true]; split <;> omega
    simp only [vsum_app] at h1
    have h4 : vsum [fnOf' op s l at_ w.mark] = (fnOf' op s l at_ w.mark).vars.length := by simp [vsum]
    rw [h4] at h1
    have h5 := lastC_le l
    simp only [T.count] at hnd ⊢
    rcases l with _ | ⟨a, r⟩
    ·have : ndT (([] : List T).getLast?.getD default) = 0 := rfl
     simp only [lastC, List.length_nil, T.countL] at *
     omega
    ·simp only [List.length_cons] at *
     omega
  ·rw [if_neg hf]
   have h1 := wL_vsum at_ ((stepN at_ loop op s n x w).2.1 || decide (op = 35)) l (stepN at_ loop op s n x w).2.2
   rw [stepN_fs] at h1
   have h2 : ndT (.mk op s n l x) ≤ 1 + ndL l := by simp only [ndT, hf, if_false, Bool.false_eq_true]; split <;> omega
   simp only [T.count]
   omega
theorem wL_vsum (at_ : Nat) (loop : Bool) : ∀ (l : List T) (w : Wk), vsum (wL at_ loop l w).2.fs + ndL l ≤ vsum w.fs + 2 * T.countL l
 | [], w => by simp [wL, ndL]
 | t :: r, w => by
  have h1 := wT_vsum at_ loop t w
  have h2 := wL_vsum at_ loop r (wT at_ loop t w).2
  simp only [wL, ndL, T.countL]; omega
theorem wP_vsum (me : Nat) : ∀ (l : List T) (w : Wk), vsum (wP me l w).2.fs + ndT (l.getLast?.getD default) ≤ vsum w.fs + 2 * lastC l
 | [], w => by
  have : ndT (([] : List T).getLast?.getD default) = 0 := rfl
  rw [this]; simp [wP, lastC]
 | [t], w => by
  have h1 := wT_vsum me false t w
  simp only [wP, lastC, List.getLast?_singleton, Option.getD_some]; exact h1
 | t :: u :: r, w => by
  have h1 := wP_vsum me (u :: r) w
  simp only [wP, lastC, List.getLast?_cons_cons]; exact h1
end
theorem resolve_vsum (t : T) (h : (resolve t).2.2.2 = 0) : vsum (resolve t).1 ≤ 2 * t.count := by
 obtain ⟨hr, hl, w, hw, he, hres⟩ := resolve_ok t h
 have h1 := wT_vsum 0 false t w
 have h2 := decT_nd t []
 rw [hres]
 have h3 : vsum w.fs = (decT t []).length := by rw [hw]; simp [vsum]
 simp only [List.length_nil] at h2
 simp only; omega
theorem baseE_vsum : ∀ (l : List Fn) (a : Int), baseE a l = a + (vsum l : Nat) + 3 * (l.length : Nat)
 | [], a => by simp [baseE, vsum]
 | g :: r, a => by
  have := baseE_vsum r (a + (g.vars.length + 3 : Nat))
  simp only [baseE, this, vsum, List.map_cons, List.sum_cons, List.length_cons]
  push_cast; omega
def tX : T := .mk 31 ⟨#[]⟩ 0 [.mk 2 ⟨#[]⟩ 1 [] 0] 0
def moreT : T → T
 | .mk op s n l x => .mk op s n (l ++ [tX]) x
theorem fitL_32 (f : T → Bool) (n m : Nat) : ∀ (i j : Nat) (l : List T), fitL f 32 n i l = fitL f 32 m j l
 | i, j, [] => rfl
 | i, j, x :: r => by
  have h : ∀ a b, partOK 32 a b x.op = isS x.op := fun a b => rfl
  simp only [fitL, h, fitL_32 f n m (i + 1) (j + 1) r]
theorem fitL_app (f : T → Bool) (n : Nat) : ∀ (i : Nat) (a b : List T), fitL f 32 n i (a ++ b) = (fitL f 32 n i a && fitL f 32 n (i + a.length) b)
 | i, [], b => by simp [fitL]
 | i, x :: r, b => by
  simp only [List.cons_append, fitL, fitL_app f n (i + 1) r b, List.length_cons, Bool.and_assoc]
  rw [show i + 1 + r.length = i + (r.length + 1) by omega]
theorem right_more (p : T) (h : right p = true) (hl : p.count ≤ 2000) : right (moreT p) = true := by
 obtain ⟨op, s, n, l, x⟩ := p
 have hll := T.len_le l
 simp only [T.count] at hl
 simp only [right, rBlk, moreT, T.op_mk, Bool.and_eq_true] at h ⊢
 obtain ⟨ho, h⟩ := h
 have ho : op = 32 := of_decide_eq_true ho
 subst ho
 refine ⟨decide_eq_true rfl, ?_⟩
 simp only [fit, Bool.and_eq_true] at h ⊢
 obtain ⟨⟨h1, h2⟩, h3⟩ := h
 refine ⟨⟨?_, h2⟩, ?_⟩
 ·simp [okF, formOf, forms, TX.ok] at h1 ⊢
  exact ⟨h1.1, by omega⟩
 ·rw [fitL_app, Bool.and_eq_true]
  refine ⟨by rw [fitL_32 _ _ l.length _ 0]; exact h3, ?_⟩
  have hx : fit 98 tX = true := by decide +kernel
  simp only [fitL, Bool.and_eq_true]
  exact ⟨⟨rfl, hx⟩, trivial⟩
theorem decL_app : ∀ (a b : List T) (o : List ByteArray), decL (a ++ b) o = decL b (decL a o)
 | [], b, o => rfl
 | t :: r, b, o => by simp only [List.cons_append, decL, decL_app r b]
theorem wL_app (at_ : Nat) (loop : Bool) : ∀ (a b : List T) (w : Wk), wL at_ loop (a ++ b) w = ((wL at_ loop a w).1 ++ (wL at_ loop b (wL at_ loop a w).2).1, (wL at_ loop b (wL at_ loop a w).2).2)
 | [], b, w => by simp [wL]
 | t :: r, b, w => by simp only [List.cons_append, wL, wL_app at_ loop r b]
theorem dec_X (o : List ByteArray) : decT tX o = o := by simp [tX, decT, decL, isDec, isFn]
theorem wL_X (at_ : Nat) (loop : Bool) (w : Wk) (h : w.e = 0) : wL at_ loop [tX] w = ([tX], w) := by
 simp [tX, wL, wT, h, isFn, stepN]
theorem resolve_more (p : T) (h : (resolve p).2.2.2 = 0) (hl : p.count ≤ 2000) : resolve (moreT p) = ((resolve p).1, moreT (resolve p).2.1, 0, 0) := by
 obtain ⟨hr, hd, w, hw, he, hres⟩ := resolve_ok p h
 have hrm := right_more p hr hl
 rw [hres]
 obtain ⟨op, s, n, l, x⟩ := p
 have ho : op = 32 := by
  simp only [right, rBlk, T.op_mk, Bool.and_eq_true] at hr
  exact of_decide_eq_true hr.1
 subst ho
 have hdm : decT (moreT (.mk 32 s n l x)) [] = decT (.mk 32 s n l x) [] := by
  simp [moreT, decT, isDec, isFn, decL_app, decL, dec_X]
 have hstep : ∀ w : Wk, stepN 0 false 32 s n x w = (n, false, w) := fun w => by simp [stepN]
 have hwe : w.e = 0 := by rw [hw]
 have hq : ∀ w : Wk, w.e = 0 → (wT 0 false (.mk 32 s n l x) w).2.e = 0 → wT 0 false (moreT (.mk 32 s n l x)) w = (moreT (wT 0 false (.mk 32 s n l x) w).1, (wT 0 false (.mk 32 s n l x) w).2) := fun w h0 h1 => by
  have hne : ¬ w.e ≠ 0 := by simpa using h0
  simp only [wT, if_neg hne, isFn, hstep, moreT] at h1 ⊢
  simp only [show (decide ((32 : Int) = 41) || decide ((32 : Int) = 10)) = false by decide, Bool.false_eq_true, if_false] at h1 ⊢
  rw [wL_app, wL_X _ _ _ h1]
 have hw2 := hq w hwe he
 unfold resolve
 simp only [hrm, hdm, Bool.not_true, Bool.false_eq_true, if_false]
 rw [if_neg (by omega), ← hw, hw2]
 simp only [he, ne_eq, not_true, if_false]
theorem moreT_count (p : T) : (moreT p).count = p.count + 2 := by
 obtain ⟨op, s, n, l, x⟩ := p
 have : ∀ (a b : List T), T.countL (a ++ b) = T.countL a + T.countL b := fun a b => by
  induction a with
  | nil => simp [T.countL]
  | cons t r ih => simp only [List.cons_append, T.countL, ih]; omega
 simp only [moreT, T.count, this, tX, T.countL]; omega
def skel (r : Rule) : Int × Int × ByteArray × Int := (r.kind, r.m, r.s, r.f)
theorem zip_skel (k0 : Int) (f : Nat) : ∀ (l : List T) (a : Int), ((l.zip (posF a l)).map fun x => skel (Rule.at f { kind := 6, x := k0, y := x.2 + 1, s := x.1.s })) = l.map fun t => ((6 : Int), (0 : Int), t.s, (f : Int))
 | [], a => rfl
 | t :: r, a => by
  simp only [posF, List.zip_cons_cons, List.map_cons, zip_skel k0 f r]
  rfl
theorem own_skel (fs : List Fn) (bs bs' : List Int) (op : Int) (s : ByteArray) (n : Int) (l : List T) (x : Int) (k0 k0' : Int) (f : Nat) (to to' : Int) :
  (ownR fs bs (.mk op s n l x) k0 f to).map skel = (ownR fs bs' (.mk op s n l x) k0' f to').map skel := by
 unfold ownR ownS
 simp only [T.op_mk, T.n_mk, T.s_mk, T.l_mk]
 by_cases o1 : op = 1
 ·subst o1; rfl
 by_cases o8 : op = 8
 ·subst o8; rfl
 by_cases o11 : op = 11
 ·subst o11
  have h1 := zip_skel k0 f l (k0 + 1)
  have h2 := zip_skel k0' f l (k0' + 1)
  simp only [show ¬ (11 : Int) = 1 by decide, show ¬ (11 : Int) = 8 by decide, if_false, if_true, List.map_cons, List.map_map, Function.comp_def]
  rw [h1, h2]
  rfl
 by_cases o13 : op = 13
 ·subst o13; rfl
 by_cases o14 : op = 14
 ·subst o14; rfl
 by_cases o17 : op = 17
 ·subst o17
  rcases l with _ | ⟨t0, r⟩
  ·rfl
  ·simp only [show ¬ (17 : Int) = 1 by decide, show ¬ (17 : Int) = 8 by decide, show ¬ (17 : Int) = 11 by decide, show ¬ (17 : Int) = 13 by decide, show ¬ (17 : Int) = 14 by decide, if_false, if_true, List.getElem?_cons_zero]
   by_cases u1 : t0.op = 1
   ·simp only [u1, if_true]; rfl
   ·by_cases u2 : t0.op = 13
    ·simp only [u1, u2, if_true, if_false, show ¬ (13 : Int) = 1 by decide]; rfl
    ·simp only [u1, u2, if_false]; rfl
 by_cases o21 : op = 21
 ·subst o21; rfl
 by_cases o22 : op = 22
 ·subst o22; rfl
 by_cases o23 : op = 23
 ·subst o23; rfl
 by_cases o15 : op = 15
 ·subst o15
  rcases l with _ | ⟨t0, r⟩ <;> rfl
 by_cases o16 : op = 16
 ·subst o16; rfl
 by_cases o30 : op = 30
 ·subst o30
  rcases l with _ | ⟨t0, r⟩ <;> rfl
 by_cases o36 : op = 36
 ·subst o36
  rcases l with _ | ⟨t0, r⟩ <;> rfl
 by_cases o37 : op = 37
 ·subst o37
  rcases l with _ | ⟨t0, r⟩ <;> rfl
 ·simp [o1, o8, o11, o13, o14, o17, o21, o22, o23, o15, o16, o30, o36, o37]
theorem hd_skel (fs : List Fn) (bs bs' : List Int) (op : Int) (s : ByteArray) (n k0 k0' : Int) (f : Nat) : (hdR fs bs op s n k0 f).map skel = (hdR fs bs' op s n k0' f).map skel := by
 unfold hdR
 simp only [List.map_cons]
 refine congr (congrArg _ rfl) ?_
 split <;> rfl
mutual
theorem rT_skel (fs : List Fn) (bs bs' : List Int) : ∀ (t : T) (k0 k0' : Int) (f : Nat) (to to' : Int) (rd : Bool), (rT fs bs t k0 f to rd).map skel = (rT fs bs' t k0' f to' rd).map skel
 | .mk op s n l x, k0, k0', f, to, to', rd => by
  simp only [rT]
  split
  ·rw [List.map_append, List.map_append, hd_skel fs bs bs' op s n k0 k0' f, rB_skel fs bs bs' n.toNat (k0 + 1) (k0' + 1) l]
  ·rw [List.map_append, List.map_append, rL_skel fs bs bs' op n f to to' 0 (k0 + 1) (k0' + 1) l]
   congr 1
   split
   ·exact own_skel fs bs bs' op s n l x k0 k0' f to to'
   ·rfl
theorem rL_skel (fs : List Fn) (bs bs' : List Int) (op n : Int) (f : Nat) (to to' : Int) : ∀ (i : Nat) (a a' : Int) (l : List T), (rL fs bs op n f to i a l).map skel = (rL fs bs' op n f to' i a' l).map skel
 | _, _, _, [] => rfl
 | i, a, a', t :: r => by
  simp only [rL, List.map_append]
  rw [rT_skel fs bs bs' t a a' f (if op = 38 ∧ i = 0 then vset bs n else to) (if op = 38 ∧ i = 0 then vset bs' n else to'), rL_skel fs bs bs' op n f to to' (i + 1) (a + t.count) (a' + t.count) r]
theorem rB_skel (fs : List Fn) (bs bs' : List Int) (g : Nat) : ∀ (a a' : Int) (l : List T), (rB fs bs g a l).map skel = (rB fs bs' g a' l).map skel
 | _, _, [] => rfl
 | a, a', t :: r => by
  simp only [rB, List.map_append]
  rw [rB_skel fs bs bs' g (a + t.count) (a' + t.count) r]
  congr 1
  split
  ·exact rT_skel fs bs bs' t a a' g _ _ true
  ·rfl
end
theorem rL_app (fs : List Fn) (bs : List Int) (op n : Int) (f : Nat) (to : Int) : ∀ (i : Nat) (a : Int) (l : List T) (t : T), ∃ a', rL fs bs op n f to i a (l ++ [t]) = rL fs bs op n f to i a l ++ rT fs bs t a' f (if op = 38 ∧ i + l.length = 0 then vset bs n else to) (decide (op ≠ 17) || decide (0 < i + l.length))
 | i, a, [], t => ⟨a, by simp [rL]⟩
 | i, a, u :: r, t => by
  obtain ⟨a', h⟩ := rL_app fs bs op n f to (i + 1) (a + u.count) r t
  refine ⟨a', ?_⟩
  simp only [List.cons_append, rL, h, List.append_assoc, List.length_cons]
  rw [show i + 1 + r.length = i + (r.length + 1) by omega]
theorem rT_X (fs : List Fn) (bs : List Int) (k0 : Int) (f : Nat) (to : Int) (rd : Bool) : rT fs bs tX k0 f to rd = [] := by
 cases rd <;> simp [tX, rT, rL, isFn, ownR, ownS]
theorem rT_more (fs : List Fn) (bs bs' : List Int) (s : ByteArray) (n : Int) (l : List T) (x : Int) (k0 k0' : Int) (f : Nat) (to to' : Int) (rd : Bool) :
  (rT fs bs (.mk 32 s n l x) k0 f to rd).map skel = (rT fs bs' (moreT (.mk 32 s n l x)) k0' f to' rd).map skel := by
 have hown : ∀ bs k0 to l, ownR fs bs (.mk 32 s n l x) k0 f to = [] := fun bs k0 to l => by simp [ownR, ownS]
 obtain ⟨a', h⟩ := rL_app fs bs' 32 n f to' 0 (k0' + 1) l tX
 rw [rT_X, List.append_nil] at h
 have h32 : isFn 32 = false := by decide
 simp only [moreT, rT, h32, Bool.false_eq_true, if_false, hown, ite_self, List.nil_append, h]
 exact rL_skel fs bs bs' 32 n f to to' 0 _ _ l
theorem rules_more (p : T) (h : (rulesM p).2.2.2 = 0) (hl : p.count ≤ 1600) : (rulesM (moreT p)).2.2.2 = 0 ∧ (rulesM (moreT p)).2.1.1 = (rulesM p).2.1.1 + 2 ∧ (rulesM (moreT p)).2.1.2.2.map skel = (rulesM p).2.1.2.2.map skel := by
 have h0 : (resolve p).2.2.2 = 0 := by
  refine Classical.byContradiction fun hc => ?_
  unfold rulesM at h
  simp only at h
  rw [if_pos hc] at h
  exact hc h
 have hm := resolve_more p h0 (by omega)
 have hlims := resolve_lims p
 have hvs := resolve_vsum p h0
 have hwc : (resolve p).2.1.count = p.count := by
  have hb := (resolve_bare p h0).1
  have : ∀ t : T, (bareT t).count = t.count := by
   intro t
   exact (count_bareT t)
  have h1 := this (resolve p).2.1
  rw [hb] at h1
  exact h1.symm
 have hop : (resolve p).2.1.op = 32 := by
  obtain ⟨hr, -⟩ := resolve_ok p h0
  have hb := (resolve_bare p h0).1
  have h1 := bare_op (resolve p).2.1
  rw [hb] at h1
  rw [← h1]
  simp only [right, rBlk, Bool.and_eq_true] at hr
  exact of_decide_eq_true hr.1
 unfold rulesM
 simp only [hm]
 have hb1 := baseE_vsum (resolve p).1 ((resolve p).2.1.count : Nat)
 have hb2 := baseE_vsum (resolve p).1 ((moreT (resolve p).2.1).count : Nat)
 rw [moreT_count] at hb2
 rw [moreT_count]
 have e1 : ¬ 100000 < baseE ((resolve p).2.1.count : Nat) (resolve p).1 + 9 := by omega
 have e2 : ¬ 100000 < baseE (((resolve p).2.1.count + 2 : Nat) : Int) (resolve p).1 + 9 := by omega
 rw [if_neg (by simp), if_neg e2, if_neg (by simpa using h0), if_neg e1]
 refine ⟨rfl, by simp only; push_cast at hb2 ⊢; omega, ?_⟩
 simp only
 generalize (resolve p).2.1 = q at *
 obtain ⟨op, s, n, l, x⟩ := q
 simp only [T.op_mk] at hop
 subst hop
 exact (rT_more _ _ _ _ _ _ _ _ _ _ _ _ _).symm
mutual
theorem szT_cnt : ∀ (t : T) (left : Int), 0 ≤ szT left t → szT left t ≤ left - (t.count : Nat)
 | .mk _ _ _ l _, left, h => by
  simp only [szT] at h ⊢
  have := szL_cnt l (left - 1) h
  simp only [T.count]; omega
theorem szL_cnt : ∀ (l : List T) (left : Int), 0 ≤ szL left l → szL left l ≤ left - (T.countL l : Nat)
 | [], left, h => by simp [szL, T.countL]
 | t :: r, left, h => by
  simp only [szL] at h ⊢
  split at h
  ·omega
  ·rename_i hl
   rw [if_neg hl]
   have h1 := szL_cnt r (szT left t) h
   have h2 := szT_cnt t left (by omega)
   simp only [T.countL]; omega
end
theorem okL_app : ∀ (a b : List T), T.okL a → T.okL b → T.okL (a ++ b)
 | [], b, _, h => h
 | t :: r, b, h, k => ⟨h.1, okL_app r b h.2 k⟩
theorem skel_at {R R' : List Rule} (h : R'.map skel = R.map skel) : R'.length = R.length ∧ ∀ (j : Nat) (r : Rule), R[j]? = some r → ∃ r', R'[j]? = some r' ∧ r'.kind = r.kind ∧ r'.m = r.m ∧ r'.s = r.s ∧ r'.f = r.f := by
 refine ⟨by simpa using congrArg List.length h, fun j r hr => ?_⟩
 have h1 : (R'.map skel)[j]? = some (skel r) := by rw [h, List.getElem?_map, hr]; rfl
 rw [List.getElem?_map] at h1
 cases e : R'[j]? with
 | none => rw [e] at h1; cases h1
 | some r' =>
  rw [e] at h1
  have h2 := Option.some.inj h1
  simp only [skel, Prod.mk.injEq] at h2
  exact ⟨r', rfl, h2.1, h2.2.1, h2.2.2.1, h2.2.2.2⟩
theorem encR_at : ∀ {l : List Rule} {i : Nat} {x : Rule}, l[i]? = some x → ∀ j, j < 9 → (encR l)[i * 9 + j]? = x.enc[j]?
 | [], i, x, h, j, hj => by simp at h
 | a :: l, 0, x, h, j, hj => by
  simp at h; subst h
  simp only [encR, Nat.zero_mul, Nat.zero_add]
  rw [List.getElem?_append_left (by rw [Rule.enc_len]; exact hj)]
 | a :: l, i + 1, x, h, j, hj => by
  have ih := encR_at (l := l) (i := i) (by simpa using h) j hj
  simp only [encR]
  rw [List.getElem?_append_right (by rw [Rule.enc_len]; omega), Rule.enc_len, ← ih]
  congr 1; omega
theorem rnd14 {E : Env} {st : St} (S S' fv fv' : AV) (b5 b10 : Nat) (R R' : List Rule) (hRl : R.length ≤ 1000000000000) (hll : R'.length = R.length) (s : List AV) (hs : s.length = 145) (e5 : lk s 5 = .ptr b5 0) (e10 : lk s 10 = .ptr b10 0) (j : Nat) (e13 : lk s 13 = .int .i64 j)
  (p5 : st.H[b5]? = some (.cells 49 [S, fv, .sl none R.length (encR R)])) (p10 : st.H[b10]? = some (.cells 49 [S', fv', .sl none R.length (encR R')])) (r r' : Rule) (hg : R[j]? = some r) (hg' : R'[j]? = some r') (q1 : r'.kind = r.kind) (q2 : r'.m = r.m) (q3 : r'.s = r.s) (q4 : r'.f = r.f) (m : List Nat) (k : Nat) (Q : Q4)
  (hQ : ∀ s', s'.length = 145 → (∀ q, q = 3 ∨ q = 5 ∨ q = 10 → lk s' q = lk s q) → lk s' 13 = .int .i64 ((j + 1 : Nat) : Int) → Q .nrm s' m st) :
  WP (aCall prog k) E k none l14 s m st Q := by
 have hjl := (List.getElem?_eq_some_iff.1 hg).1
 have hwj := wrap64 (n := (j : Int) + 1) (by omega)
 have a0 : (encR R)[j * 9]? = some (.int .i64 r.kind) := encR_at hg 0 (by omega)
 have a1 : (encR R)[j * 9 + 1]? = some (.int .i64 r.f) := encR_at hg 1 (by omega)
 have a6 : (encR R)[j * 9 + 6]? = some (.int .i64 r.m) := encR_at hg 6 (by omega)
 have a7 : (encR R)[j * 9 + 7]? = some (.str r.s) := encR_at hg 7 (by omega)
 have c0 : (encR R')[j * 9]? = some (.int .i64 r'.kind) := encR_at hg' 0 (by omega)
 have c1 : (encR R')[j * 9 + 1]? = some (.int .i64 r'.f) := encR_at hg' 1 (by omega)
 have c6 : (encR R')[j * 9 + 6]? = some (.int .i64 r'.m) := encR_at hg' 6 (by omega)
 have c7 : (encR R')[j * 9 + 7]? = some (.str r'.s) := encR_at hg' 7 (by omega)
 rw [q1] at c0
 rw [q4] at c1
 rw [q2] at c6
 rw [q3] at c7
 generalize encR R = A at p5 a0 a1 a6 a7
 generalize encR R' = C at p10 c0 c1 c6 c7
 have a0' := (List.getElem?_eq_some_iff.1 a0).2
 have a1' := (List.getElem?_eq_some_iff.1 a1).2
 have a6' := (List.getElem?_eq_some_iff.1 a6).2
 have a7' := (List.getElem?_eq_some_iff.1 a7).2
 have c0' := (List.getElem?_eq_some_iff.1 c0).2
 have c1' := (List.getElem?_eq_some_iff.1 c1).2
 have c6' := (List.getElem?_eq_some_iff.1 c6).2
 have c7' := (List.getElem?_eq_some_iff.1 c7).2
 unfold l14
 simp [hs, e5, e13, p5, hjl]
 simp [-nxtD_ok2, -sb_some, nxtD_ok2L, sb_someL, Nat.testBit, hs, e5, e10, e13, p5, p10, hjl, a0, a1, a6, a7, c0, c1, c6, c7, a0', a1', a6', a7', c0', c1', c6', c7', isEff]
 simp [hs, e13, hwj]
 refine hQ _ ?_ (fun q hq => ?_) ?_
 ·simp [hs]
 ·rcases hq with rfl | rfl | rfl <;> simp [hs]
 ·simp [hs]
theorem rules_sets (t : T) : -9223372036854775808 ≤ (rulesM t).2.1.1 + 2 ∧ (rulesM t).2.1.1 + 2 ≤ 9223372036854775807 := by
 have hb := baseE_ge (resolve t).1 ((resolve t).2.1.count : Nat) (resolve t).1.length
 rw [List.take_length] at hb
 unfold rulesM
 simp only
 split
 ·simp only; omega
 ·split
  ·simp only; omega
  ·simp only; omega
theorem f14 (t : T) (ht : t.ok) (hw : t.wt ≤ 100000000) (k : Nat) (hk : 40 * t.wt + 2000000 ≤ k) (E : Env) (st : St) (hE : E.Wf st)
  (h32 : ∀ y, doCall (aCall prog k) E .full (.fn 32) [] ⟨st.H ++ [y], st.I⟩ = some (.ok (.bool true), ⟨st.H ++ [y], st.I⟩)) : CallQ (k + 1) E 14 [.agg t.enc] st (Tru st) := by
 have hmw := mayWrite_new hE
 have hmw1 : ∀ j x y, mayWrite E (st.H.length + j) x y = true := fun j x y => hmw _ _ _ (by omega)
 have hrom := hE.rom
 have hcw0 := count_wt t
 have c19 := fun st3 (h : E.Wf st3) => (f19 t k (by omega)).full (E := E) (st := st3) rfl h
 have c33 := fun st3 (h : E.Wf st3) => (rules33 t ht (by omega) k (by omega)).full (E := E) (st := st3) (rulV_refs _) h
 obtain ⟨h1, h2, h3⟩ := rulesM_lims t
 have hmr := rules_more t
 have hS2 : (rulesM t).2.2.2 = 0 → IntKind.i64.wrap ((rulesM t).2.1.1 + 2) = (rulesM t).2.1.1 + 2 := fun hy => wrap64 (rules_sets t)
 have hsz := szT_cnt t 1500
 have hmok : t.l.length + 1 ≤ 1073741824 → (moreT t).ok := fun hl => by
  obtain ⟨op, s0, nn, l, line⟩ := t
  obtain ⟨a1, a2, a3, a4, a5, a6⟩ := ht
  refine ⟨a1, by simp only [List.length_append, List.length_cons, List.length_nil]; simpa using hl, a3, a4, a5, ?_⟩
  have hX : tX.ok := by simp [tX, T.ok, T.okL, ok64]; decide
  exact okL_app _ _ a6 ⟨hX, trivial⟩
 have hmwt : (moreT t).wt ≤ t.wt + 2 := by
  obtain ⟨op, s0, nn, l, line⟩ := t
  have : ∀ (a b : List T), T.wtL (a ++ b) = T.wtL a + T.wtL b := fun a b => by
   induction a with
   | nil => simp [T.wtL]
   | cons t r ih => simp only [List.cons_append, T.wtL, ih]; omega
  have hX : T.wtL [tX] = 2 := by decide
  simp only [moreT, T.wt, this, hX]; omega
 have c33m := fun hl st3 (h : E.Wf st3) (args' : List AV) (ha : args'.map AV.arg = [.agg (moreT t).enc]) => (rules33 (moreT t) (hmok hl) (by omega) k (by omega)).fullA (args' := args') (E := E) (st := st3) (rulV_refs _) h ha
 obtain ⟨op, s0, nn, l, line⟩ := t
 have hlt := T.len_le l
 rw [rulesM_sys] at c33
 rw [rulesM_sys] at c33m
 generalize rulesM (.mk op s0 nn l line) = Rr at *
 generalize rulesM (moreT (.mk op s0 nn l line)) = Rm at *
 obtain ⟨fs, ⟨S, F, R⟩, x, y⟩ := Rr
 obtain ⟨fs', ⟨S', F', R'⟩, x', y'⟩ := Rm
 simp only at c33 c33m h1 h2 h3 hmr
 simp only [T.enc, sysE] at c19 c33
 simp only [T.l_mk, sysE] at c33m
 refine call_in1 (c0 := y14a) rfl rfl (by decide) fun s hs e0 => ?_
 have hE1 : ∀ y, E.Wf ⟨st.H ++ y, st.I⟩ := fun y => hE.of (by simp) (by simp)
 unfold y14a
 by_cases h : szT 1500 (.mk op s0 nn l line) < 0
 ·simp [hs, e0, h32, c19 _ (hE1 _), h]
  exact .of (Grow.appH _ _)
 have hcnt := hsz (by omega)
 simp only [T.count] at hcnt hcw0
 have hw1 := wrap64 (n := (l.length : Int) + 1) (by omega)
 have hb1 : (0 : Int) ≤ (l.length : Int) + 1 := by omega
 have hb2 : (l.length : Int) + 1 ≤ 1073741824 := by omega
 have hencl := T.encL_length l
 have henco := T.encL_one l
 have happ1 : ∀ H : List ABlk, appA E ⟨H, st.I ++ [(0, 5)]⟩ 5 64 (.sl (some st.I.length) 0 []) (.sl none l.length (T.encL l)) = some (.sl (some st.I.length) l.length (T.encL l), ⟨H, st.I ++ [(l.length, 5)]⟩) := fun H => by
  have g1 : l.length * 64 ≤ 70368744177664 := by omega
  have g2 : l.length ≤ 70368744177664 := by omega
  simp [appA, srcA, hencl, henco, hrom, g1, g2]
 have happ2 : ∀ H : List ABlk, appA E ⟨H, st.I ++ [(l.length, 5)]⟩ 5 64 (.sl (some st.I.length) l.length (T.encL l)) (.sl none 1 tX.enc) = some (.sl (some st.I.length) (l.length + 1) (T.encL l ++ tX.enc), ⟨H, st.I ++ [(l.length + 1, 5)]⟩) := fun H => by
  have g1 : (l.length + 1) * 64 ≤ 70368744177664 := by omega
  have g2 : l.length + 1 ≤ 70368744177664 := by omega
  have hxl : tX.enc.length = 1 * 5 := rfl
  have hxo := T.enc_one tX
  have hxf := T.enc_fin 0 tX
  simp only [appA, srcA, hxl, hxo, hxf, decide_true, Bool.and_self, guardb_true, obind_some]
  simp [hencl, hrom, g1, g2]
 have hXe : tX.enc = [.int .i64 31, .str ⟨#[]⟩, .int .i64 0, .sl none 1 [.int .i64 2, .str ⟨#[]⟩, .int .i64 1, .sl none 0 [], .int .i64 0], .int .i64 0] := rfl
 have hargs : [AV.agg [.int .i64 op, .str s0, .int .i64 nn, .sl (some st.I.length) (l.length + 1) (T.encL l ++ tX.enc), .int .i64 line]].map AV.arg = [.agg (moreT (.mk op s0 nn l line)).enc] := by
  have : T.encL (l ++ [tX]) = T.encL l ++ tX.enc := by rw [T.encL_append]; simp [T.encL]
  simp [moreT, T.enc, this, finL_append, hXe]
 have hE2 : ∀ y z, E.Wf ⟨st.H ++ y, st.I ++ z⟩ := fun y z => hE.of (by simp) (by simp)
 have c33m := fun y z => c33m (by omega) ⟨st.H ++ y, st.I ++ z⟩ (hE2 y z) _ hargs
 rw [hXe] at happ2 c33m
 have hG : ∀ y z, Grow st ⟨st.H ++ y, st.I ++ z⟩ := fun y z => ⟨List.prefix_append _ _, List.prefix_append _ _⟩
 by_cases hy : y = 0
 rotate_left
 ·by_cases hyy : y = y'
  ·subst hyy
   simp [hs, e0, h32, c19 _ (hE1 _), h, c33 _ (hE1 _), storeA, hmw, hmw1, wrC]
   simp [Nat.testBit, hs, hw1, hb1, hb2, happ1, happ2, fillA, wrC, storeA, hmw1, isEff]
   simp [hs, c33m, storeA, hmw1, wrC, hy]
   exact .of (hG _ _)
  ·simp [hs, e0, h32, c19 _ (hE1 _), h, c33 _ (hE1 _), storeA, hmw, hmw1, wrC]
   simp [Nat.testBit, hs, hw1, hb1, hb2, happ1, happ2, fillA, wrC, storeA, hmw1, isEff]
   simp [hs, c33m, storeA, hmw1, wrC, hy, hyy]
   exact .of (hG _ _)
 obtain ⟨d1, d2, d3⟩ := hmr hy (by simp only [T.count]; omega)
 subst hy d1 d2
 obtain ⟨hll, hat⟩ := skel_at d3
 have hwS : IntKind.i64.wrap (S + 2) = S + 2 := hS2 rfl
 simp [hs, e0, h32, c19 _ (hE1 _), h, c33 _ (hE1 _), storeA, hmw, hmw1, wrC]
 simp [Nat.testBit, hs, hw1, hb1, hb2, happ1, happ2, fillA, wrC, storeA, hmw1, isEff]
 simp [hs, c33m, storeA, hmw1, wrC, hwS, hll]
 refine WP_loop (fun n s m st' => ∃ j : Nat, j ≤ R.length ∧ n = R.length - j ∧ m = [] ∧ st' = ⟨st.H ++ [ABlk.cells 24 [.int .i64 op, .str s0, .int .i64 nn, .sl none l.length (T.encL l), .int .i64 line], .cells 49 [.int .i64 S, .sl none F.length (encFS F), .sl none R.length (encR R)], .cells 24 [.int .i64 op, .str s0, .int .i64 nn, .sl (some st.I.length) (l.length + 1) (T.encL l ++ [.int .i64 31, .str ⟨#[]⟩, .int .i64 0, .sl none 1 [.int .i64 2, .str ⟨#[]⟩, .int .i64 1, .sl none 0 [], .int .i64 0], .int .i64 0]), .int .i64 line], .cells 49 [.int .i64 (S + 2), .sl none F'.length (encFS F'), .sl none R.length (encR R')]], st.I ++ [(l.length + 1, 5)]⟩ ∧ s.length = 145 ∧ lk s 3 = .bool true ∧ lk s 5 = .ptr (st.H.length + 1) 0 ∧ lk s 10 = .ptr (st.H.length + 3) 0 ∧ lk s 13 = .int .i64 j) R.length (by omega)
  ⟨0, by omega, by omega, rfl, rfl, by simp [hs], by simp [hs], by simp [hs], by simp [hs], by simp [hs]⟩ ?_
 clear hs e0 s
 rintro _ s _ _ ⟨j, hj, rfl, rfl, rfl, hs, e3, e5, e10, e13⟩
 have p5 : (st.H ++ [ABlk.cells 24 [.int .i64 op, .str s0, .int .i64 nn, .sl none l.length (T.encL l), .int .i64 line], .cells 49 [.int .i64 S, .sl none F.length (encFS F), .sl none R.length (encR R)], .cells 24 [.int .i64 op, .str s0, .int .i64 nn, .sl (some st.I.length) (l.length + 1) (T.encL l ++ [.int .i64 31, .str ⟨#[]⟩, .int .i64 0, .sl none 1 [.int .i64 2, .str ⟨#[]⟩, .int .i64 1, .sl none 0 [], .int .i64 0], .int .i64 0]), .int .i64 line], .cells 49 [.int .i64 (S + 2), .sl none F'.length (encFS F'), .sl none R.length (encR R')]])[st.H.length + 1]? = some (.cells 49 [.int .i64 S, .sl none F.length (encFS F), .sl none R.length (encR R)]) := by rw [getE_app]; rfl
 have p10 : (st.H ++ [ABlk.cells 24 [.int .i64 op, .str s0, .int .i64 nn, .sl none l.length (T.encL l), .int .i64 line], .cells 49 [.int .i64 S, .sl none F.length (encFS F), .sl none R.length (encR R)], .cells 24 [.int .i64 op, .str s0, .int .i64 nn, .sl (some st.I.length) (l.length + 1) (T.encL l ++ [.int .i64 31, .str ⟨#[]⟩, .int .i64 0, .sl none 1 [.int .i64 2, .str ⟨#[]⟩, .int .i64 1, .sl none 0 [], .int .i64 0], .int .i64 0]), .int .i64 line], .cells 49 [.int .i64 (S + 2), .sl none F'.length (encFS F'), .sl none R.length (encR R')]])[st.H.length + 3]? = some (.cells 49 [.int .i64 (S + 2), .sl none F'.length (encFS F'), .sl none R.length (encR R')]) := by rw [getE_app]; rfl
 by_cases hc : j < R.length
 ·obtain ⟨r, hg⟩ : ∃ r, R[j]? = some r := ⟨_, List.getElem?_eq_getElem hc⟩
  obtain ⟨r', hg', b1, b2, b3, b4⟩ := hat j r hg
  refine rnd14 (.int .i64 S) (.int .i64 (S + 2)) (.sl none F.length (encFS F)) (.sl none F'.length (encFS F')) (st.H.length + 1) (st.H.length + 3) R R' (by omega) hll s hs e5 e10 j e13 p5 p10 r r' hg hg' b1 b2 b3 b4 [] k _ ?_
  intro s' q1 q2 q3
  exact ⟨_, by omega, j + 1, by omega, rfl, rfl, rfl, q1, (q2 3 (by omega)).trans e3, (q2 5 (by omega)).trans e5, (q2 10 (by omega)).trans e10, q3⟩
 have : j = R.length := by omega
 subst this
 have hGf := hG [ABlk.cells 24 [.int .i64 op, .str s0, .int .i64 nn, .sl none l.length (T.encL l), .int .i64 line], .cells 49 [.int .i64 S, .sl none F.length (encFS F), .sl none R.length (encR R)], .cells 24 [.int .i64 op, .str s0, .int .i64 nn, .sl (some st.I.length) (l.length + 1) (T.encL l ++ [.int .i64 31, .str ⟨#[]⟩, .int .i64 0, .sl none 1 [.int .i64 2, .str ⟨#[]⟩, .int .i64 1, .sl none 0 [], .int .i64 0], .int .i64 0]), .int .i64 line], .cells 49 [.int .i64 (S + 2), .sl none F'.length (encFS F'), .sl none R.length (encR R')]] [(l.length + 1, 5)]
 generalize st.H ++ [ABlk.cells 24 [.int .i64 op, .str s0, .int .i64 nn, .sl none l.length (T.encL l), .int .i64 line], .cells 49 [.int .i64 S, .sl none F.length (encFS F), .sl none R.length (encR R)], .cells 24 [.int .i64 op, .str s0, .int .i64 nn, .sl (some st.I.length) (l.length + 1) (T.encL l ++ [.int .i64 31, .str ⟨#[]⟩, .int .i64 0, .sl none 1 [.int .i64 2, .str ⟨#[]⟩, .int .i64 1, .sl none 0 [], .int .i64 0], .int .i64 0]), .int .i64 line], .cells 49 [.int .i64 (S + 2), .sl none F'.length (encFS F'), .sl none R.length (encR R')]] = HH at p5 p10 hGf ⊢
 unfold l14
 simp [hs, e3, e5, e13, p5]
 exact .of hGf
theorem says14 (t : T) (ht : t.ok) (hw : t.wt ≤ 1048576) : Says 14 [.agg t.enc] :=
 says_of (f14 t ht (by omega) (40 * t.wt + 2000000) (Nat.le_refl _) E0 ⟨[], []⟩ wf0 (fun y => k32at (by omega) y))
end Go.Proofs.YP
