/- PURE: scopes: bare (26). -/
import Derived.Test.YtjehnhppfneidaaGreatDoorSch
set_option linter.unusedVariables false
set_option linter.unusedSimpArgs false
namespace Go.Proofs.YP
open Go
theorem bareL_eq : ∀ l, bareL l = l.map bareT
  | [] => rfl
  | t :: r => by simp [bareL, bareL_eq r]
set_option maxHeartbeats 2000000 in
theorem f26 (n : Nat) : ∀ t : T, t.wt ≤ n → t.wt ≤ 100000000000 → ∀ k, n + 2 ≤ k → PureC k 26 [.agg t.enc] (.agg (bareT t).enc) := by
  induction n with
  | zero => intro t h; cases t; simp [T.wt] at h
  | succ n ih =>
    intro t ht htm k hk E st hE
    obtain ⟨k, rfl⟩ : ∃ k', k = k' + 1 := ⟨k - 1, by omega⟩
    obtain ⟨op, s0, nn, l, line⟩ := t
    simp only [T.wt] at ht htm
    have hlw := T.len_wtL l
    have hmw := mayWrite_new hE
    have hmw0 : ∀ j x y, mayWrite E (st.H.length + j) x y = true := fun j x y => hmw _ _ _ (by omega)
    have hrom := hE.rom
    generalize hn2 : (if op = 2 then nn else 0) = n2
    have hgoal : bareT (.mk op s0 nn l line) = .mk op s0 n2 (l.map bareT) line := by simp only [bareT, bareL_eq, hn2]
    rw [hgoal]
    refine call_in1 rfl rfl (by decide) fun s hs e0 => ?_
    rw [WP_assoc]
    refine WP_seqM (fun s' m' st' => m' = [] ∧ s'.length = 28 ∧ lk s' 1 = .ptr st.H.length 0 ∧ lk s' 2 = .ptr (st.H.length + 1) 0 ∧ st' = ⟨st.H ++ [.cells 24 [.int .i64 op, .str s0, .int .i64 n2, .sl none l.length (T.encL l), .int .i64 line], .cells 24 [.int .i64 0, .str ⟨#[]⟩, .int .i64 0, .nils, .int .i64 0]], st.I⟩) ?_ ?_
    · by_cases h2 : op = 2
      · rw [if_pos h2] at hn2
        subst hn2
        simp [hs, e0, h2]
        exact ⟨rfl, rfl, by simp [hs], by simp [hs], by simp [hs], by rw [h2]⟩
      · rw [if_neg h2] at hn2
        subst hn2
        simp [hs, e0, h2, storeA, hmw, wrC]
        exact ⟨rfl, rfl, by simp [hs], by simp [hs], by simp [hs], rfl⟩
    clear hs e0 s
    rintro s _ _ ⟨rfl, hs, e1, e2, rfl⟩
    simp [hs, e1, e2]
    refine WP_loop (fun n s m st' => ∃ (j : Nat) (v : AV) (I' : List (Nat × Nat)), j ≤ l.length ∧ n = l.length - j ∧ s.length = 28 ∧ m = [] ∧ lk s 1 = .ptr st.H.length 0 ∧ lk s 2 = .ptr (st.H.length + 1) 0 ∧ lk s 3 = v ∧ lk s 4 = .int .i64 j ∧
      st' = ⟨st.H ++ [.cells 24 [.int .i64 op, .str s0, .int .i64 n2, .sl none l.length (T.encL l), .int .i64 line], .cells 24 [.int .i64 0, .str ⟨#[]⟩, .int .i64 0, .nils, .int .i64 0]], I'⟩ ∧ AccT st.I.length I' ((l.take j).map bareT) v ∧ IOld st.I.length st.I I') l.length (by omega)
      ⟨0, .nils, st.I, by omega, by omega, by simp [hs], rfl, by simp [hs, e1], by simp [hs, e2], by simp [hs], by simp [hs], rfl, .inl ⟨rfl, rfl⟩, .refl _ _⟩ ?_
    clear hs e1 e2 s
    rintro _ s m _ ⟨j, v, I', hj, rfl, hs, rfl, e1, e2, e3, e4, rfl, hac, hio⟩
    have hil := hio.len
    by_cases hc : j < l.length
    · obtain ⟨t, hg⟩ : ∃ t, l[j]? = some t := ⟨_, List.getElem?_eq_getElem hc⟩
      have hrd := T.rd hg
      have hwj := wrap64 (n := (j : Int) + 1) (by omega)
      have hwt := T.wtL_get hg
      have c26 := (ih t (by omega) (by omega) k (by omega)).full (E := E) (st := ⟨st.H ++ [.cells 24 [.int .i64 op, .str s0, .int .i64 n2, .sl none l.length (T.encL l), .int .i64 line], .cells 24 [.int .i64 0, .str ⟨#[]⟩, .int .i64 0, .nils, .int .i64 0]], I'⟩) (by simp) (hE.of (by simp) hil)
      obtain ⟨v', I2, happ, hac2, hio2⟩ := (hac.push (1, 5)).app (E := E) (H := st.H ++ [.cells 24 [.int .i64 op, .str s0, .int .i64 n2, .sl none l.length (T.encL l), .int .i64 line], .cells 24 [.int .i64 0, .str ⟨#[]⟩, .int .i64 0, .nils, .int .i64 0]]) (by simp; omega) hrom (by simp; omega) (bareT t) I'.length
      have hnew : (l.take j).map bareT ++ [bareT t] = (l.take (j + 1)).map bareT := by rw [List.take_add_one, hg]; simp
      rw [hnew] at hac2
      rw [T.enc_eq] at hrd
      rw [T.enc_eq t, T.enc_eq (bareT t)] at c26
      rw [T.enc_eq] at happ
      simp [hs, e1, e2, e3, e4, hc, hrd, c26, fillA, wrC]
      simp [hs, e3, e4, happ, hwj]
      exact ⟨_, by omega, j + 1, v', I2, by omega, rfl, by simp [hs], rfl, by simp [hs, e1], by simp [hs, e2], by simp [hs], by simp [hs], rfl, hac2, hio.trans ((IOld.push _ _ _).trans hio2)⟩
    · have hjl : l.take j = l := List.take_of_length_le (by omega)
      rw [hjl] at hac
      have hvc := hac.cells
      have hvo := hac.one
      have hvf := hac.fin st.I.length (Nat.le_refl _)
      simp [hs, e1, e2, e3, e4, hc, storeA, hmw, hmw0, wrC, hvc, hvo]
      simp [hs, e2, hvf]
      exact ⟨List.prefix_append _ _, hio.pfx⟩
end Go.Proofs.YP
/- Plain laws of resolving: lines make no difference but to an error's line. -/
set_option linter.unusedVariables false
set_option linter.unusedSimpArgs false
namespace Go.Proofs.YP
open Go
mutual
def linT (L : Int) : T → T
  | .mk op s n l _ => .mk op s n (linL L l) L
def linL (L : Int) : List T → List T
  | [] => []
  | t :: r => linT L t :: linL L r
end
def linW (L : Int) (w : Wk) : Wk := { w with line := if w.e = 0 then 0 else L }
@[simp] theorem linW_e (L w) : (linW L w).e = w.e := rfl
@[simp] theorem linW_fs (L w) : (linW L w).fs = w.fs := rfl
@[simp] theorem linW_mark (L w) : (linW L w).mark = w.mark := rfl
theorem linW_fail (L : Int) (w : Wk) (e x : Int) (he : e ≠ 0) : linW L (w.fail e x) = (linW L w).fail e L := by
  by_cases h : w.e = 0
  · simp [Wk.fail, linW, h, he]
  · simp [Wk.fail, linW, h]
theorem linL_eq (L : Int) : ∀ l, linL L l = l.map (linT L)
  | [] => rfl
  | t :: r => by simp [linL, linL_eq L r]
@[simp] theorem linT_op (L t) : (linT L t).op = t.op := by cases t; rfl
@[simp] theorem linT_s (L t) : (linT L t).s = t.s := by cases t; rfl
mutual
theorem lin_decT (L : Int) : ∀ (t : T) (out : List ByteArray), decT (linT L t) out = decT t out
  | .mk op s n l x, out => by simp only [linT, decT, lin_decL L l]
theorem lin_decL (L : Int) : ∀ (l : List T) (out : List ByteArray), decL (linL L l) out = decL l out
  | [], out => rfl
  | t :: r, out => by simp only [linL, decL, lin_decT L t, lin_decL L r]
end
theorem lin_fitL (L : Int) (f : T → Bool) (op : Int) (len : Nat) : ∀ i l, (∀ t ∈ l, f (linT L t) = f t) → fitL f op len i (linL L l) = fitL f op len i l
  | i, [], _ => rfl
  | i, t :: r, h => by simp only [linL, fitL, linT_op, h t (by simp), lin_fitL L f op len (i + 1) r fun u hu => h u (by simp [hu])]
theorem lin_fit (L : Int) : ∀ (h : Nat) (t : T), fit h (linT L t) = fit h t
  | 0, t => by simp [fit]
  | h + 1, .mk op s n l x => by
    have hl : (linL L l).length = l.length := by simp [linL_eq]
    simp only [linT, fit, hl, lin_fitL L _ _ _ _ l fun t _ => lin_fit L h t]
theorem lin_right (L : Int) (t : T) : right (linT L t) = right t := by
  simp [right, rBlk, lin_fit]
theorem lin_params (L : Int) (l : List T) : paramsOf (linL L l) = paramsOf l := by
  simp only [paramsOf, linL_eq, ← List.map_dropLast, List.foldl_map, linT_s]
theorem lin_fn (L : Int) (op : Int) (s : ByteArray) (l : List T) (hl : l ≠ []) (at_ : Int) (mark : Nat) : fnOf' op s (linL L l) at_ mark = fnOf' op s l at_ mark := by
  have : (linL L l).getLast?.getD default = linT L (l.getLast?.getD default) := by
    rw [linL_eq, List.getLast?_map, List.getLast?_eq_some_getLast hl]; rfl
  simp only [fnOf', lin_params, this, lin_decT]
theorem lin_stepN (L : Int) (at_ : Nat) (loop : Bool) (op : Int) (s : ByteArray) (n x : Int) (w : Wk) :
    stepN at_ loop op s n L (linW L w) = ((stepN at_ loop op s n x w).1, (stepN at_ loop op s n x w).2.1, linW L (stepN at_ loop op s n x w).2.2) := by
  have h50 := linW_fail L w 50 x (by decide)
  have h51 := linW_fail L w 51 x (by decide)
  by_cases h1 : op = 1
  · simp only [stepN, if_pos h1, linW_fs]
    by_cases hv : varNo w.fs at_ s < 0
    · simp only [hv, if_true, h50]
    · simp only [hv, if_false]
  by_cases h2 : op = 30 ∨ op = 35 ∨ op = 38
  · simp only [stepN, if_neg h1, if_pos h2, linW_fs]
  by_cases h3 : op = 11 ∨ op = 16 ∨ op = 15
  · simp only [stepN, if_neg h1, if_neg h2, if_pos h3, linW_mark]; rfl
  by_cases h4 : op = 36
  · simp only [stepN, if_neg h1, if_neg h2, if_neg h3, if_pos h4]
    by_cases hv : at_ = 0
    · simp only [hv, if_true, h51]
    · simp only [hv, if_false]
  by_cases h5 : op = 39 ∨ op = 40
  · simp only [stepN, if_neg h1, if_neg h2, if_neg h3, if_neg h4, if_pos h5]
    cases loop
    · simp only [Bool.false_eq_true, if_false, h51]
    · simp only [if_true]
  simp only [stepN, if_neg h1, if_neg h2, if_neg h3, if_neg h4, if_neg h5]
  by_cases h6 : op = 34
  · simp only [if_pos h6]
  · simp only [if_neg h6]
mutual
theorem lin_wT (L : Int) (at_ : Nat) (loop : Bool) : ∀ (t : T) (w : Wk), t.wf → wT at_ loop (linT L t) (linW L w) = (linT L (wT at_ loop t w).1, linW L (wT at_ loop t w).2)
  | .mk op s n l x, w, h => by
    simp only [linT, wT]
    by_cases he : w.e ≠ 0
    · rw [if_pos (show (linW L w).e ≠ 0 from he), if_pos he]; rfl
    rw [if_neg (show ¬ (linW L w).e ≠ 0 from he), if_neg he]
    by_cases hf : isFn op = true
    · rw [if_pos hf, if_pos hf, lin_fn L op s l (h.2.1 hf).1]
      by_cases hl : w.fs.length = 500 ∨ 200 < (fnOf' op s l at_ w.mark).vars.length
      · rw [if_pos (show (linW L w).fs.length = 500 ∨ 200 < (fnOf' op s l at_ (linW L w).mark).vars.length from hl), if_pos hl]
        have h1 := linW_fail L { w with mark := w.mark + 2 } 52 x (by decide)
        rw [h1]; rfl
      · rw [if_neg (show ¬ ((linW L w).fs.length = 500 ∨ 200 < (fnOf' op s l at_ (linW L w).mark).vars.length) from hl), if_neg hl]
        have h1 := lin_wP L w.fs.length l { w with mark := w.mark + 2, fs := w.fs ++ [fnOf' op s l at_ w.mark] } h.2.2.2.2
        have h2 : ({ linW L w with mark := (linW L w).mark + 2, fs := (linW L w).fs ++ [fnOf' op s l at_ (linW L w).mark] } : Wk) = linW L { w with mark := w.mark + 2, fs := w.fs ++ [fnOf' op s l at_ w.mark] } := rfl
        simp only [linW_fs, linW_mark] at h2 ⊢
        simp only [h2, h1]
        rfl
    · rw [if_neg hf, if_neg hf, lin_stepN L at_ loop op s n x w]
      simp only [lin_wL L _ _ l _ h.2.2.2.2, linT]
theorem lin_wL (L : Int) (at_ : Nat) (loop : Bool) : ∀ (l : List T) (w : Wk), T.wfL l → wL at_ loop (linL L l) (linW L w) = (linL L (wL at_ loop l w).1, linW L (wL at_ loop l w).2)
  | [], w, _ => rfl
  | t :: r, w, h => by simp only [linL, wL, lin_wT L at_ loop t w h.1, lin_wL L at_ loop r _ h.2]
theorem lin_wP (L : Int) (me : Nat) : ∀ (l : List T) (w : Wk), T.wfL l → wP me (linL L l) (linW L w) = (linL L (wP me l w).1, linW L (wP me l w).2)
  | [], w, _ => rfl
  | [t], w, h => by simp only [linL, wP, lin_wT L me false t w h.1]
  | t :: u :: r, w, h => by
    have h2 := lin_wP L me (u :: r) w h.2
    simp only [linL] at h2
    obtain ⟨op, s, n, l, x⟩ := t
    simp only [linL, wP, h2, linW_fs, linT_s, T.s_mk]
    simp [T.setN, linT]
end
mutual
theorem linT_idem (L : Int) : ∀ t, linT L (linT L t) = linT L t
  | .mk op s n l x => by simp only [linT, linL_idem L l]
theorem linL_idem (L : Int) : ∀ l, linL L (linL L l) = linL L l
  | [] => rfl
  | t :: r => by simp only [linL, linT_idem L t, linL_idem L r]
end
theorem resolve_lin (L : Int) (t : T) : (resolve (linT L t)).1 = (resolve t).1 ∧ linT L (resolve (linT L t)).2.1 = linT L (resolve t).2.1 ∧
    (resolve (linT L t)).2.2.2 = (resolve t).2.2.2 ∧
    (((resolve (linT L t)).2.2.2 = 0 ∧ (resolve (linT L t)).2.2.1 = 0) ∨ ((resolve (linT L t)).2.2.2 = 30 ∧ (resolve (linT L t)).2.2.1 = 0) ∨ (resolve (linT L t)).2.2.1 = L) := by
  unfold resolve
  simp only [lin_right, lin_decT]
  by_cases hr : right t = true
  rotate_left
  · simp [hr]
  simp only [hr, Bool.not_true, Bool.false_eq_true, if_false]
  split
  · cases t; simp [linT, T.line]
  have hw : ∀ fs, ({ fs := fs, mark := 4, e := 0, line := 0 } : Wk) = linW L { fs := fs, mark := 4, e := 0, line := 0 } := fun fs => by simp [linW]
  have h1 := fun fs => lin_wT L 0 false t { fs := fs, mark := 4, e := 0, line := 0 } (right_wf hr)
  simp only [← hw, ne_eq, not_true, if_false] at h1
  simp only [h1, linW_e, linW_fs]
  split
  · rename_i he
    refine ⟨rfl, rfl, rfl, .inr (.inr ?_)⟩
    simp [linW, he]
  · exact ⟨rfl, linT_idem L _, rfl, .inl ⟨rfl, rfl⟩⟩
end Go.Proofs.YP
/- PURE: scopes: Same (25); the law ScopeSame (5). -/
set_option linter.unusedVariables false
set_option linter.unusedSimpArgs false
namespace Go.Proofs.YP
open Go
theorem lin_inv {L : Int} {op op' : Int} {s s' : ByteArray} {n n' : Int} {l l' : List T} {x x' : Int} (h : linT L (.mk op s n l x) = linT L (.mk op' s' n' l' x')) : op = op' ∧ s = s' ∧ n = n' ∧ l.length = l'.length ∧ ∀ (j : Nat) (a b : T), l[j]? = some a → l'[j]? = some b → linT L a = linT L b := by
  simp only [linT, T.mk.injEq, and_true, linL_eq] at h
  obtain ⟨h1, h2, h3, h4⟩ := h
  refine ⟨h1, h2, h3, by simpa using congrArg List.length h4, fun j a b ha hb => ?_⟩
  have := congrArg (·[j]?) h4
  simpa [ha, hb] using this
set_option maxHeartbeats 2000000 in
theorem f25 (L : Int) (n : Nat) : ∀ a b : T, a.wt ≤ n → a.wt ≤ 100000000000 → linT L a = linT L b → ∀ k, n + 2 ≤ k → PureC k 25 [.agg a.enc, .agg b.enc] (.bool true) := by
  induction n with
  | zero => intro t b h; cases t; simp [T.wt] at h
  | succ n ih =>
    intro a b ht htm hab k hk E st hE
    obtain ⟨k, rfl⟩ : ∃ k', k = k' + 1 := ⟨k - 1, by omega⟩
    obtain ⟨op, s0, nn, l, line⟩ := a
    obtain ⟨op', s0', nn', l', line'⟩ := b
    obtain ⟨rfl, rfl, rfl, hll, hparts⟩ := lin_inv hab
    simp only [T.wt] at ht htm
    have hlw := T.len_wtL l
    have hE2 : E.Wf ⟨st.H ++ [.cells 24 [.int .i64 op, .str s0, .int .i64 nn, .sl none l.length (T.encL l), .int .i64 line], .cells 24 [.int .i64 op, .str s0, .int .i64 nn, .sl none l.length (T.encL l'), .int .i64 line']], st.I⟩ := hE.of (by simp) (by simp)
    refine call_in2 rfl rfl (by decide) fun s hs e0 e1 => ?_
    rw [T.enc, ← hll] at e1
    simp [hs, e0, e1]
    refine WP_loop (fun n s m st' => ∃ j : Nat, j ≤ l.length ∧ n = l.length - j ∧ s.length = 53 ∧ m = [] ∧ lk s 2 = .ptr st.H.length 0 ∧ lk s 3 = .ptr (st.H.length + 1) 0 ∧ lk s 5 = .int .i64 j ∧
      st' = ⟨st.H ++ [.cells 24 [.int .i64 op, .str s0, .int .i64 nn, .sl none l.length (T.encL l), .int .i64 line], .cells 24 [.int .i64 op, .str s0, .int .i64 nn, .sl none l.length (T.encL l'), .int .i64 line']], st.I⟩) l.length (by omega)
      ⟨0, by omega, by omega, by simp [hs], rfl, by simp [hs], by simp [hs], by simp [hs], rfl⟩ ?_
    clear hs e0 e1
    rintro _ s m _ ⟨j, hj, rfl, hs, rfl, e2, e3, e5, rfl⟩
    by_cases hc : j < l.length
    · obtain ⟨t, hg⟩ : ∃ t, l[j]? = some t := ⟨_, List.getElem?_eq_getElem hc⟩
      obtain ⟨u, hg'⟩ : ∃ u, l'[j]? = some u := ⟨_, List.getElem?_eq_getElem (by omega)⟩
      have hrd := T.rd hg
      have hrd' := T.rd hg'
      have hwj := wrap64 (n := (j : Int) + 1) (by omega)
      have hwt := T.wtL_get hg
      have c25 := (ih t u (by omega) (by omega) (hparts j t u hg hg') k (by omega)).full rfl hE2
      rw [T.enc_eq] at hrd hrd'
      rw [T.enc_eq t, T.enc_eq u] at c25
      simp [Nat.testBit, hs, e2, e3, e5, hc, hrd, hrd', c25]
      simp [hs, e5, hwj]
      exact ⟨_, by omega, j + 1, by omega, rfl, by simp [hs], rfl, by simp [hs, e2], by simp [hs, e3], by simp [hs], rfl⟩
    · simp [hs, e2, e3, e5, hc]
      exact Grow.appH _ _
/-- No tree, and no tree as it is written. -/
theorem f25z (k : Nat) (hk : 2 ≤ k) : PureC k 25 [.agg [.int .i64 0, .str ⟨#[]⟩, .int .i64 0, .sl none 0 [], .int .i64 0], .agg [.int .i64 0, .str ⟨#[]⟩, .int .i64 0, .nils, .int .i64 0]] (.bool true) := by
  intro E st hE
  obtain ⟨k, rfl⟩ : ∃ k', k = k' + 1 := ⟨k - 1, by omega⟩
  refine call_in2 rfl rfl (by decide) fun s hs e0 e1 => ?_
  simp [hs, e0, e1]
  refine WP_loop (fun n s m st' => n = 0 ∧ s.length = 53 ∧ m = [] ∧ lk s 2 = .ptr st.H.length 0 ∧ lk s 3 = .ptr (st.H.length + 1) 0 ∧ lk s 5 = .int .i64 0 ∧
      st' = ⟨st.H ++ [.cells 24 [.int .i64 0, .str ⟨#[]⟩, .int .i64 0, .sl none 0 [], .int .i64 0], .cells 24 [.int .i64 0, .str ⟨#[]⟩, .int .i64 0, .nils, .int .i64 0]], st.I⟩) 0 (by omega)
      ⟨rfl, by simp [hs], rfl, by simp [hs], by simp [hs], by simp [hs], rfl⟩ ?_
  clear hs e0 e1
  rintro _ s m _ ⟨rfl, hs, rfl, e2, e3, e5, rfl⟩
  simp [hs, e2, e3, e5]
  exact Grow.appH _ _
set_option maxHeartbeats 4000000 in
set_option maxRecDepth 20000 in
theorem f5 (t : T) (ht : t.ok) (hw : t.wt ≤ 4000000000) (k : Nat) (hk : 5 * t.wt + 2000000 ≤ k) (E : Env) (st : St) (hE : E.Wf st)
    (h18 : ∀ y, doCall (aCall prog k) E .full (.fn 18) [] ⟨st.H ++ [y], st.I⟩ = some (.ok (.bool true), ⟨st.H ++ [y], st.I⟩)) : CallQ (k + 1) E 5 [.agg t.enc] st (Tru st) := by
  have hmw := mayWrite_new hE
  have hcw := count_wt t
  have c19 := fun st3 (h : E.Wf st3) => (f19 t k (by omega)).full (E := E) (st := st3) rfl h
  have hrr : (resV (resolve t)).refs = [] := by simp [resV, encFs_refs, T.enc_refs]
  have c20 := fun st3 (h : E.Wf st3) => (f20 t ht hw k (by omega)).full (E := E) (st := st3) hrr h
  have hwt : (resolve t).2.1.wt ≤ t.wt := resolve_wt t
  have c25 := fun st3 (h : E.Wf st3) => (f25z k (by omega)).full (E := E) (st := st3) rfl h
  have c26 := fun st3 (h : E.Wf st3) => (f26 _ (resolve t).2.1 (Nat.le_refl _) (by omega) k (by omega)).full (E := E) (st := st3) (by simp) h
  have c23 := fun st3 (h : E.Wf st3) => (f23 _ t (Nat.le_refl _) (by omega) k (by omega)).full (E := E) (st := st3) rfl h
  have hb := resolve_bare t
  have hz := resolve_err t
  obtain ⟨op, s0, nn, l, line⟩ := t
  generalize resolve (.mk op s0 nn l line) = R at *
  obtain ⟨fs, t', x, y⟩ := R
  simp only at hb hz
  have hte := T.enc_eq t'
  simp only [T.enc, resV] at c19 c20 c23 c26
  rw [hte] at c20 c26
  refine call_in1 rfl rfl (by decide) fun s hs e0 => ?_
  have hE1 : ∀ y, E.Wf ⟨st.H ++ y, st.I⟩ := fun y => hE.of (by simp) (by simp)
  by_cases h : szT 1500 (.mk op s0 nn l line) < 0
  · simp [hs, e0, h18, c19 _ (hE1 _), h]
    exact .of (Grow.appH _ _)
  by_cases hy : y = 0
  · obtain ⟨h1, rfl⟩ := hb hy
    subst hy
    rw [h1] at c26
    simp only [T.enc] at c26
    simp [hs, e0, h18, c19 _ (hE1 _), h, c20 _ (hE1 _), storeA, hmw, wrC]
    simp [hs, Nat.testBit, c26 _ (hE1 _), c23 _ (hE1 _)]
    exact .of (Grow.appH _ _)
  · obtain ⟨rfl, rfl⟩ := hz hy
    simp only [T.op_mk, T.s_mk, T.n_mk, T.l_mk, T.line_mk] at c20
    simp [hs, e0, h18, c19 _ (hE1 _), h, c20 _ (hE1 _), storeA, hmw, wrC, hy]
    simp [hs, fillA, c25 _ (hE1 _)]
    exact .of (Grow.appH _ _)
theorem says5 (t : T) (ht : t.ok) (hw : t.wt ≤ 1048576) : Says 5 [.agg t.enc] :=
  says_of (f5 t ht (by omega) (5 * t.wt + 2000000) (Nat.le_refl _) E0 ⟨[], []⟩ wf0 (fun y => k18at (by omega) y))
end Go.Proofs.YP
/- PURE: scopes: lined (30); the law ScopeLines (7). -/
set_option linter.unusedVariables false
set_option linter.unusedSimpArgs false
namespace Go.Proofs.YP
open Go
set_option maxHeartbeats 2000000 in
theorem f30 (L : Int) (n : Nat) : ∀ t : T, t.wt ≤ n → t.wt ≤ 100000000000 → ∀ k, n + 2 ≤ k → PureC k 30 [.agg t.enc, .int .i64 L] (.agg (linT L t).enc) := by
  induction n with
  | zero => intro t h; cases t; simp [T.wt] at h
  | succ n ih =>
    intro t ht htm k hk E st hE
    obtain ⟨k, rfl⟩ : ∃ k', k = k' + 1 := ⟨k - 1, by omega⟩
    obtain ⟨op, s0, nn, l, line⟩ := t
    simp only [T.wt] at ht htm
    have hlw := T.len_wtL l
    have hmw := mayWrite_new hE
    have hmw0 : ∀ j x y, mayWrite E (st.H.length + j) x y = true := fun j x y => hmw _ _ _ (by omega)
    have hrom := hE.rom
    have hgoal : linT L (.mk op s0 nn l line) = .mk op s0 nn (l.map (linT L)) L := by simp only [linT, linL_eq]
    rw [hgoal]
    refine call_in2 rfl rfl (by decide) fun s hs e0 e1 => ?_
    simp [hs, e0, e1, storeA, hmw, wrC]
    refine WP_loop (fun n s m st' => ∃ (j : Nat) (v : AV) (I' : List (Nat × Nat)), j ≤ l.length ∧ n = l.length - j ∧ s.length = 29 ∧ m = [] ∧ lk s 1 = .int .i64 L ∧ lk s 2 = .ptr st.H.length 0 ∧ lk s 4 = .ptr (st.H.length + 1) 0 ∧ lk s 5 = v ∧ lk s 6 = .int .i64 j ∧
      st' = ⟨st.H ++ [.cells 24 [.int .i64 op, .str s0, .int .i64 nn, .sl none l.length (T.encL l), .int .i64 L], .cells 24 [.int .i64 0, .str ⟨#[]⟩, .int .i64 0, .nils, .int .i64 0]], I'⟩ ∧ AccT st.I.length I' ((l.take j).map (linT L)) v ∧ IOld st.I.length st.I I') l.length (by omega)
      ⟨0, .nils, st.I, by omega, by omega, by simp [hs], rfl, by simp [hs, e1], by simp [hs], by simp [hs], by simp [hs], by simp [hs], rfl, .inl ⟨rfl, rfl⟩, .refl _ _⟩ ?_
    clear hs e0 e1 s
    rintro _ s m _ ⟨j, v, I', hj, rfl, hs, rfl, e1, e2, e4, e5, e6, rfl, hac, hio⟩
    have hil := hio.len
    by_cases hc : j < l.length
    · obtain ⟨t, hg⟩ : ∃ t, l[j]? = some t := ⟨_, List.getElem?_eq_getElem hc⟩
      have hrd := T.rd hg
      have hwj := wrap64 (n := (j : Int) + 1) (by omega)
      have hwt := T.wtL_get hg
      have c30 := (ih t (by omega) (by omega) k (by omega)).full (E := E) (st := ⟨st.H ++ [.cells 24 [.int .i64 op, .str s0, .int .i64 nn, .sl none l.length (T.encL l), .int .i64 L], .cells 24 [.int .i64 0, .str ⟨#[]⟩, .int .i64 0, .nils, .int .i64 0]], I'⟩) (by simp) (hE.of (by simp) hil)
      obtain ⟨v', I2, happ, hac2, hio2⟩ := (hac.push (1, 5)).app (E := E) (H := st.H ++ [.cells 24 [.int .i64 op, .str s0, .int .i64 nn, .sl none l.length (T.encL l), .int .i64 L], .cells 24 [.int .i64 0, .str ⟨#[]⟩, .int .i64 0, .nils, .int .i64 0]]) (by simp; omega) hrom (by simp; omega) (linT L t) I'.length
      have hnew : (l.take j).map (linT L) ++ [linT L t] = (l.take (j + 1)).map (linT L) := by rw [List.take_add_one, hg]; simp
      rw [hnew] at hac2
      rw [T.enc_eq] at hrd
      rw [T.enc_eq t, T.enc_eq (linT L t)] at c30
      rw [T.enc_eq] at happ
      simp only [linT_op, linT_s] at happ c30
      simp [hs, e1, e2, e4, e5, e6, hc, hrd, c30, fillA, wrC]
      simp [hs, e5, e6, happ, hwj]
      exact ⟨_, by omega, j + 1, v', I2, by omega, rfl, by simp [hs], rfl, by simp [hs, e1], by simp [hs, e2], by simp [hs, e4], by simp [hs], by simp [hs], rfl, hac2, hio.trans ((IOld.push _ _ _).trans hio2)⟩
    · have hjl : l.take j = l := List.take_of_length_le (by omega)
      rw [hjl] at hac
      have hvc := hac.cells
      have hvo := hac.one
      have hvf := hac.fin st.I.length (Nat.le_refl _)
      simp [hs, e1, e2, e4, e5, e6, hc, storeA, hmw, hmw0, wrC, hvc, hvo]
      simp [hs, e4, hvf]
      exact ⟨List.prefix_append _ _, hio.pfx⟩
mutual
theorem lin_wt (L : Int) : ∀ t : T, (linT L t).wt = t.wt
  | .mk op s n l x => by simp only [linT, T.wt, lin_wtL L l]
theorem lin_wtL (L : Int) : ∀ l : List T, T.wtL (linL L l) = T.wtL l
  | [] => rfl
  | t :: r => by simp only [linL, T.wtL, lin_wt L t, lin_wtL L r]
end
mutual
theorem lin_ok {L : Int} (hL : ok64 L) : ∀ t : T, t.ok → (linT L t).ok
  | .mk op s n l x, h => ⟨h.1, by have := h.2.1; simp only [linL_eq, List.length_map]; exact this, h.2.2.1, h.2.2.2.1, hL, lin_okL hL l h.2.2.2.2.2⟩
theorem lin_okL {L : Int} (hL : ok64 L) : ∀ l : List T, T.okL l → T.okL (linL L l)
  | [], _ => trivial
  | t :: r, h => ⟨lin_ok hL t h.1, lin_okL hL r h.2⟩
end
set_option maxHeartbeats 4000000 in
set_option maxRecDepth 20000 in
theorem f7 (L : Int) (hL : ok64 L) (t : T) (ht : t.ok) (hw : t.wt ≤ 4000000000) (k : Nat) (hk : 5 * t.wt + 2000000 ≤ k) (E : Env) (st : St) (hE : E.Wf st)
    (h18 : ∀ y, doCall (aCall prog k) E .full (.fn 18) [] ⟨st.H ++ [y], st.I⟩ = some (.ok (.bool true), ⟨st.H ++ [y], st.I⟩)) : CallQ (k + 1) E 7 [.agg t.enc, .int .i64 L] st (Tru st) := by
  have hmw := mayWrite_new hE
  have hmw0 : ∀ j x y, mayWrite E (st.H.length + j) x y = true := fun j x y => hmw _ _ _ (by omega)
  have hcw := count_wt t
  have c19 := fun st3 (h : E.Wf st3) => (f19 t k (by omega)).full (E := E) (st := st3) rfl h
  have hrr : ∀ t, (resV (resolve t)).refs = [] := fun t => by simp [resV, encFs_refs, T.enc_refs]
  have c20 := fun st3 (h : E.Wf st3) => (f20 t ht hw k (by omega)).full (E := E) (st := st3) (hrr t) h
  have c20b := fun st3 (h : E.Wf st3) => (f20 (linT L t) (lin_ok hL t ht) (by rw [lin_wt]; exact hw) k (by rw [lin_wt]; omega)).full (E := E) (st := st3) (hrr _) h
  have c30 := fun st3 (h : E.Wf st3) => (f30 L _ t (Nat.le_refl _) (by omega) k (by omega)).full (E := E) (st := st3) (by simp) h
  have hfs : (resolve t).1.length ≤ 500 ∧ ∀ f ∈ (resolve t).1, f.vars.length ≤ 200 := ⟨(resolve_fs t).len, fun f hf => by obtain ⟨i, hi⟩ := List.getElem?_of_mem hf; exact ((resolve_fs t).each i f hi).2.2⟩
  have hwt : (resolve t).2.1.wt ≤ t.wt := resolve_wt t
  have c22 := fun st3 (h : E.Wf st3) => (f22 (resolve t).1 (by omega) (fun f hf => by have := hfs.2 f hf; omega) k (by omega)).full (E := E) (st := st3) rfl h
  obtain ⟨r1, r2, r3, r4⟩ := resolve_lin L t
  have c25 := fun st3 (h : E.Wf st3) => (f25 L _ (resolve t).2.1 (resolve (linT L t)).2.1 (Nat.le_refl _) (by omega) r2.symm k (by omega)).full (E := E) (st := st3) rfl h
  obtain ⟨op, s0, nn, l, line⟩ := t
  have hlt : (linT L (.mk op s0 nn l line)).enc = [.int .i64 op, .str s0, .int .i64 nn, .sl none (linL L l).length (T.encL (linL L l)), .int .i64 L] := rfl
  rw [hlt] at c20b c30
  generalize resolve (linT L (.mk op s0 nn l line)) = R' at *
  generalize resolve (.mk op s0 nn l line) = R at *
  obtain ⟨fs, t', x, y⟩ := R
  obtain ⟨fs', t2, x2, y2⟩ := R'
  simp only at r1 r2 r3 r4
  subst r1 r3
  simp only [T.enc, resV] at c19 c20 c20b c22 c25 c30
  rw [T.enc_eq t'] at c20 c25
  rw [T.enc_eq t2] at c20b c25
  refine call_in2 rfl rfl (by decide) fun s hs e0 e1 => ?_
  have hE1 : ∀ y, E.Wf ⟨st.H ++ y, st.I⟩ := fun y => hE.of (by simp) (by simp)
  by_cases h : szT 1500 (.mk op s0 nn l line) < 0
  · simp [hs, e0, e1, h18, c19 _ (hE1 _), h]
    exact .of (Grow.appH _ _)
  · simp [hs, e0, e1, h18, c19 _ (hE1 _), h, c20 _ (hE1 _), storeA, hmw, wrC]
    simp [hs, e0, e1, c30 _ (hE1 _), c20b _ (hE1 _), storeA, hmw, hmw0, wrC]
    simp [hs, c22 _ (hE1 _), c25 _ (hE1 _)]
    have fin : ∀ {z : List ABlk} {v : AV}, v = .bool true → Tru st (.ok v) ⟨st.H ++ z, st.I⟩ := fun h => by subst h; exact .of (Grow.appH _ _)
    rcases r4 with ⟨rfl, rfl⟩ | ⟨rfl, rfl⟩ | rfl
    · simp [hs]
      exact fin rfl
    · simp [hs, e1]
      exact fin rfl
    · by_cases y0 : y2 = 0
      · by_cases x0 : x2 = 0 <;> (simp [hs, y0, x0, e1]; exact fin rfl)
      · by_cases y3 : y2 = 30
        · by_cases x0 : x2 = 0 <;> (simp [hs, y3, x0, e1]; exact fin rfl)
        · simp [hs, y0, y3, e1]
          exact fin rfl
theorem says7 (L : Int) (hL : ok64 L) (t : T) (ht : t.ok) (hw : t.wt ≤ 1048576) : Says 7 [.agg t.enc, .int .i64 L] :=
  says_of (f7 L hL t ht (by omega) (5 * t.wt + 2000000) (Nat.le_refl _) E0 ⟨[], []⟩ wf0 (fun y => k18at (by omega) y))
end Go.Proofs.YP
