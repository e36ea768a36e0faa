/- PURE: scopes: bare (26). -/
import Derived.Test.YtjehnhppfneidaaGreatDoorSch
set_option linter.unusedVariables false
set_option linter.unusedSimpArgs false
namespace Go.Proofs.YP
open Go
theorem bareL_eq : ∀ l, bareL l = l.map bareT
  | [] => rfl
  | t :: r => by simp [bareL, bareL_eq r]
set_option maxHeartbeats 2000000 in
theorem f26 (n : Nat) : ∀ t : T, t.wt ≤ n → t.wt ≤ 100000000000 → ∀ k, n + 2 ≤ k → PureC k 26 [.agg t.enc] (.agg (bareT t).enc) := by
  induction n with
  | zero => intro t h; cases t; simp [T.wt] at h
  | succ n ih =>
    intro t ht htm k hk E st hE
    obtain ⟨k, rfl⟩ : ∃ k', k = k' + 1 := ⟨k - 1, by omega⟩
    obtain ⟨op, s0, nn, l, line⟩ := t
    simp only [T.wt] at ht htm
    have hlw := T.len_wtL l
    have hmw := mayWrite_new hE
    have hmw0 : ∀ j x y, mayWrite E (st.H.length + j) x y = true := fun j x y => hmw _ _ _ (by omega)
    have hrom := hE.rom
    generalize hn2 : (if op = 2 then nn else 0) = n2
    have hgoal : bareT (.mk op s0 nn l line) = .mk op s0 n2 (l.map bareT) line := by simp only [bareT, bareL_eq, hn2]
    rw [hgoal]
    refine call_in1 rfl rfl (by decide) fun s hs e0 => ?_
    rw [WP_assoc]
    refine WP_seqM (fun s' m' st' => m' = [] ∧ s'.length = 28 ∧ lk s' 1 = .ptr st.H.length 0 ∧ lk s' 2 = .ptr (st.H.length + 1) 0 ∧ st' = ⟨st.H ++ [.cells 24 [.int .i64 op, .str s0, .int .i64 n2, .sl none l.length (T.encL l), .int .i64 line], .cells 24 [.int .i64 0, .str ⟨#[]⟩, .int .i64 0, .nils, .int .i64 0]], st.I⟩) ?_ ?_
    · by_cases h2 : op = 2
      · rw [if_pos h2] at hn2
        subst hn2
        simp [hs, e0, h2]
        exact ⟨rfl, rfl, by simp [hs], by simp [hs], by simp [hs], by rw [h2]⟩
      · rw [if_neg h2] at hn2
        subst hn2
        simp [hs, e0, h2, storeA, hmw, wrC]
        exact ⟨rfl, rfl, by simp [hs], by simp [hs], by simp [hs], rfl⟩
    clear hs e0 s
    rintro s _ _ ⟨rfl, hs, e1, e2, rfl⟩
    simp [hs, e1, e2]
    refine WP_loop (fun n s m st' => ∃ (j : Nat) (v : AV) (I' : List (Nat × Nat)), j ≤ l.length ∧ n = l.length - j ∧ s.length = 28 ∧ m = [] ∧ lk s 1 = .ptr st.H.length 0 ∧ lk s 2 = .ptr (st.H.length + 1) 0 ∧ lk s 3 = v ∧ lk s 4 = .int .i64 j ∧
      st' = ⟨st.H ++ [.cells 24 [.int .i64 op, .str s0, .int .i64 n2, .sl none l.length (T.encL l), .int .i64 line], .cells 24 [.int .i64 0, .str ⟨#[]⟩, .int .i64 0, .nils, .int .i64 0]], I'⟩ ∧ AccT st.I.length I' ((l.take j).map bareT) v ∧ IOld st.I.length st.I I') l.length (by omega)
      ⟨0, .nils, st.I, by omega, by omega, by simp [hs], rfl, by simp [hs, e1], by simp [hs, e2], by simp [hs], by simp [hs], rfl, .inl ⟨rfl, rfl⟩, .refl _ _⟩ ?_
    clear hs e1 e2 s
    rintro _ s m _ ⟨j, v, I', hj, rfl, hs, rfl, e1, e2, e3, e4, rfl, hac, hio⟩
    have hil := hio.len
    by_cases hc : j < l.length
    · obtain ⟨t, hg⟩ : ∃ t, l[j]? = some t := ⟨_, List.getElem?_eq_getElem hc⟩
      have hrd := T.rd hg
      have hwj := wrap64 (n := (j : Int) + 1) (by omega)
      have hwt := T.wtL_get hg
      have c26 := (ih t (by omega) (by omega) k (by omega)).full (E := E) (st := ⟨st.H ++ [.cells 24 [.int .i64 op, .str s0, .int .i64 n2, .sl none l.length (T.encL l), .int .i64 line], .cells 24 [.int .i64 0, .str ⟨#[]⟩, .int .i64 0, .nils, .int .i64 0]], I'⟩) (by simp) (hE.of (by simp) hil)
      obtain ⟨v', I2, happ, hac2, hio2⟩ := (hac.push (1, 5)).app (E := E) (H := st.H ++ [.cells 24 [.int .i64 op, .str s0, .int .i64 n2, .sl none l.length (T.encL l), .int .i64 line], .cells 24 [.int .i64 0, .str ⟨#[]⟩, .int .i64 0, .nils, .int .i64 0]]) (by simp; omega) hrom (by simp; omega) (bareT t) I'.length
      have hnew : (l.take j).map bareT ++ [bareT t] = (l.take (j + 1)).map bareT := by rw [List.take_add_one, hg]; simp
      rw [hnew] at hac2
      rw [T.enc_eq] at hrd
      rw [T.enc_eq t, T.enc_eq (bareT t)] at c26
      rw [T.enc_eq] at happ
      simp [hs, e1, e2, e3, e4, hc, hrd, c26, fillA, wrC]
      simp [hs, e3, e4, happ, hwj]
      exact ⟨_, by omega, j + 1, v', I2, by omega, rfl, by simp [hs], rfl, by simp [hs, e1], by simp [hs, e2], by simp [hs], by simp [hs], rfl, hac2, hio.trans ((IOld.push _ _ _).trans hio2)⟩
    · have hjl : l.take j = l := List.take_of_length_le (by omega)
      rw [hjl] at hac
      have hvc := hac.cells
      have hvo := hac.one
      have hvf := hac.fin st.I.length (Nat.le_refl _)
      simp [hs, e1, e2, e3, e4, hc, storeA, hmw, hmw0, wrC, hvc, hvo]
      simp [hs, e2, hvf]
      exact ⟨List.prefix_append _ _, hio.pfx⟩
end Go.Proofs.YP
/- Plain laws of resolving: lines make no difference but to an error's line. -/
set_option linter.unusedVariables false
set_option linter.unusedSimpArgs false
namespace Go.Proofs.YP
open Go
mutual
def linT (L : Int) : T → T
  | .mk op s n l _ => .mk op s n (linL L l) L
def linL (L : Int) : List T → List T
  | [] => []
  | t :: r => linT L t :: linL L r
end
def linW (L : Int) (w : Wk) : Wk := { w with line := if w.e = 0 then 0 else L }
@[simp] theorem linW_e (L w) : (linW L w).e = w.e := rfl
@[simp] theorem linW_fs (L w) : (linW L w).fs = w.fs := rfl
@[simp] theorem linW_mark (L w) : (linW L w).mark = w.mark := rfl
theorem linW_fail (L : Int) (w : Wk) (e x : Int) (he : e ≠ 0) : linW L (w.fail e x) = (linW L w).fail e L := by
  by_cases h : w.e = 0
  · simp [Wk.fail, linW, h, he]
  · simp [Wk.fail, linW, h]
theorem linL_eq (L : Int) : ∀ l, linL L l = l.map (linT L)
  | [] => rfl
  | t :: r => by simp [linL, linL_eq L r]
@[simp] theorem linT_op (L t) : (linT L t).op = t.op := by cases t; rfl
@[simp] theorem linT_s (L t) : (linT L t).s = t.s := by cases t; rfl
mutual
theorem lin_decT (L : Int) : ∀ (t : T) (out : List ByteArray), decT (linT L t) out = decT t out
  | .mk op s n l x, out => by simp only [linT, decT, lin_decL L l]
theorem lin_decL (L : Int) : ∀ (l : List T) (out : List ByteArray), decL (linL L l) out = decL l out
  | [], out => rfl
  | t :: r, out => by simp only [linL, decL, lin_decT L t, lin_decL L r]
end
theorem lin_fitL (L : Int) (f : T → Bool) (op : Int) (len : Nat) : ∀ i l, (∀ t ∈ l, f (linT L t) = f t) → fitL f op len i (linL L l) = fitL f op len i l
  | i, [], _ => rfl
  | i, t :: r, h => by simp only [linL, fitL, linT_op, h t (by simp), lin_fitL L f op len (i + 1) r fun u hu => h u (by simp [hu])]
theorem lin_fit (L : Int) : ∀ (h : Nat) (t : T), fit h (linT L t) = fit h t
  | 0, t => by simp [fit]
  | h + 1, .mk op s n l x => by
    have hl : (linL L l).length = l.length := by simp [linL_eq]
    simp only [linT, fit, hl, lin_fitL L _ _ _ _ l fun t _ => lin_fit L h t]
theorem lin_right (L : Int) (t : T) : right (linT L t) = right t := by
  simp [right, rBlk, lin_fit]
theorem lin_params (L : Int) (l : List T) : paramsOf (linL L l) = paramsOf l := by
  simp only [paramsOf, linL_eq, ← List.map_dropLast, List.foldl_map, linT_s]
theorem lin_fn (L : Int) (op : Int) (s : ByteArray) (l : List T) (hl : l ≠ []) (at_ : Int) (mark : Nat) : fnOf' op s (linL L l) at_ mark = fnOf' op s l at_ mark := by
  have : (linL L l).getLast?.getD default = linT L (l.getLast?.getD default) := by
    rw [linL_eq, List.getLast?_map, List.getLast?_eq_some_getLast hl]; rfl
  simp only [fnOf', lin_params, this, lin_decT]
theorem lin_stepN (L : Int) (at_ : Nat) (loop : Bool) (op : Int) (s : ByteArray) (n x : Int) (w : Wk) :
    stepN at_ loop op s n L (linW L w) = ((stepN at_ loop op s n x w).1, (stepN at_ loop op s n x w).2.1, linW L (stepN at_ loop op s n x w).2.2) := by
  have h50 := linW_fail L w 50 x (by decide)
  have h51 := linW_fail L w 51 x (by decide)
  by_cases h1 : op = 1
  · simp only [stepN, if_pos h1, linW_fs]
    by_cases hv : varNo w.fs at_ s < 0
    · simp only [hv, if_true, h50]
    · simp only [hv, if_false]
  by_cases h2 : op = 30 ∨ op = 35 ∨ op = 38
  · simp only [stepN, if_neg h1, if_pos h2, linW_fs]
  by_cases h3 : op = 11 ∨ op = 16 ∨ op = 15
  · simp only [stepN, if_neg h1, if_neg h2, if_pos h3, linW_mark]; rfl
  by_cases h4 : op = 36
  · simp only [stepN, if_neg h1, if_neg h2, if_neg h3, if_pos h4]
    by_cases hv : at_ = 0
    · simp only [hv, if_true, h51]
    · simp only [hv, if_false]
  by_cases h5 : op = 39 ∨ op = 40
  · simp only [stepN, if_neg h1, if_neg h2, if_neg h3, if_neg h4, if_pos h5]
    cases loop
    · simp only [Bool.false_eq_true, if_false, h51]
    · simp only [if_true]
  simp only [stepN, if_neg h1, if_neg h2, if_neg h3, if_neg h4, if_neg h5]
  by_cases h6 : op = 34
  · simp only [if_pos h6]
  · simp only [if_neg h6]
mutual
theorem lin_wT (L : Int) (at_ : Nat) (loop : Bool) : ∀ (t : T) (w : Wk), t.wf → wT at_ loop (linT L t) (linW L w) = (linT L (wT at_ loop t w).1, linW L (wT at_ loop t w).2)
  | .mk op s n l x, w, h => by
    simp only [linT, wT]
    by_cases he : w.e ≠ 0
    · rw [if_pos (show (linW L w).e ≠ 0 from he), if_pos he]; rfl
    rw [if_neg (show ¬ (linW L w).e ≠ 0 from he), if_neg he]
    by_cases hf : isFn op = true
    · rw [if_pos hf, if_pos hf, lin_fn L op s l (h.2.1 hf).1]
      by_cases hl : w.fs.length = 500 ∨ 200 < (fnOf' op s l at_ w.mark).vars.length
      · rw [if_pos (show (linW L w).fs.length = 500 ∨ 200 < (fnOf' op s l at_ (linW L w).mark).vars.length from hl), if_pos hl]
        have h1 := linW_fail L { w with mark := w.mark + 2 } 52 x (by decide)
        rw [h1]; rfl
      · rw [if_neg (show ¬ ((linW L w).fs.length = 500 ∨ 200 < (fnOf' op s l at_ (linW L w).mark).vars.length) from hl), if_neg hl]
        have h1 := lin_wP L w.fs.length l { w with mark := w.mark + 2, fs := w.fs ++ [fnOf' op s l at_ w.mark] } h.2.2.2.2
        have h2 : ({ linW L w with mark := (linW L w).mark + 2, fs := (linW L w).fs ++ [fnOf' op s l at_ (linW L w).mark] } : Wk) = linW L { w with mark := w.mark + 2, fs := w.fs ++ [fnOf' op s l at_ w.mark] } := rfl
        simp only [linW_fs, linW_mark] at h2 ⊢
        simp only [h2, h1]
        rfl
    · rw [if_neg hf, if_neg hf, lin_stepN L at_ loop op s n x w]
      simp only [lin_wL L _ _ l _ h.2.2.2.2, linT]
theorem lin_wL (L : Int) (at_ : Nat) (loop : Bool) : ∀ (l : List T) (w : Wk), T.wfL l → wL at_ loop (linL L l) (linW L w) = (linL L (wL at_ loop l w).1, linW L (wL at_ loop l w).2)
  | [], w, _ => rfl
  | t :: r, w, h => by simp only [linL, wL, lin_wT L at_ loop t w h.1, lin_wL L at_ loop r _ h.2]
theorem lin_wP (L : Int) (me : Nat) : ∀ (l : List T) (w : Wk), T.wfL l → wP me (linL L l) (linW L w) = (linL L (wP me l w).1, linW L (wP me l w).2)
  | [], w, _ => rfl
  | [t], w, h => by simp only [linL, wP, lin_wT L me false t w h.1]
  | t :: u :: r, w, h => by
    have h2 := lin_wP L me (u :: r) w h.2
    simp only [linL] at h2
    obtain ⟨op, s, n, l, x⟩ := t
    simp only [linL, wP, h2, linW_fs, linT_s, T.s_mk]
    simp [T.setN, linT]
end
mutual
theorem linT_idem (L : Int) : ∀ t, linT L (linT L t) = linT L t
  | .mk op s n l x => by simp only [linT, linL_idem L l]
theorem linL_idem (L : Int) : ∀ l, linL L (linL L l) = linL L l
  | [] => rfl
  | t :: r => by simp only [linL, linT_idem L t, linL_idem L r]
end
theorem resolve_lin (L : Int) (t : T) : (resolve (linT L t)).1 = (resolve t).1 ∧ linT L (resolve (linT L t)).2.1 = linT L (resolve t).2.1 ∧
    (resolve (linT L t)).2.2.2 = (resolve t).2.2.2 ∧
    (((resolve (linT L t)).2.2.2 = 0 ∧ (resolve (linT L t)).2.2.1 = 0) ∨ ((resolve (linT L t)).2.2.2 = 30 ∧ (resolve (linT L t)).2.2.1 = 0) ∨ (resolve (linT L t)).2.2.1 = L) := by
  unfold resolve
  simp only [lin_right, lin_decT]
  by_cases hr : right t = true
  rotate_left
  · simp [hr]
  simp only [hr, Bool.not_true, Bool.false_eq_true, if_false]
  split
  · cases t; simp [linT, T.line]
  have hw : ∀ fs, ({ fs := fs, mark := 4, e := 0, line := 0 } : Wk) = linW L { fs := fs, mark := 4, e := 0, line := 0 } := fun fs => by simp [linW]
  have h1 := fun fs => lin_wT L 0 false t { fs := fs, mark := 4, e := 0, line := 0 } (right_wf hr)
  simp only [← hw, ne_eq, not_true, if_false] at h1
  simp only [h1, linW_e, linW_fs]
  split
  · rename_i he
    refine ⟨rfl, rfl, rfl, .inr (.inr ?_)⟩
    simp [linW, he]
  · exact ⟨rfl, linT_idem L _, rfl, .inl ⟨rfl, rfl⟩⟩
end Go.Proofs.YP
/- PURE: scopes: Same (25); the law ScopeSame (5). -/
set_option linter.unusedVariables false
set_option linter.unusedSimpArgs false
namespace Go.Proofs.YP
open Go
theorem lin_inv {L : Int} {op op' : Int} {s s' : ByteArray} {n n' : Int} {l l' : List T} {x x' : Int} (h : linT L (.mk op s n l x) = linT L (.mk op' s' n' l' x')) : op = op' ∧ s = s' ∧ n = n' ∧ l.length = l'.length ∧ ∀ (j : Nat) (a b : T), l[j]? = some a → l'[j]? = some b → linT L a = linT L b := by
  simp only [linT, T.mk.injEq, and_true, linL_eq] at h
  obtain ⟨h1, h2, h3, h4⟩ := h
  refine ⟨h1, h2, h3, by simpa using congrArg List.length h4, fun j a b ha hb => ?_⟩
  have := congrArg (·[j]?) h4
  simpa [ha, hb] using this
set_option maxHeartbeats 2000000 in
theorem f25 (L : Int) (n : Nat) : ∀ a b : T, a.wt ≤ n → a.wt ≤ 100000000000 → linT L a = linT L b → ∀ k, n + 2 ≤ k → PureC k 25 [.agg a.enc, .agg b.enc] (.bool true) := by
  induction n with
  | zero => intro t b h; cases t; simp [T.wt] at h
  | succ n ih =>
    intro a b ht htm hab k hk E st hE
    obtain ⟨k, rfl⟩ : ∃ k', k = k' + 1 := ⟨k - 1, by omega⟩
    obtain ⟨op, s0, nn, l, line⟩ := a
    obtain ⟨op', s0', nn', l', line'⟩ := b
    obtain ⟨rfl, rfl, rfl, hll, hparts⟩ := lin_inv hab
    simp only [T.wt] at ht htm
    have hlw := T.len_wtL l
    have hE2 : E.Wf ⟨st.H ++ [.cells 24 [.int .i64 op, .str s0, .int .i64 nn, .sl none l.length (T.encL l), .int .i64 line], .cells 24 [.int .i64 op, .str s0, .int .i64 nn, .sl none l.length (T.encL l'), .int .i64 line']], st.I⟩ := hE.of (by simp) (by simp)
    refine call_in2 rfl rfl (by decide) fun s hs e0 e1 => ?_
    rw [T.enc, ← hll] at e1
    simp [hs, e0, e1]
    refine WP_loop (fun n s m st' => ∃ j : Nat, j ≤ l.length ∧ n = l.length - j ∧ s.length = 53 ∧ m = [] ∧ lk s 2 = .ptr st.H.length 0 ∧ lk s 3 = .ptr (st.H.length + 1) 0 ∧ lk s 5 = .int .i64 j ∧
      st' = ⟨st.H ++ [.cells 24 [.int .i64 op, .str s0, .int .i64 nn, .sl none l.length (T.encL l), .int .i64 line], .cells 24 [.int .i64 op, .str s0, .int .i64 nn, .sl none l.length (T.encL l'), .int .i64 line']], st.I⟩) l.length (by omega)
      ⟨0, by omega, by omega, by simp [hs], rfl, by simp [hs], by simp [hs], by simp [hs], rfl⟩ ?_
    clear hs e0 e1
    rintro _ s m _ ⟨j, hj, rfl, hs, rfl, e2, e3, e5, rfl⟩
    by_cases hc : j < l.length
    · obtain ⟨t, hg⟩ : ∃ t, l[j]? = some t := ⟨_, List.getElem?_eq_getElem hc⟩
      obtain ⟨u, hg'⟩ : ∃ u, l'[j]? = some u := ⟨_, List.getElem?_eq_getElem (by omega)⟩
      have hrd := T.rd hg
      have hrd' := T.rd hg'
      have hwj := wrap64 (n := (j : Int) + 1) (by omega)
      have hwt := T.wtL_get hg
      have c25 := (ih t u (by omega) (by omega) (hparts j t u hg hg') k (by omega)).full rfl hE2
      rw [T.enc_eq] at hrd hrd'
      rw [T.enc_eq t, T.enc_eq u] at c25
      simp [Nat.testBit, hs, e2, e3, e5, hc, hrd, hrd', c25]
      simp [hs, e5, hwj]
      exact ⟨_, by omega, j + 1, by omega, rfl, by simp [hs], rfl, by simp [hs, e2], by simp [hs, e3], by simp [hs], rfl⟩
    · simp [hs, e2, e3, e5, hc]
      exact Grow.appH _ _
/-- No tree, and no tree as it is written. -/
theorem f25z (k : Nat) (hk : 2 ≤ k) : PureC k 25 [.agg [.int .i64 0, .str ⟨#[]⟩, .int .i64 0, .sl none 0 [], .int .i64 0], .agg [.int .i64 0, .str ⟨#[]⟩, .int .i64 0, .nils, .int .i64 0]] (.bool true) := by
  intro E st hE
  obtain ⟨k, rfl⟩ : ∃ k', k = k' + 1 := ⟨k - 1, by omega⟩
  refine call_in2 rfl rfl (by decide) fun s hs e0 e1 => ?_
  simp [hs, e0, e1]
  refine WP_loop (fun n s m st' => n = 0 ∧ s.length = 53 ∧ m = [] ∧ lk s 2 = .ptr st.H.length 0 ∧ lk s 3 = .ptr (st.H.length + 1) 0 ∧ lk s 5 = .int .i64 0 ∧
      st' = ⟨st.H ++ [.cells 24 [.int .i64 0, .str ⟨#[]⟩, .int .i64 0, .sl none 0 [], .int .i64 0], .cells 24 [.int .i64 0, .str ⟨#[]⟩, .int .i64 0, .nils, .int .i64 0]], st.I⟩) 0 (by omega)
      ⟨rfl, by simp [hs], rfl, by simp [hs], by simp [hs], by simp [hs], rfl⟩ ?_
  clear hs e0 e1
  rintro _ s m _ ⟨rfl, hs, rfl, e2, e3, e5, rfl⟩
  simp [hs, e2, e3, e5]
  exact Grow.appH _ _
set_option maxHeartbeats 4000000 in
set_option maxRecDepth 20000 in
theorem f5 (t : T) (ht : t.ok) (hw : t.wt ≤ 4000000000) (k : Nat) (hk : 5 * t.wt + 2000000 ≤ k) (E : Env) (st : St) (hE : E.Wf st)
    (h18 : ∀ y, doCall (aCall prog k) E .full (.fn 18) [] ⟨st.H ++ [y], st.I⟩ = some (.ok (.bool true), ⟨st.H ++ [y], st.I⟩)) : CallQ (k + 1) E 5 [.agg t.enc] st (Tru st) := by
  have hmw := mayWrite_new hE
  have hcw := count_wt t
  have c19 := fun st3 (h : E.Wf st3) => (f19 t k (by omega)).full (E := E) (st := st3) rfl h
  have hrr : (resV (resolve t)).refs = [] := by simp [resV, encFs_refs, T.enc_refs]
  have c20 := fun st3 (h : E.Wf st3) => (f20 t ht hw k (by omega)).full (E := E) (st := st3) hrr h
  have hwt : (resolve t).2.1.wt ≤ t.wt := resolve_wt t
  have c25 := fun st3 (h : E.Wf st3) => (f25z k (by omega)).full (E := E) (st := st3) rfl h
  have c26 := fun st3 (h : E.Wf st3) => (f26 _ (resolve t).2.1 (Nat.le_refl _) (by omega) k (by omega)).full (E := E) (st := st3) (by simp) h
  have c23 := fun st3 (h : E.Wf st3) => (f23 _ t (Nat.le_refl _) (by omega) k (by omega)).full (E := E) (st := st3) rfl h
  have hb := resolve_bare t
  have hz := resolve_err t
  obtain ⟨op, s0, nn, l, line⟩ := t
  generalize resolve (.mk op s0 nn l line) = R at *
  obtain ⟨fs, t', x, y⟩ := R
  simp only at hb hz
  have hte := T.enc_eq t'
  simp only [T.enc, resV] at c19 c20 c23 c26
  rw [hte] at c20 c26
  refine call_in1 rfl rfl (by decide) fun s hs e0 => ?_
  have hE1 : ∀ y, E.Wf ⟨st.H ++ y, st.I⟩ := fun y => hE.of (by simp) (by simp)
  by_cases h : szT 1500 (.mk op s0 nn l line) < 0
  · simp [hs, e0, h18, c19 _ (hE1 _), h]
    exact .of (Grow.appH _ _)
  by_cases hy : y = 0
  · obtain ⟨h1, rfl⟩ := hb hy
    subst hy
    rw [h1] at c26
    simp only [T.enc] at c26
    simp [hs, e0, h18, c19 _ (hE1 _), h, c20 _ (hE1 _), storeA, hmw, wrC]
    simp [hs, Nat.testBit, c26 _ (hE1 _), c23 _ (hE1 _)]
    exact .of (Grow.appH _ _)
  · obtain ⟨rfl, rfl⟩ := hz hy
    simp only [T.op_mk, T.s_mk, T.n_mk, T.l_mk, T.line_mk] at c20
    simp [hs, e0, h18, c19 _ (hE1 _), h, c20 _ (hE1 _), storeA, hmw, wrC, hy]
    simp [hs, fillA, c25 _ (hE1 _)]
    exact .of (Grow.appH _ _)
theorem says5 (t : T) (ht : t.ok) (hw : t.wt ≤ 1048576) : Says 5 [.agg t.enc] :=
  says_of (f5 t ht (by omega) (5 * t.wt + 2000000) (Nat.le_refl _) E0 ⟨[], []⟩ wf0 (fun y => k18at (by omega) y))
end Go.Proofs.YP
/- PURE: scopes: lined (30); the law ScopeLines (7). -/
set_option linter.unusedVariables false
set_option linter.unusedSimpArgs false
namespace Go.Proofs.YP
open Go
set_option maxHeartbeats 2000000 in
theorem f30 (L : Int) (n : Nat) : ∀ t : T, t.wt ≤ n → t.wt ≤ 100000000000 → ∀ k, n + 2 ≤ k → PureC k 30 [.agg t.enc, .int .i64 L] (.agg (linT L t).enc) := by
  induction n with
  | zero => intro t h; cases t; simp [T.wt] at h
  | succ n ih =>
    intro t ht htm k hk E st hE
    obtain ⟨k, rfl⟩ : ∃ k', k = k' + 1 := ⟨k - 1, by omega⟩
    obtain ⟨op, s0, nn, l, line⟩ := t
    simp only [T.wt] at ht htm
    have hlw := T.len_wtL l
    have hmw := mayWrite_new hE
    have hmw0 : ∀ j x y, mayWrite E (st.H.length + j) x y = true := fun j x y => hmw _ _ _ (by omega)
    have hrom := hE.rom
    have hgoal : linT L (.mk op s0 nn l line) = .mk op s0 nn (l.map (linT L)) L := by simp only [linT, linL_eq]
    rw [hgoal]
    refine call_in2 rfl rfl (by decide) fun s hs e0 e1 => ?_
    simp [hs, e0, e1, storeA, hmw, wrC]
    refine WP_loop (fun n s m st' => ∃ (j : Nat) (v : AV) (I' : List (Nat × Nat)), j ≤ l.length ∧ n = l.length - j ∧ s.length = 29 ∧ m = [] ∧ lk s 1 = .int .i64 L ∧ lk s 2 = .ptr st.H.length 0 ∧ lk s 4 = .ptr (st.H.length + 1) 0 ∧ lk s 5 = v ∧ lk s 6 = .int .i64 j ∧
      st' = ⟨st.H ++ [.cells 24 [.int .i64 op, .str s0, .int .i64 nn, .sl none l.length (T.encL l), .int .i64 L], .cells 24 [.int .i64 0, .str ⟨#[]⟩, .int .i64 0, .nils, .int .i64 0]], I'⟩ ∧ AccT st.I.length I' ((l.take j).map (linT L)) v ∧ IOld st.I.length st.I I') l.length (by omega)
      ⟨0, .nils, st.I, by omega, by omega, by simp [hs], rfl, by simp [hs, e1], by simp [hs], by simp [hs], by simp [hs], by simp [hs], rfl, .inl ⟨rfl, rfl⟩, .refl _ _⟩ ?_
    clear hs e0 e1 s
    rintro _ s m _ ⟨j, v, I', hj, rfl, hs, rfl, e1, e2, e4, e5, e6, rfl, hac, hio⟩
    have hil := hio.len
    by_cases hc : j < l.length
    · obtain ⟨t, hg⟩ : ∃ t, l[j]? = some t := ⟨_, List.getElem?_eq_getElem hc⟩
      have hrd := T.rd hg
      have hwj := wrap64 (n := (j : Int) + 1) (by omega)
      have hwt := T.wtL_get hg
      have c30 := (ih t (by omega) (by omega) k (by omega)).full (E := E) (st := ⟨st.H ++ [.cells 24 [.int .i64 op, .str s0, .int .i64 nn, .sl none l.length (T.encL l), .int .i64 L], .cells 24 [.int .i64 0, .str ⟨#[]⟩, .int .i64 0, .nils, .int .i64 0]], I'⟩) (by simp) (hE.of (by simp) hil)
      obtain ⟨v', I2, happ, hac2, hio2⟩ := (hac.push (1, 5)).app (E := E) (H := st.H ++ [.cells 24 [.int .i64 op, .str s0, .int .i64 nn, .sl none l.length (T.encL l), .int .i64 L], .cells 24 [.int .i64 0, .str ⟨#[]⟩, .int .i64 0, .nils, .int .i64 0]]) (by simp; omega) hrom (by simp; omega) (linT L t) I'.length
      have hnew : (l.take j).map (linT L) ++ [linT L t] = (l.take (j + 1)).map (linT L) := by rw [List.take_add_one, hg]; simp
      rw [hnew] at hac2
      rw [T.enc_eq] at hrd
      rw [T.enc_eq t, T.enc_eq (linT L t)] at c30
      rw [T.enc_eq] at happ
      simp only [linT_op, linT_s] at happ c30
      simp [hs, e1, e2, e4, e5, e6, hc, hrd, c30, fillA, wrC]
      simp [hs, e5, e6, happ, hwj]
      exact ⟨_, by omega, j + 1, v', I2, by omega, rfl, by simp [hs], rfl, by simp [hs, e1], by simp [hs, e2], by simp [hs, e4], by simp [hs], by simp [hs], rfl, hac2, hio.trans ((IOld.push _ _ _).trans hio2)⟩
    · have hjl : l.take j = l := List.take_of_length_le (by omega)
      rw [hjl] at hac
      have hvc := hac.cells
      have hvo := hac.one
      have hvf := hac.fin st.I.length (Nat.le_refl _)
      simp [hs, e1, e2, e4, e5, e6, hc, storeA, hmw, hmw0, wrC, hvc, hvo]
      simp [hs, e4, hvf]
      exact ⟨List.prefix_append _ _, hio.pfx⟩
mutual
theorem lin_wt (L : Int) : ∀ t : T, (linT L t).wt = t.wt
  | .mk op s n l x => by simp only [linT, T.wt, lin_wtL L l]
theorem lin_wtL (L : Int) : ∀ l : List T, T.wtL (linL L l) = T.wtL l
  | [] => rfl
  | t :: r => by simp only [linL, T.wtL, lin_wt L t, lin_wtL L r]
end
mutual
theorem lin_ok {L : Int} (hL : ok64 L) : ∀ t : T, t.ok → (linT L t).ok
  | .mk op s n l x, h => ⟨h.1, by have := h.2.1; simp only [linL_eq, List.length_map]; exact this, h.2.2.1, h.2.2.2.1, hL, lin_okL hL l h.2.2.2.2.2⟩
theorem lin_okL {L : Int} (hL : ok64 L) : ∀ l : List T, T.okL l → T.okL (linL L l)
  | [], _ => trivial
  | t :: r, h => ⟨lin_ok hL t h.1, lin_okL hL r h.2⟩
end
set_option maxHeartbeats 4000000 in
set_option maxRecDepth 20000 in
theorem f7 (L : Int) (hL : ok64 L) (t : T) (ht : t.ok) (hw : t.wt ≤ 4000000000) (k : Nat) (hk : 5 * t.wt + 2000000 ≤ k) (E : Env) (st : St) (hE : E.Wf st)
    (h18 : ∀ y, doCall (aCall prog k) E .full (.fn 18) [] ⟨st.H ++ [y], st.I⟩ = some (.ok (.bool true), ⟨st.H ++ [y], st.I⟩)) : CallQ (k + 1) E 7 [.agg t.enc, .int .i64 L] st (Tru st) := by
  have hmw := mayWrite_new hE
  have hmw0 : ∀ j x y, mayWrite E (st.H.length + j) x y = true := fun j x y => hmw _ _ _ (by omega)
  have hcw := count_wt t
  have c19 := fun st3 (h : E.Wf st3) => (f19 t k (by omega)).full (E := E) (st := st3) rfl h
  have hrr : ∀ t, (resV (resolve t)).refs = [] := fun t => by simp [resV, encFs_refs, T.enc_refs]
  have c20 := fun st3 (h : E.Wf st3) => (f20 t ht hw k (by omega)).full (E := E) (st := st3) (hrr t) h
  have c20b := fun st3 (h : E.Wf st3) => (f20 (linT L t) (lin_ok hL t ht) (by rw [lin_wt]; exact hw) k (by rw [lin_wt]; omega)).full (E := E) (st := st3) (hrr _) h
  have c30 := fun st3 (h : E.Wf st3) => (f30 L _ t (Nat.le_refl _) (by omega) k (by omega)).full (E := E) (st := st3) (by simp) h
  have hfs : (resolve t).1.length ≤ 500 ∧ ∀ f ∈ (resolve t).1, f.vars.length ≤ 200 := ⟨(resolve_fs t).len, fun f hf => by obtain ⟨i, hi⟩ := List.getElem?_of_mem hf; exact ((resolve_fs t).each i f hi).2.2⟩
  have hwt : (resolve t).2.1.wt ≤ t.wt := resolve_wt t
  have c22 := fun st3 (h : E.Wf st3) => (f22 (resolve t).1 (by omega) (fun f hf => by have := hfs.2 f hf; omega) k (by omega)).full (E := E) (st := st3) rfl h
  obtain ⟨r1, r2, r3, r4⟩ := resolve_lin L t
  have c25 := fun st3 (h : E.Wf st3) => (f25 L _ (resolve t).2.1 (resolve (linT L t)).2.1 (Nat.le_refl _) (by omega) r2.symm k (by omega)).full (E := E) (st := st3) rfl h
  obtain ⟨op, s0, nn, l, line⟩ := t
  have hlt : (linT L (.mk op s0 nn l line)).enc = [.int .i64 op, .str s0, .int .i64 nn, .sl none (linL L l).length (T.encL (linL L l)), .int .i64 L] := rfl
  rw [hlt] at c20b c30
  generalize resolve (linT L (.mk op s0 nn l line)) = R' at *
  generalize resolve (.mk op s0 nn l line) = R at *
  obtain ⟨fs, t', x, y⟩ := R
  obtain ⟨fs', t2, x2, y2⟩ := R'
  simp only at r1 r2 r3 r4
  subst r1 r3
  simp only [T.enc, resV] at c19 c20 c20b c22 c25 c30
  rw [T.enc_eq t'] at c20 c25
  rw [T.enc_eq t2] at c20b c25
  refine call_in2 rfl rfl (by decide) fun s hs e0 e1 => ?_
  have hE1 : ∀ y, E.Wf ⟨st.H ++ y, st.I⟩ := fun y => hE.of (by simp) (by simp)
  by_cases h : szT 1500 (.mk op s0 nn l line) < 0
  · simp [hs, e0, e1, h18, c19 _ (hE1 _), h]
    exact .of (Grow.appH _ _)
  · simp [hs, e0, e1, h18, c19 _ (hE1 _), h, c20 _ (hE1 _), storeA, hmw, wrC]
    simp [hs, e0, e1, c30 _ (hE1 _), c20b _ (hE1 _), storeA, hmw, hmw0, wrC]
    simp [hs, c22 _ (hE1 _), c25 _ (hE1 _)]
    have fin : ∀ {z : List ABlk} {v : AV}, v = .bool true → Tru st (.ok v) ⟨st.H ++ z, st.I⟩ := fun h => by subst h; exact .of (Grow.appH _ _)
    rcases r4 with ⟨rfl, rfl⟩ | ⟨rfl, rfl⟩ | rfl
    · simp [hs]
      exact fin rfl
    · simp [hs, e1]
      exact fin rfl
    · by_cases y0 : y2 = 0
      · by_cases x0 : x2 = 0 <;> (simp [hs, y0, x0, e1]; exact fin rfl)
      · by_cases y3 : y2 = 30
        · by_cases x0 : x2 = 0 <;> (simp [hs, y3, x0, e1]; exact fin rfl)
        · simp [hs, y0, y3, e1]
          exact fin rfl
theorem says7 (L : Int) (hL : ok64 L) (t : T) (ht : t.ok) (hw : t.wt ≤ 1048576) : Says 7 [.agg t.enc, .int .i64 L] :=
  says_of (f7 L hL t ht (by omega) (5 * t.wt + 2000000) (Nat.le_refl _) E0 ⟨[], []⟩ wf0 (fun y => k18at (by omega) y))
end Go.Proofs.YP
/- Plain laws of resolving: names that are written otherwise, all alike. -/
set_option linter.unusedVariables false
set_option linter.unusedSimpArgs false
namespace Go.Proofs.YP
open Go
def rn (s : ByteArray) : ByteArray := s ++ ⟨#[95]⟩
theorem rn_inj {a b : ByteArray} (h : rn a = rn b) : a = b := by
  have h1 : (rn a).data.toList = (rn b).data.toList := by rw [h]
  simp [rn] at h1
  obtain ⟨⟨a⟩⟩ := a
  obtain ⟨⟨b⟩⟩ := b
  simp at h1
  rw [h1]
@[simp] theorem rn_eq (a b : ByteArray) : (rn a = rn b) = (a = b) := propext ⟨rn_inj, fun h => by rw [h]⟩
theorem rn_ne (s : ByteArray) : rn s ≠ ⟨#[]⟩ := by
  intro h
  have : (rn s).data.toList = [] := by rw [h]
  simp [rn] at this
def rnS (op : Int) (s : ByteArray) : ByteArray := if isVn op = true ∨ (op = 10 ∧ s ≠ ⟨#[]⟩) then rn s else s
mutual
def renT : T → T
  | .mk op s n l x => .mk op (rnS op s) n (renL l) x
def renL : List T → List T
  | [] => []
  | t :: r => renT t :: renL r
end
def renF (f : Fn) : Fn := { f with name := if f.name = ⟨#[]⟩ then ⟨#[]⟩ else rn f.name, vars := f.vars.map rn }
def renW (w : Wk) : Wk := { w with fs := w.fs.map renF }
@[simp] theorem renW_e (w) : (renW w).e = w.e := rfl
@[simp] theorem renW_mark (w) : (renW w).mark = w.mark := rfl
@[simp] theorem renW_fs (w) : (renW w).fs = w.fs.map renF := rfl
theorem renL_eq : ∀ l, renL l = l.map renT
  | [] => rfl
  | t :: r => by simp [renL, renL_eq r]
@[simp] theorem renT_op (t) : (renT t).op = t.op := by cases t; rfl
theorem renT_s (t) : (renT t).s = rnS t.op t.s := by cases t; rfl
theorem renW_fail (w : Wk) (e x : Int) : renW (w.fail e x) = (renW w).fail e x := by
  by_cases h : w.e = 0
  · simp [Wk.fail, renW, h]
  · simp [Wk.fail, renW, h]
theorem withS_ren (l : List ByteArray) (s : ByteArray) : withS (l.map rn) (rn s) = (withS l s).map rn := by
  unfold withS
  have : (rn s ∈ l.map rn) = (s ∈ l) := by simp
  simp only [this]
  split <;> simp
theorem isDec_vn {op : Int} (h : isDec op = true) : isVn op = true := by
  simp only [isDec, Bool.or_eq_true, decide_eq_true_eq] at h
  rcases h with ((rfl | rfl) | rfl) | rfl <;> rfl
mutual
theorem ren_decT : ∀ (t : T) (out : List ByteArray), decT (renT t) (out.map rn) = (decT t out).map rn
  | .mk op s n l x, out => by
    simp only [renT, decT]
    have h1 : (if isDec op = true then withS (out.map rn) (rnS op s) else out.map rn) = (if isDec op = true then withS out s else out).map rn := by
      split
      · rename_i hd
        rw [rnS, if_pos (.inl (isDec_vn hd)), withS_ren]
      · rfl
    simp only [h1]
    split
    · rfl
    · rw [ren_decL]
theorem ren_decL : ∀ (l : List T) (out : List ByteArray), decL (renL l) (out.map rn) = (decL l out).map rn
  | [], out => rfl
  | t :: r, out => by simp only [renL, decL, ren_decT t, ren_decL r]
end
theorem ixS_ren (s : ByteArray) : ∀ l : List ByteArray, ixS (rn s) (l.map rn) = ixS s l
  | [] => rfl
  | w :: r => by simp only [List.map_cons, ixS, rn_eq, ixS_ren s r]
theorem varF_ren (fs : List Fn) (s : ByteArray) : ∀ (n : Nat) (at_ : Int), varF (fs.map renF) n at_ (rn s) = varF fs n at_ s
  | 0, _ => rfl
  | n + 1, at_ => by
    simp only [varF, List.getElem?_map]
    cases fs[at_.toNat]? with
    | none => rfl
    | some f => simp only [Option.map_some, renF, ixS_ren, varF_ren fs s n]
theorem varNo_ren (fs : List Fn) (at_ : Int) (s : ByteArray) : varNo (fs.map renF) at_ (rn s) = varNo fs at_ s := varF_ren fs s _ _
theorem params_fold : ∀ (l : List T) (o : List ByteArray), (∀ u ∈ l, u.op = 1) → (l.map renT).foldl (fun o x => withS o x.s) (o.map rn) = (l.foldl (fun o x => withS o x.s) o).map rn
  | [], o, _ => rfl
  | t :: r, o, h => by
    have h1 : (renT t).s = rn t.s := by rw [renT_s, h t (by simp)]; rfl
    simp only [List.map_cons, List.foldl_cons, h1, withS_ren]
    exact params_fold r _ fun u hu => h u (by simp [hu])
theorem ren_params (l : List T) (h : ∀ u ∈ l.dropLast, u.op = 1) : paramsOf (renL l) = (paramsOf l).map rn := by
  simp only [paramsOf, renL_eq, ← List.map_dropLast]
  exact params_fold l.dropLast [] h
theorem isName_ne {s : ByteArray} (h : isName s = true) : s ≠ ⟨#[]⟩ := by
  rintro rfl
  simp [isName] at h
theorem ren_fn (op : Int) (s : ByteArray) (l : List T) (hf : isFn op = true) (hs : isVn op = true → isName s = true) (hl : l ≠ []) (hp : ∀ u ∈ l.dropLast, u.op = 1) (at_ : Int) (mark : Nat) :
    fnOf' op (rnS op s) (renL l) at_ mark = renF (fnOf' op s l at_ mark) := by
  have h1 : (renL l).getLast?.getD default = renT (l.getLast?.getD default) := by
    rw [renL_eq, List.getLast?_map, List.getLast?_eq_some_getLast hl]; rfl
  simp only [fnOf', ren_params l hp, h1, renF]
  have h2 : (if op = 10 ∧ rnS op s ≠ ⟨#[]⟩ then withS ((paramsOf l).map rn) (rnS op s) else (paramsOf l).map rn) = (if op = 10 ∧ s ≠ ⟨#[]⟩ then withS (paramsOf l) s else paramsOf l).map rn := by
    by_cases h10 : op = 10
    · by_cases he : s = ⟨#[]⟩
      · simp [h10, he, rnS, isVn]
      · have : rnS op s = rn s := by rw [rnS, if_pos (.inr ⟨h10, he⟩)]
        rw [this, if_pos ⟨h10, rn_ne s⟩, if_pos ⟨h10, he⟩, withS_ren]
    · simp [h10]
  rw [h2, ren_decT]
  simp only [List.length_map, Fn.mk.injEq, true_and, and_true]
  have hop : op = 10 ∨ op = 41 := by simp [isFn] at hf; omega
  rcases hop with rfl | rfl
  · by_cases he : s = ⟨#[]⟩
    · simp [he, rnS, isVn]
    · simp [he, rnS]
  · have hne := isName_ne (hs rfl)
    simp [hne, rnS, isVn]
theorem ren_stepN (at_ : Nat) (loop : Bool) (op : Int) (s : ByteArray) (n x : Int) (w : Wk) :
    stepN at_ loop op (rnS op s) n x (renW w) = ((stepN at_ loop op s n x w).1, (stepN at_ loop op s n x w).2.1, renW (stepN at_ loop op s n x w).2.2) := by
  have h50 := renW_fail w 50 x
  have h51 := renW_fail w 51 x
  by_cases h1 : op = 1
  · have hr : rnS op s = rn s := by rw [h1]; rfl
    simp only [stepN, if_pos h1, renW_fs, hr, varNo_ren]
    by_cases hv : varNo w.fs at_ s < 0
    · simp only [hv, if_true, h50]
    · simp only [hv, if_false]
  by_cases h2 : op = 30 ∨ op = 35 ∨ op = 38
  · have hr : rnS op s = rn s := by rw [rnS, if_pos]; rcases h2 with rfl | rfl | rfl <;> exact .inl rfl
    simp only [stepN, if_neg h1, if_pos h2, renW_fs, hr, varNo_ren]
  by_cases h3 : op = 11 ∨ op = 16 ∨ op = 15
  · simp only [stepN, if_neg h1, if_neg h2, if_pos h3, renW_mark]; rfl
  by_cases h4 : op = 36
  · simp only [stepN, if_neg h1, if_neg h2, if_neg h3, if_pos h4]
    by_cases hv : at_ = 0
    · simp only [hv, if_true, h51]
    · simp only [hv, if_false]
  by_cases h5 : op = 39 ∨ op = 40
  · simp only [stepN, if_neg h1, if_neg h2, if_neg h3, if_neg h4, if_pos h5]
    cases loop
    · simp only [Bool.false_eq_true, if_false, h51]
    · simp only [if_true]
  simp only [stepN, if_neg h1, if_neg h2, if_neg h3, if_neg h4, if_neg h5]
  by_cases h6 : op = 34
  · simp only [if_pos h6]
  · simp only [if_neg h6]
mutual
theorem ren_wT (at_ : Nat) (loop : Bool) : ∀ (t : T) (w : Wk), t.wf → wT at_ loop (renT t) (renW w) = (renT (wT at_ loop t w).1, renW (wT at_ loop t w).2)
  | .mk op s n l x, w, h => by
    simp only [renT, wT]
    by_cases he : w.e ≠ 0
    · rw [if_pos (show (renW w).e ≠ 0 from he), if_pos he]; rfl
    rw [if_neg (show ¬ (renW w).e ≠ 0 from he), if_neg he]
    by_cases hf : isFn op = true
    · rw [if_pos hf, if_pos hf, ren_fn op s l hf h.2.2.1 (h.2.1 hf).1 (h.2.1 hf).2]
      have hlen : (renW w).fs.length = w.fs.length := by simp
      have hvl : (renF (fnOf' op s l at_ (renW w).mark)).vars.length = (fnOf' op s l at_ w.mark).vars.length := by simp [renF]
      by_cases hl : w.fs.length = 500 ∨ 200 < (fnOf' op s l at_ w.mark).vars.length
      · rw [if_pos (show (renW w).fs.length = 500 ∨ 200 < (renF (fnOf' op s l at_ (renW w).mark)).vars.length by rw [hlen, hvl]; exact hl), if_pos hl]
        have h1 := renW_fail { w with mark := w.mark + 2 } 52 x
        rw [h1]; rfl
      · rw [if_neg (show ¬ ((renW w).fs.length = 500 ∨ 200 < (renF (fnOf' op s l at_ (renW w).mark)).vars.length) by rw [hlen, hvl]; exact hl), if_neg hl]
        have h1 := ren_wP w.fs.length l { w with mark := w.mark + 2, fs := w.fs ++ [fnOf' op s l at_ w.mark] } h.2.2.2.2 (h.2.1 hf).2
        have h2 : ({ renW w with mark := (renW w).mark + 2, fs := (renW w).fs ++ [renF (fnOf' op s l at_ (renW w).mark)] } : Wk) = renW { w with mark := w.mark + 2, fs := w.fs ++ [fnOf' op s l at_ w.mark] } := by simp [renW]
        rw [hlen, h2, h1]
        rfl
    · rw [if_neg hf, if_neg hf, ren_stepN at_ loop op s n x w]
      simp only [ren_wL _ _ l _ h.2.2.2.2, renT]
theorem ren_wL (at_ : Nat) (loop : Bool) : ∀ (l : List T) (w : Wk), T.wfL l → wL at_ loop (renL l) (renW w) = (renL (wL at_ loop l w).1, renW (wL at_ loop l w).2)
  | [], w, _ => rfl
  | t :: r, w, h => by simp only [renL, wL, ren_wT at_ loop t w h.1, ren_wL at_ loop r _ h.2]
theorem ren_wP (me : Nat) : ∀ (l : List T) (w : Wk), T.wfL l → (∀ u ∈ l.dropLast, u.op = 1) → wP me (renL l) (renW w) = (renL (wP me l w).1, renW (wP me l w).2)
  | [], w, _, _ => rfl
  | [t], w, h, _ => by simp only [renL, wP, ren_wT me false t w h.1]
  | t :: u :: r, w, h, hp => by
    have h2 := ren_wP me (u :: r) w h.2 (fun v hv => hp v (by simp [hv]))
    simp only [renL] at h2
    have h1 : t.op = 1 := hp t (by simp)
    obtain ⟨op, s, n, l, x⟩ := t
    simp only [T.op_mk] at h1
    subst h1
    have hr : rnS 1 s = rn s := rfl
    simp only [renL, wP, h2, renW_fs]
    simp [T.setN, renT, hr, varNo_ren]
end
theorem kw_last : ∀ w ∈ kwords, w.data.toList.getLast? ≠ some 95 := by decide +kernel
theorem isLD_95 : isLD 95 = true := by decide
theorem nmL_rn : ∀ l : List UInt8, nmL l = l.length → nmL (l ++ [95]) = l.length + 1
  | [], _ => by simp [nmL, isLD_95]
  | b :: r, h => by
    have hle := nmL_le r
    simp only [nmL, List.cons_append, List.length_cons] at h ⊢
    split at h
    · rename_i hb; rw [if_pos hb, nmL_rn r (by omega)]
    · omega
theorem isName_rn {s : ByteArray} (h : isName s = true) : isName (rn s) = true := by
  have hd : (rn s).data.toList = s.data.toList ++ [95] := by simp [rn]
  have hw : isWord (rn s) = false := by
    simp only [isWord, decide_eq_false_iff_not]
    intro hm
    have := kw_last _ hm
    rw [hd] at this
    simp at this
  unfold isName at h ⊢
  rw [hd]
  rcases hs : s.data.toList with _ | ⟨b, r⟩
  · rw [hs] at h; simp at h
  · rw [hs] at h
    simp only [Bool.and_eq_true, decide_eq_true_eq, Bool.not_eq_true', List.cons_append] at h ⊢
    refine ⟨⟨h.1.1, ?_⟩, hw⟩
    have := nmL_rn (b :: r) h.1.2
    simpa using this
theorem ren_okF {op : Int} {s : ByteArray} {len : Nat} (h : okF op s len = true) : okF op (rnS op s) len = true := by
  by_cases hv : isVn op = true
  · have : rnS op s = rn s := by rw [rnS, if_pos (.inl hv)]
    rw [this]
    simp only [isVn, Bool.or_eq_true, decide_eq_true_eq] at hv
    rcases hv with (((rfl | rfl) | rfl) | rfl) | rfl <;> (simp [okF, formOf, forms, TX.ok] at h ⊢; exact ⟨isName_rn h.1, h.2⟩)
  · by_cases h10 : op = 10 ∧ s ≠ ⟨#[]⟩
    · have : rnS op s = rn s := by rw [rnS, if_pos (.inr h10)]
      rw [this]
      obtain ⟨rfl, hs⟩ := h10
      simp [okF, formOf, forms, TX.ok, hs] at h ⊢
      exact ⟨.inr (isName_rn h.1), h.2⟩
    · rw [rnS, if_neg (by simp only [hv, h10, or_self, not_false_eq_true, Bool.false_eq_true])]
      exact h
theorem ren_fitL (f : T → Bool) (op : Int) (len : Nat) : ∀ i l, (∀ t ∈ l, f t = true → f (renT t) = true) → fitL f op len i l = true → fitL f op len i (renL l) = true
  | i, [], _, _ => rfl
  | i, t :: r, h, e => by
    simp only [fitL, renL, renT_op, Bool.and_eq_true] at e ⊢
    exact ⟨⟨e.1.1, h t (by simp) e.1.2⟩, ren_fitL f op len (i + 1) r (fun u hu => h u (by simp [hu])) e.2⟩
theorem ren_fit : ∀ (h : Nat) (t : T), fit h t = true → fit h (renT t) = true
  | 0, t, e => by simp [fit] at e
  | h + 1, .mk op s n l x, e => by
    have hl : (renL l).length = l.length := by simp [renL_eq]
    simp only [fit, renT, hl, Bool.and_eq_true] at e ⊢
    exact ⟨⟨ren_okF e.1.1, e.1.2⟩, ren_fitL _ _ _ _ l (fun t _ => ren_fit h t) e.2⟩
theorem ren_right {t : T} (h : right t = true) : right (renT t) = true := by
  simp only [right, rBlk, Bool.and_eq_true, renT_op] at h ⊢
  exact ⟨h.1, ren_fit _ _ h.2⟩
mutual
def numsT : T → List Int
  | .mk op s n l x => n :: numsL l
def numsL : List T → List Int
  | [] => []
  | t :: r => numsT t ++ numsL r
end
mutual
theorem nums_ren : ∀ t, numsT (renT t) = numsT t
  | .mk op s n l x => by simp only [renT, numsT, nums_renL l]
theorem nums_renL : ∀ l, numsL (renL l) = numsL l
  | [] => rfl
  | t :: r => by simp only [renL, numsL, nums_ren t, nums_renL r]
end
theorem resolve_ren (t : T) (h : right t = true) : numsT (resolve (renT t)).2.1 = numsT (resolve t).2.1 ∧ (resolve (renT t)).2.2 = (resolve t).2.2 := by
  unfold resolve
  have hd : decT (renT t) [] = (decT t []).map rn := ren_decT t []
  have h0 : ∀ v : List ByteArray, ({ fs := [{ around := -1, name := ⟨#[]⟩, params := 0, vars := v.map rn, mark := 0 }], mark := 4, e := 0, line := 0 } : Wk) = renW { fs := [{ around := -1, name := ⟨#[]⟩, params := 0, vars := v, mark := 0 }], mark := 4, e := 0, line := 0 } := fun v => by simp [renW, renF]
  have hli : (renT t).line = t.line := by cases t; rfl
  have hw := fun w => ren_wT 0 false t w (right_wf h)
  simp only [h, ren_right h, Bool.not_true, Bool.false_eq_true, if_false, hd, List.length_map, h0, hw, renW_e, hli]
  split
  · exact ⟨rfl, rfl⟩
  · split
    · exact ⟨rfl, rfl⟩
    · exact ⟨nums_ren _, rfl⟩
end Go.Proofs.YP
/- PURE: scopes: renamed (28). -/
set_option linter.unusedVariables false
set_option linter.unusedSimpArgs false
namespace Go.Proofs.YP
open Go
mutual
theorem ren_wt : ∀ t : T, (renT t).wt ≤ 2 * t.wt
  | .mk op s n l x => by
    have h1 := ren_wtL l
    have h2 : (rnS op s).size ≤ s.size + 1 := by
      unfold rnS; split
      · simp [rn, ByteArray.size_append]; exact Nat.le_refl _
      · omega
    simp only [renT, T.wt]; omega
theorem ren_wtL : ∀ l : List T, T.wtL (renL l) ≤ 2 * T.wtL l
  | [] => by simp [renL, T.wtL]
  | t :: r => by
    have h1 := ren_wt t
    have h2 := ren_wtL r
    simp only [renL, T.wtL]; omega
end
mutual
theorem ren_ok : ∀ t : T, t.wt ≤ 1000000000000 → t.ok → (renT t).ok
  | .mk op s n l x, hw, h => by
    simp only [T.wt] at hw
    have h2 : (rnS op s).size ≤ s.size + 1 := by
      unfold rnS; split
      · simp [rn, ByteArray.size_append]; exact Nat.le_refl _
      · omega
    exact ⟨by omega, by have := h.2.1; simp only [renL_eq, List.length_map]; exact this, h.2.2.1, h.2.2.2.1, h.2.2.2.2.1, ren_okL l (by omega) h.2.2.2.2.2⟩
theorem ren_okL : ∀ l : List T, T.wtL l ≤ 1000000000000 → T.okL l → T.okL (renL l)
  | [], _, _ => trivial
  | t :: r, hw, h => by
    simp only [T.wtL] at hw
    exact ⟨ren_ok t (by omega) h.1, ren_okL r (by omega) h.2⟩
end
set_option maxHeartbeats 4000000 in
theorem f28 (n : Nat) : ∀ t : T, t.wt ≤ n → t.wt ≤ 100000000000 → ∀ k, n + 2 ≤ k → PureC k 28 [.agg t.enc] (.agg (renT t).enc) := by
  induction n with
  | zero => intro t h; cases t; simp [T.wt] at h
  | succ n ih =>
    intro t ht htm k hk E st hE
    obtain ⟨k, rfl⟩ : ∃ k', k = k' + 1 := ⟨k - 1, by omega⟩
    obtain ⟨op, s0, nn, l, line⟩ := t
    simp only [T.wt] at ht htm
    have hlw := T.len_wtL l
    have hmw := mayWrite_new hE
    have hmw0 : ∀ j x y, mayWrite E (st.H.length + j) x y = true := fun j x y => hmw _ _ _ (by omega)
    have hrom := hE.rom
    generalize hs1 : rnS op s0 = s1
    have hgoal : renT (.mk op s0 nn l line) = .mk op s1 nn (l.map renT) line := by simp only [renT, renL_eq, hs1]
    rw [hgoal]
    have hsz : s0.size + (⟨#[95]⟩ : ByteArray).size ≤ 9223372036854775807 := by
      have : (⟨#[95]⟩ : ByteArray).size = 1 := rfl
      omega
    have hadd : s0 ++ (⟨#[95]⟩ : ByteArray) = rn s0 := rfl
    refine call_in1 rfl rfl (by decide) fun s hs e0 => ?_
    rw [WP_assoc]
    refine WP_seqM (fun s' m' st' => m' = [] ∧ s'.length = 45 ∧ lk s' 1 = .ptr st.H.length 0 ∧ lk s' 2 = .ptr (st.H.length + 1) 0 ∧ st' = ⟨st.H ++ [.cells 24 [.int .i64 op, .str s1, .int .i64 nn, .sl none l.length (T.encL l), .int .i64 line], .cells 24 [.int .i64 0, .str ⟨#[]⟩, .int .i64 0, .nils, .int .i64 0]], st.I⟩) ?_ ?_
    · by_cases o1 : op = 1
      · subst o1
        have : s1 = rn s0 := by rw [← hs1]; rfl
        subst this
        simp [hs, e0, storeA, hmw, hmw0, wrC, hsz, hadd]
        exact ⟨rfl, rfl, by simp [hs], by simp [hs], by simp [hs], rfl⟩
      by_cases o30 : op = 30
      · subst o30
        have : s1 = rn s0 := by rw [← hs1]; rfl
        subst this
        simp [hs, e0, storeA, hmw, hmw0, wrC, hsz, hadd]
        exact ⟨rfl, rfl, by simp [hs], by simp [hs], by simp [hs], rfl⟩
      by_cases o35 : op = 35
      · subst o35
        have : s1 = rn s0 := by rw [← hs1]; rfl
        subst this
        simp [hs, e0, storeA, hmw, hmw0, wrC, hsz, hadd]
        exact ⟨rfl, rfl, by simp [hs], by simp [hs], by simp [hs], rfl⟩
      by_cases o38 : op = 38
      · subst o38
        have : s1 = rn s0 := by rw [← hs1]; rfl
        subst this
        simp [hs, e0, storeA, hmw, hmw0, wrC, hsz, hadd]
        exact ⟨rfl, rfl, by simp [hs], by simp [hs], by simp [hs], rfl⟩
      by_cases o41 : op = 41
      · subst o41
        have : s1 = rn s0 := by rw [← hs1]; rfl
        subst this
        simp [hs, e0, storeA, hmw, hmw0, wrC, hsz, hadd]
        exact ⟨rfl, rfl, by simp [hs], by simp [hs], by simp [hs], rfl⟩
      have hvn : isVn op = false := by simp [isVn, o1, o30, o35, o38, o41]
      by_cases o10 : op = 10
      · subst o10
        by_cases hse : s0 = ⟨#[]⟩
        · have : s1 = s0 := by rw [← hs1]; simp [rnS, hvn, hse]
          subst this
          simp [hs, e0, hse]
          exact ⟨rfl, rfl, by simp [hs], by simp [hs], by simp [hs], by rw [hse]⟩
        · have : s1 = rn s0 := by rw [← hs1]; simp [rnS, hse]
          subst this
          simp [hs, e0, storeA, hmw, hmw0, wrC, hsz, hadd, hse]
          exact ⟨rfl, rfl, by simp [hs], by simp [hs], by simp [hs], rfl⟩
      · have : s1 = s0 := by rw [← hs1]; simp [rnS, hvn, o10]
        subst this
        simp [hs, e0, o1, o30, o35, o38, o41, o10]
        exact ⟨rfl, rfl, by simp [hs], by simp [hs], by simp [hs], rfl⟩
    clear hs e0 s
    rintro s _ _ ⟨rfl, hs, e1, e2, rfl⟩
    simp [hs, e1, e2]
    refine WP_loop (fun n s m st' => ∃ (j : Nat) (v : AV) (I' : List (Nat × Nat)), j ≤ l.length ∧ n = l.length - j ∧ s.length = 45 ∧ m = [] ∧ lk s 1 = .ptr st.H.length 0 ∧ lk s 2 = .ptr (st.H.length + 1) 0 ∧ lk s 3 = v ∧ lk s 4 = .int .i64 j ∧
      st' = ⟨st.H ++ [.cells 24 [.int .i64 op, .str s1, .int .i64 nn, .sl none l.length (T.encL l), .int .i64 line], .cells 24 [.int .i64 0, .str ⟨#[]⟩, .int .i64 0, .nils, .int .i64 0]], I'⟩ ∧ AccT st.I.length I' ((l.take j).map renT) v ∧ IOld st.I.length st.I I') l.length (by omega)
      ⟨0, .nils, st.I, by omega, by omega, by simp [hs], rfl, by simp [hs, e1], by simp [hs, e2], by simp [hs], by simp [hs], rfl, .inl ⟨rfl, rfl⟩, .refl _ _⟩ ?_
    clear hs e1 e2 s
    rintro _ s m _ ⟨j, v, I', hj, rfl, hs, rfl, e1, e2, e3, e4, rfl, hac, hio⟩
    have hil := hio.len
    by_cases hc : j < l.length
    · obtain ⟨t, hg⟩ : ∃ t, l[j]? = some t := ⟨_, List.getElem?_eq_getElem hc⟩
      have hrd := T.rd hg
      have hwj := wrap64 (n := (j : Int) + 1) (by omega)
      have hwt := T.wtL_get hg
      have c28 := (ih t (by omega) (by omega) k (by omega)).full (E := E) (st := ⟨st.H ++ [.cells 24 [.int .i64 op, .str s1, .int .i64 nn, .sl none l.length (T.encL l), .int .i64 line], .cells 24 [.int .i64 0, .str ⟨#[]⟩, .int .i64 0, .nils, .int .i64 0]], I'⟩) (by simp) (hE.of (by simp) hil)
      obtain ⟨v', I2, happ, hac2, hio2⟩ := (hac.push (1, 5)).app (E := E) (H := st.H ++ [.cells 24 [.int .i64 op, .str s1, .int .i64 nn, .sl none l.length (T.encL l), .int .i64 line], .cells 24 [.int .i64 0, .str ⟨#[]⟩, .int .i64 0, .nils, .int .i64 0]]) (by simp; omega) hrom (by simp; omega) (renT t) I'.length
      have hnew : (l.take j).map renT ++ [renT t] = (l.take (j + 1)).map renT := by rw [List.take_add_one, hg]; simp
      rw [hnew] at hac2
      rw [T.enc_eq] at hrd
      rw [T.enc_eq t, T.enc_eq (renT t)] at c28
      rw [T.enc_eq] at happ
      simp only [renT_op] at happ c28
      simp [hs, e1, e2, e3, e4, hc, hrd, c28, fillA, wrC]
      simp [hs, e3, e4, happ, hwj]
      exact ⟨_, by omega, j + 1, v', I2, by omega, rfl, by simp [hs], rfl, by simp [hs, e1], by simp [hs, e2], by simp [hs], by simp [hs], rfl, hac2, hio.trans ((IOld.push _ _ _).trans hio2)⟩
    · have hjl : l.take j = l := List.take_of_length_le (by omega)
      rw [hjl] at hac
      have hvc := hac.cells
      have hvo := hac.one
      have hvf := hac.fin st.I.length (Nat.le_refl _)
      simp [hs, e1, e2, e3, e4, hc, storeA, hmw, hmw0, wrC, hvc, hvo]
      simp [hs, e2, hvf]
      exact ⟨List.prefix_append _ _, hio.pfx⟩
end Go.Proofs.YP
/- PURE: scopes: numbers (29); the law ScopeNames (6). -/
set_option linter.unusedVariables false
set_option linter.unusedSimpArgs false
namespace Go.Proofs.YP
open Go
/-- Numbers that are gathered: none yet, or in an array of their own. -/
def AccI (E : Env) (I : List (Nat × Nat)) (ns : List Int) (v : AV) : Prop :=
  (ns = [] ∧ v = .nils) ∨ ∃ i, v = .sl (some i) ns.length (ns.map (.int .i64)) ∧ E.rom ≤ i ∧ I[i]? = some (ns.length, 1)
theorem AccI.base {E : Env} {I ns v} (n : Nat) (h : AccI E I ns v) : AccI { E with base := n } I ns v := h
theorem ints_refs : ∀ l : List Int, AV.refsL (l.map (.int .i64)) = []
  | [] => rfl
  | a :: r => by simp [AV.refs, ints_refs r]
theorem AccI.refs {E : Env} {I : List (Nat × Nat)} {ns : List Int} {v : AV} (h : AccI E I ns v) (n : Nat) : refsLt n I.length v.refs = true := by
  rcases h with ⟨-, rfl⟩ | ⟨i, rfl, -, hi⟩
  · simp
  · have := (List.getElem?_eq_some_iff.1 hi).1
    simp [ints_refs, refsLt, this]
theorem AccI.app {E : Env} {I : List (Nat × Nat)} {ns : List Int} {v : AV} (h : AccI E I ns v) (hr : E.rom ≤ I.length) (hl : ns.length ≤ 100000000000) (H : List ABlk) (x : Int) (q : Nat) :
    ∃ v' I', appA E ⟨H, I ++ [(1, 1)]⟩ 1 8 v (.sl (some q) 1 [.int .i64 x]) = some (v', ⟨H, I'⟩) ∧ AccI E I' (ns ++ [x]) v' ∧ IFr (owns v) I I' ∧ OwnTo I v v' := by
  rcases h with ⟨rfl, rfl⟩ | ⟨j, rfl, hj1, hj2⟩
  · refine ⟨.sl (some (I.length + 1)) 1 [.int .i64 x], I ++ [(1, 1), (1, 1)], by simp [appA, srcA], .inr ⟨I.length + 1, rfl, by omega, by simp⟩, ⟨by simp, fun j x n e => ?_⟩, .inr ⟨_, rfl, by omega⟩⟩
    rw [List.getElem?_append_left (List.getElem?_eq_some_iff.1 e).1]; exact e
  · have hj3 : (I ++ [(1, 1)])[j]? = some (ns.length, 1) := by rw [List.getElem?_append_left (List.getElem?_eq_some_iff.1 hj2).1]; exact hj2
    have hb1 : (ns.length + 1) * 8 ≤ 70368744177664 := by omega
    have hb2 : ns.length + 1 ≤ 70368744177664 := by omega
    refine ⟨.sl (some j) (ns.length + 1) (ns.map (.int .i64) ++ [.int .i64 x]), (I ++ [(1, 1)]).set j (ns.length + 1, 1), by simp [appA, srcA, hj1, hj3, hb1, hb2], .inr ⟨j, by simp, hj1, ?_⟩, ⟨by simp, fun q y n e => ?_⟩, .inl rfl⟩
    · rw [List.getElem?_set_self (List.getElem?_eq_some_iff.1 hj3).1]; simp
    · rw [List.getElem?_set_ne (by rintro rfl; exact n rfl), List.getElem?_append_left (List.getElem?_eq_some_iff.1 e).1]; exact e
theorem nums_len : ∀ (l : List T) (i : Nat) (t : T), l[i]? = some t → (numsL (l.take (i + 1))) = numsL (l.take i) ++ numsT t
  | [], i, t, h => by simp at h
  | a :: r, 0, t, h => by simp at h; subst h; simp [numsL]
  | a :: r, i + 1, t, h => by
    have := nums_len r i t (by simpa using h)
    simp only [List.take_succ_cons, numsL, this, List.append_assoc]
mutual
theorem nums_wt : ∀ t : T, (numsT t).length ≤ t.wt
  | .mk op s n l x => by
    have := nums_wtL l
    simp only [numsT, T.wt, List.length_cons]; omega
theorem nums_wtL : ∀ l : List T, (numsL l).length ≤ T.wtL l
  | [] => by simp [numsL, T.wtL]
  | t :: r => by
    have := nums_wt t
    have := nums_wtL r
    simp only [numsL, T.wtL, List.length_append]; omega
end
theorem IFr.pfx {I I' : List (Nat × Nat)} (h : IFr none I I') : I <+: I' := IOld.pfx ⟨h.len, fun j x _ e => h.get j x (by simp) e⟩
set_option maxHeartbeats 2000000 in
theorem f29 (n : Nat) : ∀ t : T, t.wt ≤ n → ∀ (ns : List Int) (v : AV) (E : Env) (st : St), AccI E st.I ns v → E.Wf st → ns.length + t.wt ≤ 100000000000 → ∀ k, n + 2 ≤ k →
    CallQ k E 29 [.agg t.enc, v] st fun r st' => ∃ v', r = .ok v' ∧ st.H <+: st'.H ∧ AccI E st'.I (ns ++ numsT t) v' ∧ IFr (owns v) st.I st'.I ∧ OwnTo st.I v v' := by
  induction n with
  | zero => intro t h; cases t; simp [T.wt] at h
  | succ n ih =>
    intro t ht ns v E st hv hE hb k hk
    obtain ⟨k, rfl⟩ : ∃ k', k = k' + 1 := ⟨k - 1, by omega⟩
    obtain ⟨op, s0, nn, l, line⟩ := t
    simp only [T.wt] at ht hb
    have hlw := T.len_wtL l
    have hrom := hE.rom
    obtain ⟨v1, I1, happ, hv1, hf1, ho1⟩ := hv.app (E := E) hrom (by omega) (st.H ++ [.cells 24 [.int .i64 op, .str s0, .int .i64 nn, .sl none l.length (T.encL l), .int .i64 line]]) nn st.I.length
    refine call_in2 rfl rfl (by decide) fun s hs e0 e1 => ?_
    simp [hs, e0, e1, fillA, wrC, happ]
    refine WP_loop (fun n s m st' => ∃ (i : Nat) (v2 : AV) (I2 : List (Nat × Nat)), i ≤ l.length ∧ n = l.length - i ∧ s.length = 26 ∧ m = [] ∧
      st' = ⟨st.H ++ [.cells 24 [.int .i64 op, .str s0, .int .i64 nn, .sl none l.length (T.encL l), .int .i64 line]], I2⟩ ∧ lk s 1 = v2 ∧ lk s 2 = .ptr st.H.length 0 ∧ lk s 5 = .int .i64 i ∧
      AccI E I2 (ns ++ nn :: numsL (l.take i)) v2 ∧ IFr (owns v) st.I I2 ∧ OwnTo st.I v v2) l.length (by omega)
      ⟨0, v1, I1, by omega, by omega, by simp [hs], rfl, rfl, by simp [hs], by simp [hs], by simp [hs], by simpa [numsL] using hv1, hf1, ho1⟩ ?_
    clear hs e0 e1 s
    rintro _ s m _ ⟨i, v2, I2, hi, rfl, hs, rfl, rfl, e1, e2, e5, hv2, hf2, ho2⟩
    by_cases hc : i < l.length
    · obtain ⟨t, hg⟩ : ∃ t, l[i]? = some t := ⟨_, List.getElem?_eq_getElem hc⟩
      have hrd := T.rd hg
      have hw := wrap64 (n := (i : Int) + 1) (by omega)
      have hwt := T.wtL_get hg
      have hwt2 := wtL_split hg
      have hnl := nums_wtL (l.take i)
      have hnew := nums_len l i t hg
      have hE2 : E.Wf ⟨st.H ++ [.cells 24 [.int .i64 op, .str s0, .int .i64 nn, .sl none l.length (T.encL l), .int .i64 line]], I2⟩ := hE.of (by simp) hf2.len
      have c29 := keep_of (E := E) (st := ⟨st.H ++ [.cells 24 [.int .i64 op, .str s0, .int .i64 nn, .sl none l.length (T.encL l), .int .i64 line]], I2⟩) (Q := fun v' I' => AccI E I' (ns ++ nn :: numsL (l.take (i + 1))) v' ∧ IFr (owns v2) I2 I' ∧ OwnTo I2 v2 v') (by
        refine (ih t (by omega) _ v2 _ ⟨st.H ++ [.cells 24 [.int .i64 op, .str s0, .int .i64 nn, .sl none l.length (T.encL l), .int .i64 line]], I2⟩ (hv2.base _) hE2.based (by simp; omega) k (by omega)).mono ?_
        rintro r st' ⟨v', h1, h2, h3, h4, h5⟩
        have h3 : AccI E st'.I (ns ++ nn :: numsL (l.take i) ++ numsT t) v' := h3
        exact ⟨v', h1, h2, by rw [hnew]; simpa using h3, h4, h5⟩) (fun v' I' h => h.1.refs _)
      rw [T.enc_eq] at hrd c29
      simp [hs, e1, e2, e5, hc, hrd]
      refine obP_intro c29 fun p hp => ?_
      obtain ⟨v', I', rfl, h1, h2, h3⟩ := hp
      simp [hs, e1, e2, e5, hw]
      exact ⟨_, by omega, i + 1, v', I', by omega, rfl, by simp [hs], rfl, rfl, by simp [hs], by simp [hs, e2], by simp [hs], h1, hf2.next ho2 h2, ho2.next hf2.len h3⟩
    · have hq : l.take i = l := List.take_of_length_le (by omega)
      rw [hq] at hv2
      simp [hs, e1, e2, e5, hc]
      exact ⟨by simpa [numsT] using hv2, hf2, ho2⟩
theorem AccI.some {E I ns v} (h : AccI E I ns v) (hn : ns ≠ []) : ∃ i, v = .sl (some i) ns.length (ns.map (.int .i64)) := by
  rcases h with ⟨h, -⟩ | ⟨i, h, -, -⟩
  · exact absurd h hn
  · exact ⟨i, h⟩
theorem nums_ne (t : T) : numsT t ≠ [] := by cases t; simp [numsT]
set_option maxHeartbeats 4000000 in
set_option maxRecDepth 20000 in
theorem f6 (t : T) (ht : t.ok) (hw : t.wt ≤ 1000000000) (k : Nat) (hk : 10 * t.wt + 2000000 ≤ k) (E : Env) (st : St) (hE : E.Wf st)
    (h18 : ∀ y, doCall (aCall prog k) E .full (.fn 18) [] ⟨st.H ++ [y], st.I⟩ = some (.ok (.bool true), ⟨st.H ++ [y], st.I⟩)) : CallQ (k + 1) E 6 [.agg t.enc] st (Tru st) := by
  have hmw := mayWrite_new hE
  have hmw0 : ∀ j x y, mayWrite E (st.H.length + j) x y = true := fun j x y => hmw _ _ _ (by omega)
  have hcw := count_wt t
  have c19 := fun st3 (h : E.Wf st3) => (f19 t k (by omega)).full (E := E) (st := st3) rfl h
  have c27 := fun st3 (h : E.Wf st3) => (f27 t ht k (by omega)).full (E := E) (st := st3) rfl h
  have hrr : ∀ t, (resV (resolve t)).refs = [] := fun t => by simp [resV, encFs_refs, T.enc_refs]
  have c20 := fun st3 (h : E.Wf st3) => (f20 t ht (by omega) k (by omega)).full (E := E) (st := st3) (hrr t) h
  have hrw := ren_wt t
  have c20b := fun st3 (h : E.Wf st3) => (f20 (renT t) (ren_ok t (by omega) ht) (by omega) k (by omega)).full (E := E) (st := st3) (hrr _) h
  have c28 := fun st3 (h : E.Wf st3) => (f28 _ t (Nat.le_refl _) (by omega) k (by omega)).full (E := E) (st := st3) (by simp) h
  have hwt : (resolve t).2.1.wt ≤ t.wt := resolve_wt t
  have hwt2 : (resolve (renT t)).2.1.wt ≤ (renT t).wt := resolve_wt _
  have hren := resolve_ren t
  obtain ⟨op, s0, nn, l, line⟩ := t
  have hE1 : ∀ y, E.Wf ⟨st.H ++ y, st.I⟩ := fun y => hE.of (by simp) (by simp)
  refine call_in1 rfl rfl (by decide) fun s hs e0 => ?_
  simp only [T.enc] at c19 c27
  by_cases h : szT 1500 (.mk op s0 nn l line) < 0
  · simp [hs, e0, h18, c19 _ (hE1 _), c27 _ (hE1 _), h]
    exact .of (Grow.appH _ _)
  by_cases hr : right (.mk op s0 nn l line) = true
  rotate_left
  · have hr : right (.mk op s0 nn l line) = false := by simpa using hr
    simp [hs, e0, h18, c19 _ (hE1 _), c27 _ (hE1 _), h, hr]
    exact .of (Grow.appH _ _)
  obtain ⟨r1, r2⟩ := hren hr
  have hlt : (renT (.mk op s0 nn l line)).enc = [.int .i64 op, .str (rnS op s0), .int .i64 nn, .sl none (renL l).length (T.encL (renL l)), .int .i64 line] := rfl
  rw [hlt] at c20b c28
  generalize resolve (renT (.mk op s0 nn l line)) = R' at *
  generalize resolve (.mk op s0 nn l line) = R at *
  obtain ⟨fs, t', x, y⟩ := R
  obtain ⟨fs', t2, x2, y2⟩ := R'
  simp only [Prod.mk.injEq] at r1 r2 hwt hwt2
  obtain ⟨rfl, rfl⟩ := r2
  simp only [T.enc, resV] at c20 c20b c28
  have c29 := fun (X : List ABlk) (I' : List (Nat × Nat)) (hi : st.I.length ≤ I'.length) (u : T) (hu : u.wt ≤ 4000000000) (huk : u.wt + 2 ≤ k) => keep_of (E := E) (st := ⟨st.H ++ X, I'⟩) (Q := fun v J => (∃ i, v = .sl (some i) (numsT u).length ((numsT u).map (.int .i64))) ∧ v.one = true ∧ refsLt (st.H ++ X).length J.length v.refs = true ∧ IFr none I' J) (by
    have hE2 : E.Wf ⟨st.H ++ X, I'⟩ := hE.of (by simp) hi
    refine (f29 u.wt u (Nat.le_refl _) [] .nils { E with base := (st.H ++ X).length } ⟨st.H ++ X, I'⟩ (.inl ⟨rfl, rfl⟩) hE2.based (by simp; omega) k huk).mono ?_
    rintro r st' ⟨v', h1, h2, h3, h4, h5⟩
    obtain ⟨i, hi⟩ := h3.some (by simpa using nums_ne u)
    exact ⟨v', h1, h2, ⟨i, by simpa using hi⟩, by rw [hi]; rfl, h3.refs _, h4⟩) (fun v J h => h.2.2.1)
  have c29a := c29 [.cells 24 [.int .i64 op, .str s0, .int .i64 nn, .sl none l.length (T.encL l), .int .i64 line], .cells 24 t'.enc, .cells 24 t2.enc] st.I (Nat.le_refl _) t' (by omega) (by omega)
  have c29b := fun I' hi => c29 [.cells 24 [.int .i64 op, .str s0, .int .i64 nn, .sl none l.length (T.encL l), .int .i64 line], .cells 24 t'.enc, .cells 24 t2.enc] I' hi t2 (by omega) (by omega)
  rw [T.enc_eq t'] at c20 c29a c29b
  rw [T.enc_eq t2] at c20b c29a c29b
  simp [hs, e0, h18, c19 _ (hE1 _), c27 _ (hE1 _), h, hr, c20 _ (hE1 _), storeA, hmw, wrC]
  simp [hs, c28 _ (hE1 _), c20b _ (hE1 _), storeA, hmw, hmw0, wrC]
  refine obP_intro c29a fun p hp => ?_
  obtain ⟨v1, I1, rfl, ⟨i1, rfl⟩, -, -, hf1⟩ := hp
  simp [hs]
  refine obP_intro (c29b I1 hf1.len) fun p hp => ?_
  obtain ⟨v2, I2, rfl, ⟨i2, rfl⟩, -, -, hf2⟩ := hp
  rw [r1]
  have hI : st.I <+: I2 := (hf1.trans hf2).pfx
  have hnl := nums_wt t'
  simp [hs]
  refine WP_loop (fun n s m st' => ∃ j : Nat, j ≤ (numsT t').length ∧ n = (numsT t').length - j ∧ s.length = 77 ∧ m = [] ∧ lk s 3 = .bool true ∧ lk s 13 = .sl (some i1) (numsT t').length ((numsT t').map (.int .i64)) ∧ lk s 14 = .sl (some i2) (numsT t').length ((numsT t').map (.int .i64)) ∧ lk s 15 = .int .i64 j ∧
    st' = ⟨st.H ++ [.cells 24 [.int .i64 op, .str s0, .int .i64 nn, .sl none l.length (T.encL l), .int .i64 line], .cells 24 [.int .i64 t'.op, .str t'.s, .int .i64 t'.n, .sl none t'.l.length (T.encL t'.l), .int .i64 t'.line], .cells 24 [.int .i64 t2.op, .str t2.s, .int .i64 t2.n, .sl none t2.l.length (T.encL t2.l), .int .i64 t2.line]], I2⟩) (numsT t').length (by omega)
    ⟨0, by omega, by omega, by simp [hs], rfl, by simp [hs], by simp [hs], by simp [hs], by simp [hs], rfl⟩ ?_
  clear hs e0 s
  rintro _ s m _ ⟨j, hj, rfl, hs, rfl, e3, e13, e14, e15, rfl⟩
  by_cases hc : j < (numsT t').length
  · have hwj := wrap64 (n := (j : Int) + 1) (by omega)
    have hg : (numsT t')[j]? = some ((numsT t')[j]'hc) := List.getElem?_eq_getElem hc
    simp [Nat.testBit, hs, e3, e13, e14, e15, hc, hg, hwj]
    exact ⟨_, by omega, j + 1, by omega, rfl, by simp [hs], rfl, by simp [hs, e3], by simp [hs, e13], by simp [hs, e14], by simp [hs], rfl⟩
  · simp [hs, e3, e13, e14, e15, hc]
    exact .of ⟨List.prefix_append _ _, hI⟩
theorem says6 (t : T) (ht : t.ok) (hw : t.wt ≤ 1048576) : Says 6 [.agg t.enc] :=
  says_of (f6 t ht (by omega) (10 * t.wt + 2000000) (Nat.le_refl _) E0 ⟨[], []⟩ wf0 (fun y => k18at (by omega) y))
end Go.Proofs.YP
