/- Plain laws of resolving: numbers name variables and functions that there are; functions are numbered, and marks rise; marks without a gap. -/
import Derived.Test.YtjehnhppfneidaaGreatDoorSch
set_option linter.unusedVariables false
set_option linter.unusedSimpArgs false
namespace Go.Proofs.YP
open Go
mutual
theorem wT_errL (at_ : Nat) (loop : Bool) : ∀ (t : T) (w : Wk), w.e ≠ 0 → wT at_ loop t w = (t, w)
  | .mk op s n l x, w, h => by simp only [wT, if_pos h]
end
theorem wL_errL (at_ : Nat) (loop : Bool) : ∀ (l : List T) (w : Wk), w.e ≠ 0 → (wL at_ loop l w).2 = w
  | [], w, _ => rfl
  | t :: r, w, h => by simp only [wL, wT_errL at_ loop t w h, wL_errL at_ loop r w h]
theorem fail_e (w : Wk) (e x : Int) (he : e ≠ 0) : (w.fail e x).e ≠ 0 := by
  unfold Wk.fail; split
  · exact he
  · assumption
theorem fail_fsL (w : Wk) (e x : Int) : (w.fail e x).fs = w.fs := by unfold Wk.fail; split <;> rfl
theorem fail_markL (w : Wk) (e x : Int) : (w.fail e x).mark = w.mark := by unfold Wk.fail; split <;> rfl
theorem stepN_fs (at_ : Nat) (loop : Bool) (op : Int) (s : ByteArray) (n x : Int) (w : Wk) : (stepN at_ loop op s n x w).2.2.fs = w.fs := by
  unfold stepN
  repeat' (first | split | (simp only []; split))
  all_goals first | rfl | simp [fail_fsL]
theorem stepN_mark (at_ : Nat) (loop : Bool) (op : Int) (s : ByteArray) (n x : Int) (w : Wk) : (stepN at_ loop op s n x w).2.2.mark = if op = 11 ∨ op = 16 ∨ op = 15 then w.mark + 1 else w.mark := by
  by_cases h1 : op = 1
  · subst h1; simp only [stepN, if_true]; split <;> simp [fail_markL]
  by_cases h2 : op = 30 ∨ op = 35 ∨ op = 38
  · have : ¬ (op = 11 ∨ op = 16 ∨ op = 15) := by omega
    simp only [stepN, if_neg h1, if_pos h2, if_neg this]
  by_cases h3 : op = 11 ∨ op = 16 ∨ op = 15
  · simp only [stepN, if_neg h1, if_neg h2, if_pos h3]
  simp only [stepN, if_neg h1, if_neg h2, if_neg h3]
  repeat' split
  all_goals simp [fail_markL]
mutual
theorem wT_pfx (at_ : Nat) (loop : Bool) : ∀ (t : T) (w : Wk), w.fs <+: (wT at_ loop t w).2.fs
  | .mk op s n l x, w => by
    simp only [wT]
    split
    · exact List.prefix_rfl
    · split
      · split
        · rw [fail_fsL]; exact List.prefix_rfl
        · exact (List.prefix_append w.fs [fnOf' op s l at_ w.mark]).trans (wP_pfx w.fs.length l { w with mark := w.mark + 2, fs := w.fs ++ [fnOf' op s l at_ w.mark] })
      · have := wL_pfx at_ ((stepN at_ loop op s n x w).2.1 || decide (op = 35)) l (stepN at_ loop op s n x w).2.2
        rw [stepN_fs] at this; exact this
theorem wL_pfx (at_ : Nat) (loop : Bool) : ∀ (l : List T) (w : Wk), w.fs <+: (wL at_ loop l w).2.fs
  | [], w => List.prefix_rfl
  | t :: r, w => (wT_pfx at_ loop t w).trans (wL_pfx at_ loop r _)
theorem wP_pfx (me : Nat) : ∀ (l : List T) (w : Wk), w.fs <+: (wP me l w).2.fs
  | [], w => List.prefix_rfl
  | [t], w => by simp only [wP]; exact wT_pfx me false t w
  | t :: u :: r, w => by simp only [wP]; exact wP_pfx me (u :: r) w
end
theorem pfx_get {α : Type} {a b : List α} (h : a <+: b) {i : Nat} {x : α} (e : a[i]? = some x) : b[i]? = some x := by
  obtain ⟨t, rfl⟩ := h
  rw [List.getElem?_append_left (List.getElem?_eq_some_iff.1 e).1, e]
def isVr (op : Int) : Bool := decide (op = 1) || decide (op = 30) || decide (op = 35) || decide (op = 38)
/-- A variable's number names a variable of that name. -/
def VarOk (fs : List Fn) (n : Int) (s : ByteArray) : Prop := 0 ≤ n ∧ ∃ f, fs[(n / 1000).toNat]? = some f ∧ f.vars[(n % 1000).toNat]? = some s
def FunOk (fs : List Fn) (n : Int) (s : ByteArray) : Prop := 1 ≤ n ∧ ∃ f, fs[n.toNat]? = some f ∧ f.name = s
mutual
def goodT (fs : List Fn) : T → Prop
  | .mk op s n l _ => (isVr op = true → VarOk fs n s) ∧ (isFn op = true → FunOk fs n s) ∧ goodL fs l
def goodL (fs : List Fn) : List T → Prop
  | [] => True
  | t :: r => goodT fs t ∧ goodL fs r
end
theorem VarOk.mono {fs fs' : List Fn} (h : fs <+: fs') {n s} (v : VarOk fs n s) : VarOk fs' n s := by
  obtain ⟨h1, f, h2, h3⟩ := v; exact ⟨h1, f, pfx_get h h2, h3⟩
theorem FunOk.mono {fs fs' : List Fn} (h : fs <+: fs') {n s} (v : FunOk fs n s) : FunOk fs' n s := by
  obtain ⟨h1, f, h2, h3⟩ := v; exact ⟨h1, f, pfx_get h h2, h3⟩
mutual
theorem goodT.mono {fs fs' : List Fn} (h : fs <+: fs') : ∀ t, goodT fs t → goodT fs' t
  | .mk op s n l x, g => ⟨fun e => (g.1 e).mono h, fun e => (g.2.1 e).mono h, goodL.mono h l g.2.2⟩
theorem goodL.mono {fs fs' : List Fn} (h : fs <+: fs') : ∀ l, goodL fs l → goodL fs' l
  | [], _ => trivial
  | t :: r, g => ⟨goodT.mono h t g.1, goodL.mono h r g.2⟩
end
structure WR (w : Wk) : Prop where
  four : 4 ≤ w.mark
  each : ∀ (i : Nat) (f : Fn), w.fs[i]? = some f → f.around < i ∧ -1 ≤ f.around ∧ (0 < i → 0 ≤ f.around ∧ 4 ≤ f.mark) ∧ f.params ≤ f.vars.length ∧ f.vars.length ≤ 200 ∧ f.mark < w.mark
  rise : ∀ (i : Nat) (f g : Fn), w.fs[i]? = some f → w.fs[i + 1]? = some g → f.mark < g.mark
theorem WR.more {w w' : Wk} (h : WR w) (h1 : w'.fs = w.fs) (h2 : w.mark ≤ w'.mark) : WR w' := by
  refine ⟨Nat.le_trans h.four h2, fun i f e => ?_, fun i f g => by rw [h1]; exact h.rise i f g⟩
  rw [h1] at e
  obtain ⟨a, b, c, d, x, y⟩ := h.each i f e
  exact ⟨a, b, c, d, x, by omega⟩
theorem ixS_get (s : ByteArray) : ∀ (l : List ByteArray) (i : Nat), ixS s l = some i → l[i]? = some s
  | [], i, h => by simp [ixS] at h
  | w :: r, i, h => by
    simp only [ixS] at h
    split at h
    · rename_i e; cases h; simp [e]
    · cases hr : ixS s r with
      | none => simp [hr] at h
      | some j => simp [hr] at h; subst h; simpa using ixS_get s r j hr
theorem varF_ok {fs : List Fn} (hfs : ∀ (i : Nat) (f : Fn), fs[i]? = some f → f.vars.length ≤ 200) (s : ByteArray) : ∀ (n : Nat) (at_ : Int), 0 ≤ varF fs n at_ s → VarOk fs (varF fs n at_ s) s
  | 0, at_, h => by simp [varF] at h
  | n + 1, at_, h => by
    simp only [varF] at h ⊢
    split at h
    · omega
    · rename_i ha
      rw [if_neg ha]
      cases hf : fs[at_.toNat]? with
      | none => simp [hf] at h
      | some f =>
        simp only [hf] at h ⊢
        cases hi : ixS s f.vars with
        | none => simp only [hi] at h ⊢; exact varF_ok hfs s n f.around h
        | some i =>
          simp only [hi] at h ⊢
          have hg := ixS_get s _ _ hi
          have hl := (List.getElem?_eq_some_iff.1 hg).1
          have := hfs _ f hf
          refine ⟨h, f, ?_, ?_⟩
          · rw [show (1000 * at_ + (i : Int)) / 1000 = at_ by omega]; exact hf
          · rw [show ((1000 * at_ + (i : Int)) % 1000).toNat = i by omega]; exact hg
theorem varNo_ok {w : Wk} (h : WR w) (s : ByteArray) (at_ : Int) (hv : 0 ≤ varNo w.fs at_ s) : VarOk w.fs (varNo w.fs at_ s) s :=
  varF_ok (fun i f e => (h.each i f e).2.2.2.2.1) s _ _ hv
/-- A name is one of a function's. -/
def InV (fs : List Fn) (at_ : Nat) (s : ByteArray) : Prop := ∃ f, fs[at_]? = some f ∧ s ∈ f.vars
theorem InV.mono {fs fs' : List Fn} (h : fs <+: fs') {at_ s} (v : InV fs at_ s) : InV fs' at_ s := by
  obtain ⟨f, h1, h2⟩ := v; exact ⟨f, pfx_get h h1, h2⟩
theorem varNo_in {fs : List Fn} {at_ : Nat} {s : ByteArray} (h : InV fs at_ s) : 0 ≤ varNo fs at_ s := by
  obtain ⟨f, h1, h2⟩ := h
  have h3 := ixS_mem s f.vars
  simp only [h2, decide_true, Option.isSome_iff_exists] at h3
  obtain ⟨i, hi⟩ := h3
  have : ((at_ : Int) + 1).toNat = at_ + 1 := by omega
  simp only [varNo, this, varF, Int.toNat_natCast, h1, hi]
  rw [if_neg (by omega)]
  omega
theorem withS_sub {l : List ByteArray} {s x : ByteArray} (h : x ∈ l) : x ∈ withS l s := by
  unfold withS; split
  · exact h
  · simp [h]
theorem withS_self (l : List ByteArray) (s : ByteArray) : s ∈ withS l s := by
  unfold withS; split
  · assumption
  · simp
theorem withS_ge (l : List ByteArray) (s : ByteArray) : l.length ≤ (withS l s).length := by
  unfold withS; split <;> simp
mutual
theorem decT_sub : ∀ (t : T) (out : List ByteArray) (x : ByteArray), x ∈ out → x ∈ decT t out
  | .mk op s n l y, out, x, h => by
    simp only [decT]
    have h1 : x ∈ (if isDec op = true then withS out s else out) := by split; exact withS_sub h; exact h
    split
    · exact h1
    · exact decL_sub l _ x h1
theorem decL_sub : ∀ (l : List T) (out : List ByteArray) (x : ByteArray), x ∈ out → x ∈ decL l out
  | [], out, x, h => h
  | t :: r, out, x, h => decL_sub r _ x (decT_sub t out x h)
end
mutual
theorem decT_ge : ∀ (t : T) (out : List ByteArray), out.length ≤ (decT t out).length
  | .mk op s n l y, out => by
    simp only [decT]
    have h1 : out.length ≤ (if isDec op = true then withS out s else out).length := by split; exact withS_ge _ _; exact Nat.le_refl _
    split
    · exact h1
    · exact Nat.le_trans h1 (decL_ge l _)
theorem decL_ge : ∀ (l : List T) (out : List ByteArray), out.length ≤ (decL l out).length
  | [], out => Nat.le_refl _
  | t :: r, out => Nat.le_trans (decT_ge t out) (decL_ge r _)
end
theorem params_sub : ∀ (l : List T) (o : List ByteArray) (x : ByteArray), (x ∈ o ∨ ∃ u ∈ l, u.s = x) → x ∈ l.foldl (fun o x => withS o x.s) o
  | [], o, x, h => by simpa using h
  | t :: r, o, x, h => by
    simp only [List.foldl_cons]
    refine params_sub r _ x ?_
    rcases h with h | ⟨u, hu, rfl⟩
    · exact .inl (withS_sub h)
    · rcases List.mem_cons.1 hu with rfl | hu
      · exact .inl (withS_self _ _)
      · exact .inr ⟨u, hu, rfl⟩
/-- What a function's record holds. -/
theorem fn_vars (op : Int) (s : ByteArray) (l : List T) (at_ : Int) (mark : Nat) : (∀ u ∈ l.dropLast, u.s ∈ (fnOf' op s l at_ mark).vars) ∧ (∃ out, (fnOf' op s l at_ mark).vars = decT (l.getLast?.getD default) out) ∧ (fnOf' op s l at_ mark).params ≤ (fnOf' op s l at_ mark).vars.length := by
  have h1 : ∀ x, x ∈ paramsOf l → x ∈ (fnOf' op s l at_ mark).vars := fun x hx => by
    simp only [fnOf']
    refine decT_sub _ _ _ ?_
    split
    · exact withS_sub hx
    · exact hx
  refine ⟨fun u hu => h1 _ (params_sub _ _ _ (.inr ⟨u, hu, rfl⟩)), ⟨_, rfl⟩, ?_⟩
  simp only [fnOf']
  refine Nat.le_trans ?_ (decT_ge _ _)
  split
  · exact withS_ge _ _
  · exact Nat.le_refl _
theorem WR.push {w : Wk} (h : WR w) (op : Int) (s : ByteArray) (l : List T) (at_ : Nat) (ha : at_ < w.fs.length) (hv : (fnOf' op s l at_ w.mark).vars.length ≤ 200) :
    WR { w with mark := w.mark + 2, fs := w.fs ++ [fnOf' op s l at_ w.mark] } := by
  have hp := (fn_vars op s l at_ w.mark).2.2
  refine ⟨by have := h.four; simp only; omega, fun i f e => ?_, fun i f g e1 e2 => ?_⟩
  · simp only at e ⊢
    rcases Nat.lt_trichotomy i w.fs.length with hi | hi | hi
    · rw [List.getElem?_append_left hi] at e
      obtain ⟨a, b, c, d, x, y⟩ := h.each i f e
      exact ⟨a, b, c, d, x, by omega⟩
    · subst hi
      simp at e
      subst e
      have := h.four
      exact ⟨by simp only [fnOf']; omega, by simp only [fnOf']; omega, fun _ => ⟨by simp only [fnOf']; omega, by simp only [fnOf']; omega⟩, hp, hv, by simp only [fnOf']; omega⟩
    · rw [List.getElem?_eq_none (by simp; omega)] at e; cases e
  · simp only at e1 e2
    rcases Nat.lt_trichotomy (i + 1) w.fs.length with hi | hi | hi
    · rw [List.getElem?_append_left (by omega)] at e1
      rw [List.getElem?_append_left hi] at e2
      exact h.rise i f g e1 e2
    · rw [List.getElem?_append_left (by omega)] at e1
      rw [hi] at e2
      simp at e2
      subst e2
      exact (h.each i f e1).2.2.2.2.2
    · rw [List.getElem?_eq_none (by simp; omega)] at e2; cases e2
mutual
theorem wT_good (at_ : Nat) (loop : Bool) : ∀ (t : T) (w : Wk), t.wf → WR w → at_ < w.fs.length → (∃ out, ∀ s ∈ decT t out, InV w.fs at_ s) → (wT at_ loop t w).2.e = 0 →
    WR (wT at_ loop t w).2 ∧ goodT (wT at_ loop t w).2.fs (wT at_ loop t w).1
  | .mk op s n l x, w, h, hw, ha, hd, he => by
    by_cases hwe : w.e ≠ 0
    · rw [wT_errL _ _ _ _ hwe] at he; exact absurd he hwe
    simp only [wT, if_neg hwe] at he ⊢
    split at he
    · rename_i hf
      rw [if_pos hf]
      split at he
      · exact absurd he (fail_e _ _ _ (by decide))
      · rename_i hlim
        rw [if_neg hlim]
        simp only [not_or, Nat.not_lt] at hlim
        have hv := fn_vars op s l at_ w.mark
        have hbd : ∃ out, ∀ y ∈ decT (l.getLast?.getD default) out, InV (w.fs ++ [fnOf' op s l at_ w.mark]) w.fs.length y := by
          obtain ⟨out, ho⟩ := hv.2.1
          exact ⟨out, fun y hy => ⟨fnOf' op s l at_ w.mark, by simp, by rw [ho]; exact hy⟩⟩
        have hr := wP_good w.fs.length l _ h.2.2.2.2 (h.2.1 hf).2 (hw.push op s l at_ ha hlim.2) (by simp) (fun u hu => ⟨fnOf' op s l at_ w.mark, by simp, hv.1 u hu⟩) (fun b hb => by rw [hb] at hbd; exact hbd) he
        refine ⟨hr.1, ?_⟩
        have hop : isVr op = false := by
          have : op = 10 ∨ op = 41 := by simp [isFn] at hf; omega
          rcases this with rfl | rfl <;> rfl
        refine ⟨by simp [hop], fun _ => ⟨by omega, fnOf' op s l at_ w.mark, ?_, rfl⟩, hr.2⟩
        exact pfx_get (wP_pfx w.fs.length l _) (by simp)
    · rename_i hf
      rw [if_neg hf]
      simp only at he ⊢
      have hqf := stepN_fs at_ loop op s n x w
      have hqm := stepN_mark at_ loop op s n x w
      have hwq : WR (stepN at_ loop op s n x w).2.2 := hw.more hqf (by rw [hqm]; split <;> omega)
      have hqe : (stepN at_ loop op s n x w).2.2.e = 0 := by
        refine Classical.byContradiction fun hc => ?_
        rw [wL_errL _ _ _ _ hc] at he; exact hc he
      have hdl : ∃ out, ∀ y ∈ decL l out, InV (stepN at_ loop op s n x w).2.2.fs at_ y := by
        obtain ⟨out, ho⟩ := hd
        simp only [decT, if_neg hf] at ho
        exact ⟨_, fun y hy => by rw [hqf]; exact ho y hy⟩
      have hr := wL_good at_ ((stepN at_ loop op s n x w).2.1 || decide (op = 35)) l _ h.2.2.2.2 hwq (by rw [hqf]; exact ha) hdl he
      refine ⟨hr.1, fun hv => ?_, fun hf' => absurd hf' hf, hr.2⟩
      have hp : w.fs <+: (wL at_ ((stepN at_ loop op s n x w).2.1 || decide (op = 35)) l (stepN at_ loop op s n x w).2.2).2.fs := by
        have := wL_pfx at_ ((stepN at_ loop op s n x w).2.1 || decide (op = 35)) l (stepN at_ loop op s n x w).2.2
        rw [hqf] at this; exact this
      refine VarOk.mono hp ?_
      by_cases h1 : op = 1
      · subst h1
        simp only [stepN, if_true] at hqe ⊢
        refine varNo_ok hw s _ (Classical.byContradiction fun hc => ?_)
        rw [if_pos (by omega)] at hqe
        exact fail_e _ _ _ (by decide) hqe
      · have h2 : op = 30 ∨ op = 35 ∨ op = 38 := by
          simp only [isVr, Bool.or_eq_true, decide_eq_true_eq] at hv; omega
        simp only [stepN, if_neg h1, if_pos h2]
        refine varNo_ok hw s _ (varNo_in ?_)
        obtain ⟨out, ho⟩ := hd
        refine ho s ?_
        simp only [decT, if_neg hf]
        refine decL_sub _ _ _ ?_
        have hdc : isDec op = true := by rcases h2 with rfl | rfl | rfl <;> rfl
        rw [if_pos hdc]
        exact withS_self _ _
theorem wL_good (at_ : Nat) (loop : Bool) : ∀ (l : List T) (w : Wk), T.wfL l → WR w → at_ < w.fs.length → (∃ out, ∀ s ∈ decL l out, InV w.fs at_ s) → (wL at_ loop l w).2.e = 0 →
    WR (wL at_ loop l w).2 ∧ goodL (wL at_ loop l w).2.fs (wL at_ loop l w).1
  | [], w, _, hw, _, _, _ => ⟨hw, trivial⟩
  | t :: r, w, h, hw, ha, hd, he => by
    simp only [wL] at he ⊢
    obtain ⟨out, ho⟩ := hd
    simp only [decL] at ho
    have he1 : (wT at_ loop t w).2.e = 0 := by
      refine Classical.byContradiction fun hc => ?_
      rw [wL_errL _ _ _ _ hc] at he; exact hc he
    have h1 := wT_good at_ loop t w h.1 hw ha ⟨out, fun y hy => ho y (decL_sub _ _ _ hy)⟩ he1
    have hp := wT_pfx at_ loop t w
    have h2 := wL_good at_ loop r _ h.2 h1.1 (Nat.lt_of_lt_of_le ha hp.length_le) ⟨_, fun y hy => (ho y hy).mono hp⟩ he
    exact ⟨h2.1, goodT.mono (wL_pfx at_ loop r _) _ h1.2, h2.2⟩
theorem wP_good (me : Nat) : ∀ (l : List T) (w : Wk), T.wfL l → (∀ u ∈ l.dropLast, u.op = 1) → WR w → me < w.fs.length → (∀ u ∈ l.dropLast, InV w.fs me u.s) → (∀ b, l.getLast?.getD default = b → ∃ out, ∀ s ∈ decT b out, InV w.fs me s) → (wP me l w).2.e = 0 →
    WR (wP me l w).2 ∧ goodL (wP me l w).2.fs (wP me l w).1
  | [], w, _, _, hw, _, _, _, _ => ⟨hw, trivial⟩
  | [t], w, h, _, hw, ha, _, hd, he => by
    simp only [wP] at he ⊢
    have h1 := wT_good me false t w h.1 hw ha (hd t rfl) he
    exact ⟨h1.1, h1.2, trivial⟩
  | t :: u :: r, w, h, hp, hw, ha, hv, hd, he => by
    simp only [wP] at he ⊢
    have h2 := wP_good me (u :: r) w h.2 (fun v hm => hp v (by simp [hm])) hw ha (fun v hm => hv v (by simp [hm])) (fun b hb => hd b (by simpa using hb)) he
    refine ⟨h2.1, ?_, h2.2⟩
    have h1 : t.op = 1 := hp t (by simp)
    have hs := hv t (by simp)
    have hwf := h.1
    obtain ⟨op, s, n, l, x⟩ := t
    simp only [T.op_mk] at h1
    subst h1
    have hl : l = [] := hwf.2.2.2.1.2 rfl
    subst hl
    refine ⟨fun _ => ?_, fun hf => by simp [isFn] at hf, trivial⟩
    exact (varNo_ok hw s _ (varNo_in hs)).mono (wP_pfx me (u :: r) w)
end
theorem WR.init (v : List ByteArray) (hv : v.length ≤ 200) : WR { fs := [{ around := -1, name := ⟨#[]⟩, params := 0, vars := v, mark := 0 }], mark := 4, e := 0, line := 0 } := by
  refine ⟨Nat.le_refl _, fun i f e => ?_, fun i f g e1 e2 => by simp at e2⟩
  rcases i with _ | i
  · simp at e; subst e
    exact ⟨by simp, by simp, by simp, by simp, hv, by simp⟩
  · simp at e
theorem resolve_good (t : T) (h : (resolve t).2.2.2 = 0) : goodT (resolve t).1 (resolve t).2.1 ∧
    (∀ (i : Nat) (f : Fn), (resolve t).1[i]? = some f → f.around < i ∧ (0 < i → 0 ≤ f.around ∧ 4 ≤ f.mark) ∧ f.params ≤ f.vars.length ∧ f.vars.length ≤ 200) ∧
    (∀ (i : Nat) (f g : Fn), (resolve t).1[i]? = some f → (resolve t).1[i + 1]? = some g → f.mark < g.mark) ∧ 0 < (resolve t).1.length := by
  obtain ⟨hr, hl, w, hw, he, hres⟩ := resolve_ok t h
  have hwr : WR w := by rw [hw]; exact WR.init _ hl
  have ha : 0 < w.fs.length := by rw [hw]; simp
  have hg := wT_good 0 false t w (right_wf hr) hwr ha ⟨[], fun s hs => ⟨_, by rw [hw]; rfl, hs⟩⟩ he
  have hp := (wT_pfx 0 false t w).length_le
  rw [hres]
  refine ⟨hg.2, fun i f e => ?_, hg.1.rise, by simp only; omega⟩
  obtain ⟨a, b, c, d, x, y⟩ := hg.1.each i f e
  exact ⟨a, c, d, x⟩
/-! ### Marks -/
mutual
def flatT : T → List T
  | .mk op s n l x => .mk op s n l x :: flatL l
def flatL : List T → List T
  | [] => []
  | t :: r => flatT t ++ flatL r
end
def isMk (op : Int) : Bool := decide (op = 11) || decide (op = 16) || decide (op = 15)
/-- The mark behind a tree, if its own is the one that is due. -/
def mkN (fs : List Fn) (t : T) (m : Int) : Option Int :=
  if isMk t.op then (if t.n = m then some (m + 1) else none)
  else if isFn t.op then (if 1 ≤ t.n ∧ ((fs[t.n.toNat]?).map fun f => (f.mark : Int)) = some m then some (m + 2) else none)
  else some m
def mkF (fs : List Fn) : List T → Int → Option Int
  | [], m => some m
  | t :: r, m => (mkN fs t m).bind (mkF fs r)
theorem mkF_append (fs : List Fn) : ∀ (a b : List T) (m : Int), mkF fs (a ++ b) m = (mkF fs a m).bind (mkF fs b)
  | [], b, m => rfl
  | t :: r, b, m => by
    simp only [List.cons_append, mkF]
    cases mkN fs t m with
    | none => rfl
    | some m' => simp only [Option.bind_some, mkF_append fs r b]
mutual
theorem wT_marks (fs : List Fn) (at_ : Nat) (loop : Bool) : ∀ (t : T) (w : Wk), t.wf → 0 < w.fs.length → (wT at_ loop t w).2.e = 0 → (wT at_ loop t w).2.fs <+: fs → mkF fs (flatT (wT at_ loop t w).1) w.mark = some ((wT at_ loop t w).2.mark : Int)
  | .mk op s n l x, w, h, ha, he, hp => by
    by_cases hwe : w.e ≠ 0
    · rw [wT_errL _ _ _ _ hwe] at he; exact absurd he hwe
    simp only [wT, if_neg hwe] at he hp ⊢
    split at he
    · rename_i hf
      rw [if_pos hf] at hp ⊢
      split at he
      · exact absurd he (fail_e _ _ _ (by decide))
      · rename_i hlim
        rw [if_neg hlim] at hp ⊢
        simp only at hp ⊢
        have hop : isMk op = false := by
          have : op = 10 ∨ op = 41 := by simp [isFn] at hf; omega
          rcases this with rfl | rfl <;> rfl
        have hget : fs[w.fs.length]? = some (fnOf' op s l at_ w.mark) := pfx_get ((wP_pfx w.fs.length l _).trans hp) (by simp)
        have hm : (fnOf' op s l at_ w.mark).mark = w.mark := rfl
        have hr := wP_marks fs w.fs.length l _ h.2.2.2.2 (h.2.1 hf).2 (by simp) he hp
        simp only [flatT, mkF, mkN, T.op_mk, T.n_mk, hop, hf, Bool.false_eq_true, if_false, if_true, Int.toNat_natCast, hget, Option.map_some, hm]
        rw [if_pos ⟨by omega, trivial⟩, Option.bind_some, ← hr]
        simp
    · rename_i hf
      rw [if_neg hf] at hp ⊢
      simp only at he hp ⊢
      have hqf := stepN_fs at_ loop op s n x w
      have hqm := stepN_mark at_ loop op s n x w
      have hr := wL_marks fs at_ ((stepN at_ loop op s n x w).2.1 || decide (op = 35)) l _ h.2.2.2.2 (by rw [hqf]; exact ha) he hp
      simp only [flatT, mkF, mkN, T.op_mk, T.n_mk, hf, Bool.false_eq_true, if_false]
      by_cases hk : op = 11 ∨ op = 16 ∨ op = 15
      · have hk' : isMk op = true := by rcases hk with rfl | rfl | rfl <;> rfl
        have hn : (stepN at_ loop op s n x w).1 = w.mark := by
          have h1 : ¬ op = 1 := by omega
          have h2 : ¬ (op = 30 ∨ op = 35 ∨ op = 38) := by omega
          simp only [stepN, if_neg h1, if_neg h2, if_pos hk]
        rw [if_pos hk] at hqm
        simp only [hk', if_true, hn, Option.bind_some]
        rw [← hr, hqm]
        simp
      · have hk' : isMk op = false := by simp only [isMk, Bool.or_eq_false_iff, decide_eq_false_iff_not]; omega
        rw [if_neg hk] at hqm
        rw [if_neg (by simp [hk']), Option.bind_some, ← hr, hqm]
theorem wL_marks (fs : List Fn) (at_ : Nat) (loop : Bool) : ∀ (l : List T) (w : Wk), T.wfL l → 0 < w.fs.length → (wL at_ loop l w).2.e = 0 → (wL at_ loop l w).2.fs <+: fs → mkF fs (flatL (wL at_ loop l w).1) w.mark = some ((wL at_ loop l w).2.mark : Int)
  | [], w, _, _, _, _ => rfl
  | t :: r, w, h, ha, he, hp => by
    simp only [wL] at he hp ⊢
    have he1 : (wT at_ loop t w).2.e = 0 := by
      refine Classical.byContradiction fun hc => ?_
      rw [wL_errL _ _ _ _ hc] at he; exact hc he
    have h1 := wT_marks fs at_ loop t w h.1 ha he1 ((wL_pfx at_ loop r _).trans hp)
    have h2 := wL_marks fs at_ loop r _ h.2 (Nat.lt_of_lt_of_le ha (wT_pfx at_ loop t w).length_le) he hp
    simp only [flatL, mkF_append, h1, Option.bind_some, h2]
theorem wP_marks (fs : List Fn) (me : Nat) : ∀ (l : List T) (w : Wk), T.wfL l → (∀ u ∈ l.dropLast, u.op = 1) → 0 < w.fs.length → (wP me l w).2.e = 0 → (wP me l w).2.fs <+: fs → mkF fs (flatL (wP me l w).1) w.mark = some ((wP me l w).2.mark : Int)
  | [], w, _, _, _, _, _ => rfl
  | [t], w, h, _, ha, he, hp => by
    simp only [wP] at he hp ⊢
    have h1 := wT_marks fs me false t w h.1 ha he hp
    simp only [flatL, List.append_nil, h1]
  | t :: u :: r, w, h, hpar, ha, he, hp => by
    simp only [wP] at he hp ⊢
    have h2 := wP_marks fs me (u :: r) w h.2 (fun v hm => hpar v (by simp [hm])) ha he hp
    have h1 : t.op = 1 := hpar t (by simp)
    have hwf := h.1
    obtain ⟨op, s, n, l, x⟩ := t
    simp only [T.op_mk] at h1
    subst h1
    have hl : l = [] := hwf.2.2.2.1.2 rfl
    subst hl
    have e1 : ∀ v, mkF fs (flatT ((T.mk 1 s n [] x).setN v)) w.mark = some (w.mark : Int) := fun v => rfl
    simp only [flatL, mkF_append, e1, Option.bind_some, h2]
end
theorem resolve_marks (t : T) (h : (resolve t).2.2.2 = 0) : ∃ m, mkF (resolve t).1 (flatT (resolve t).2.1) 4 = some m := by
  obtain ⟨hr, hl, w, hw, he, hres⟩ := resolve_ok t h
  have hm : w.mark = 4 := by rw [hw]
  have := wT_marks (wT 0 false t w).2.fs 0 false t w (right_wf hr) (by rw [hw]; simp) he List.prefix_rfl
  rw [hres]
  rw [hm] at this
  exact ⟨_, this⟩
end Go.Proofs.YP
/- PURE: scopes: Flat (31); the law ScopeMarks (10). -/
set_option linter.unusedVariables false
set_option linter.unusedSimpArgs false
namespace Go.Proofs.YP
open Go
mutual
theorem flat_wt : ∀ t : T, (flatT t).length ≤ t.wt
  | .mk op s n l x => by
    have := flat_wtL l
    simp only [flatT, T.wt, List.length_cons]; omega
theorem flat_wtL : ∀ l : List T, (flatL l).length ≤ T.wtL l
  | [] => by simp [flatL, T.wtL]
  | t :: r => by
    have := flat_wt t
    have := flat_wtL r
    simp only [flatL, T.wtL, List.length_append]; omega
end
theorem flat_ne (t : T) : flatT t ≠ [] := by cases t; simp [flatT]
theorem flat_take : ∀ (l : List T) (i : Nat) (t : T), l[i]? = some t → (flatL (l.take (i + 1))) = flatL (l.take i) ++ flatT t
  | [], i, t, h => by simp at h
  | a :: r, 0, t, h => by simp at h; subst h; simp [flatL]
  | a :: r, i + 1, t, h => by
    have := flat_take r i t (by simpa using h)
    simp only [List.take_succ_cons, flatL, this, List.append_assoc]
/-- Parts more. -/
theorem AccT.apps {E : Env} {H : List ABlk} {m : Nat} {I : List (Nat × Nat)} {ts : List T} {v : AV} (h : AccT m I ts v) (hr : E.rom ≤ m) (hne : ts ≠ []) (us : List T) (hl : ts.length + us.length ≤ 100000000000) :
    ∃ v' I', appA E ⟨H, I⟩ 5 64 v (.sl none us.length (T.encL us)) = some (v', ⟨H, I'⟩) ∧ AccT m I' (ts ++ us) v' ∧ IOld m I I' := by
  have h1 := T.encL_length us
  have h2 := T.encL_one us
  rcases h with ⟨rfl, rfl⟩ | ⟨j, rfl, hj, hi⟩
  · exact absurd rfl hne
  · refine ⟨.sl (some j) (ts.length + us.length) (T.encL ts ++ T.encL us), I.set j (ts.length + us.length, 5), ?_, .inr ⟨j, by simp [T.encL_append], hj, ?_⟩, by simp, fun q x hq e => ?_⟩
    · have hj1 : E.rom ≤ j := by omega
      have hb1 : (ts.length + us.length) * 64 ≤ 70368744177664 := by omega
      have hb2 : ts.length + us.length ≤ 70368744177664 := by omega
      simp only [appA, srcA, h1, decide_true, h2, Bool.and_self, guardb_true, obind_some, T.encL_fin, hj1, hi, T.encL_length, hb1, hb2]
    · rw [List.getElem?_set_self (List.getElem?_eq_some_iff.1 hi).1]; simp
    · rw [List.getElem?_set_ne (by omega)]; exact e
set_option maxHeartbeats 2000000 in
theorem f31 (n : Nat) : ∀ t : T, t.wt ≤ n → t.wt ≤ 100000000000 → ∀ k, n + 2 ≤ k → PureC k 31 [.agg t.enc] (.sl none (flatT t).length (T.encL (flatT t))) := by
  induction n with
  | zero => intro t h; cases t; simp [T.wt] at h
  | succ n ih =>
    intro t ht htm k hk E st hE
    obtain ⟨k, rfl⟩ : ∃ k', k = k' + 1 := ⟨k - 1, by omega⟩
    obtain ⟨op, s0, nn, l, line⟩ := t
    simp only [T.wt] at ht htm
    have hlw := T.len_wtL l
    have hrom := hE.rom
    have hgoal : flatT (.mk op s0 nn l line) = .mk op s0 nn l line :: flatL l := rfl
    rw [hgoal]
    refine call_in1 rfl rfl (by decide) fun s hs e0 => ?_
    simp [hs, e0, fillA, wrC]
    refine WP_loop (fun n s m st' => ∃ (j : Nat) (v : AV) (I' : List (Nat × Nat)), j ≤ l.length ∧ n = l.length - j ∧ s.length = 23 ∧ m = [] ∧ lk s 1 = .ptr st.H.length 0 ∧ lk s 3 = v ∧ lk s 4 = .int .i64 j ∧
      st' = ⟨st.H ++ [.cells 24 [.int .i64 op, .str s0, .int .i64 nn, .sl none l.length (T.encL l), .int .i64 line]], I'⟩ ∧ AccT st.I.length I' (.mk op s0 nn l line :: flatL (l.take j)) v ∧ IOld st.I.length st.I I') l.length (by omega)
      ⟨0, .sl (some st.I.length) 1 [.int .i64 op, .str s0, .int .i64 nn, .sl none l.length (T.encL l), .int .i64 line], st.I ++ [(1, 5)], by omega, by omega, by simp [hs], rfl, by simp [hs], by simp [hs], by simp [hs], rfl, .inr ⟨st.I.length, by simp [flatL], Nat.le_refl _, by simp [flatL]⟩, .push _ _ _⟩ ?_
    clear hs e0 s
    rintro _ s m _ ⟨j, v, I', hj, rfl, hs, rfl, e1, e3, e4, rfl, hac, hio⟩
    have hil := hio.len
    by_cases hc : j < l.length
    · obtain ⟨t, hg⟩ : ∃ t, l[j]? = some t := ⟨_, List.getElem?_eq_getElem hc⟩
      have hrd := T.rd hg
      have hwj := wrap64 (n := (j : Int) + 1) (by omega)
      have hwt := T.wtL_get hg
      have hsp := wtL_split hg
      have hf1 := flat_wtL (l.take j)
      have hf2 := flat_wt t
      have c31 := (ih t (by omega) (by omega) k (by omega)).full (E := E) (st := ⟨st.H ++ [.cells 24 [.int .i64 op, .str s0, .int .i64 nn, .sl none l.length (T.encL l), .int .i64 line]], I'⟩) (by simp) (hE.of (by simp) hil)
      obtain ⟨v', I2, happ, hac2, hio2⟩ := hac.apps (E := E) (H := st.H ++ [.cells 24 [.int .i64 op, .str s0, .int .i64 nn, .sl none l.length (T.encL l), .int .i64 line]]) hrom (by simp) (flatT t) (by simp; omega)
      rw [List.cons_append, ← flat_take l j t hg] at hac2
      rw [T.enc_eq] at hrd
      rw [T.enc_eq t] at c31
      simp [hs, e1, e3, e4, hc, hrd, c31]
      simp [hs, e3, e4, happ, hwj]
      exact ⟨_, by omega, j + 1, v', I2, by omega, rfl, by simp [hs], rfl, by simp [hs, e1], by simp [hs], by simp [hs], rfl, hac2, hio.trans hio2⟩
    · have hjl : l.take j = l := List.take_of_length_le (by omega)
      rw [hjl] at hac
      have hvf := hac.fin st.I.length (Nat.le_refl _)
      simp [hs, e1, e3, e4, hc]
      exact ⟨⟨List.prefix_append _ _, hio.pfx⟩, by simpa using hvf⟩
theorem encFs_cell : ∀ (fs : List Fn) (i : Nat) (f : Fn), fs[i]? = some f → ∀ j, j < 5 → (encFs fs)[i * 5 + j]? = f.enc[j]?
  | [], i, f, h, j, hj => by simp at h
  | a :: r, 0, f, h, j, hj => by
    simp at h; subst h
    rw [encFs_cons, Nat.zero_mul, Nat.zero_add, List.getElem?_append_left (by simpa [Fn.enc] using hj)]
  | a :: r, i + 1, f, h, j, hj => by
    have hl : a.enc.length = 5 := rfl
    rw [encFs_cons, List.getElem?_append_right (by omega), hl, show (i + 1) * 5 + j - 5 = i * 5 + j by omega]
    exact encFs_cell r i f (by simpa using h) j hj
theorem mkN_le (fs : List Fn) (t : T) (m m' : Int) (h : mkN fs t m = some m') : m ≤ m' ∧ m' ≤ m + 2 := by
  unfold mkN at h
  split at h
  · split at h
    · cases h; omega
    · cases h
  · split at h
    · split at h
      · cases h; omega
      · cases h
    · cases h; omega
theorem mkN_mk {fs : List Fn} {t : T} {m m' : Int} (h : mkN fs t m = some m') (ho : isMk t.op = true) : t.n = m ∧ m' = m + 1 := by
  unfold mkN at h
  rw [if_pos ho] at h
  split at h
  · rename_i e; cases h; exact ⟨e, rfl⟩
  · cases h
theorem mkN_fn {fs : List Fn} {t : T} {m m' : Int} (h : mkN fs t m = some m') (h1 : isMk t.op = false) (ho : isFn t.op = true) : 1 ≤ t.n ∧ (∃ f, fs[t.n.toNat]? = some f ∧ (f.mark : Int) = m) ∧ m' = m + 2 := by
  unfold mkN at h
  rw [if_neg (by simp [h1]), if_pos ho] at h
  split at h
  · rename_i e
    cases h
    obtain ⟨a, b⟩ := e
    obtain ⟨f, hf, he⟩ := Option.map_eq_some_iff.1 b
    exact ⟨a, ⟨f, hf, he⟩, rfl⟩
  · cases h
theorem mkN_no {fs : List Fn} {t : T} {m m' : Int} (h : mkN fs t m = some m') (h1 : isMk t.op = false) (ho : isFn t.op = false) : m' = m := by
  unfold mkN at h
  rw [if_neg (by simp [h1]), if_neg (by simp [ho])] at h
  cases h; rfl
set_option maxHeartbeats 4000000 in
set_option maxRecDepth 20000 in
theorem f10 (t : T) (ht : t.ok) (hw : t.wt ≤ 4000000000) (k : Nat) (hk : 5 * t.wt + 2000000 ≤ k) (E : Env) (st : St) (hE : E.Wf st)
    (h18 : ∀ y, doCall (aCall prog k) E .full (.fn 18) [] ⟨st.H ++ [y], st.I⟩ = some (.ok (.bool true), ⟨st.H ++ [y], st.I⟩)) : CallQ (k + 1) E 10 [.agg t.enc] st (Tru st) := by
  have hmw := mayWrite_new hE
  have hcw := count_wt t
  have c19 := fun st3 (h : E.Wf st3) => (f19 t k (by omega)).full (E := E) (st := st3) rfl h
  have hrr : (resV (resolve t)).refs = [] := by simp [resV, encFs_refs, T.enc_refs]
  have c20 := fun st3 (h : E.Wf st3) => (f20 t ht hw k (by omega)).full (E := E) (st := st3) hrr h
  have hwt : (resolve t).2.1.wt ≤ t.wt := resolve_wt t
  have c31 := fun st3 (h : E.Wf st3) => (f31 _ (resolve t).2.1 (Nat.le_refl _) (by omega) k (by omega)).full (E := E) (st := st3) (by simp) h
  have hmk := resolve_marks t
  obtain ⟨op, s0, nn, l, line⟩ := t
  generalize resolve (.mk op s0 nn l line) = R at *
  obtain ⟨fs, t', x, y⟩ := R
  simp only at hmk hwt
  have hfw := flat_wt t'
  simp only [T.enc, resV] at c19 c20 c31
  rw [T.enc_eq t'] at c20 c31
  refine call_in1 rfl rfl (by decide) fun s hs e0 => ?_
  have hE1 : ∀ y, E.Wf ⟨st.H ++ y, st.I⟩ := fun y => hE.of (by simp) (by simp)
  by_cases h : szT 1500 (.mk op s0 nn l line) < 0
  · simp [hs, e0, h18, c19 _ (hE1 _), h]
    exact .of (Grow.appH _ _)
  by_cases hy : y = 0
  rotate_left
  · simp [hs, e0, h18, c19 _ (hE1 _), h, c20 _ (hE1 _), storeA, hmw, wrC, hy]
    exact .of (Grow.appH _ _)
  obtain ⟨M, hM⟩ := hmk hy
  subst hy
  simp [hs, e0, h18, c19 _ (hE1 _), h, c20 _ (hE1 _), storeA, hmw, wrC]
  simp [hs, c31 _ (hE1 _)]
  generalize flatT t' = F at hM hfw ⊢
  refine WP_loop (fun n s m st' => ∃ (j : Nat) (z : Int), j ≤ F.length ∧ n = F.length - j ∧ s.length = 87 ∧ m = [] ∧ lk s 3 = .bool true ∧ lk s 4 = .sl none fs.length (encFs fs) ∧ lk s 8 = .int .i64 z ∧ lk s 9 = .sl none F.length (T.encL F) ∧ lk s 10 = .int .i64 j ∧
    st' = ⟨st.H ++ [.cells 24 [.int .i64 op, .str s0, .int .i64 nn, .sl none l.length (T.encL l), .int .i64 line], .cells 24 [.int .i64 t'.op, .str t'.s, .int .i64 t'.n, .sl none t'.l.length (T.encL t'.l), .int .i64 t'.line]], st.I⟩ ∧ 4 ≤ z ∧ z ≤ 4 + 2 * j ∧ mkF fs (F.drop j) z = some M) F.length (by omega)
    ⟨0, 4, by omega, by omega, by simp [hs], rfl, by simp [hs], by simp [hs], by simp [hs], by simp [hs], by simp [hs], rfl, by omega, by omega, hM⟩ ?_
  clear hs e0 s hM
  rintro _ s m _ ⟨j, z, hj, rfl, hs, rfl, e3, e4, e8, e9, e10, rfl, hz1, hz2, hM⟩
  by_cases hc : j < F.length
  rotate_left
  · simp [hs, e3, e9, e10, hc]
    exact .of (Grow.appH _ _)
  obtain ⟨u, hg⟩ : ∃ u, F[j]? = some u := ⟨_, List.getElem?_eq_getElem hc⟩
  have hwj := wrap64 (n := (j : Int) + 1) (by omega)
  rw [T.drop_cons hg, mkF] at hM
  obtain ⟨z', hz', hM'⟩ := Option.bind_eq_some_iff.1 hM
  have hle := mkN_le _ _ _ _ hz'
  have hcell := fun hh => T.g_op hg hh
  have hcelln := fun hh => T.g_n hg hh
  have hopq : (T.encL F)[j * 5]? = some (.int .i64 u.op) := by have := T.cell0 hg; rw [T.enc_eq] at this; exact this
  have hnq : (T.encL F)[j * 5 + 2]? = some (.int .i64 u.n) := by have := T.cell hg 2 (by omega); rw [T.enc_eq] at this; exact this
  have hb0 : j * 5 < F.length * 5 := by omega
  have hb2 : j * 5 + 2 < F.length * 5 := by omega
  have fin : ∀ (z'' : Int) (s' : List AV), s'.length = 87 → lk s' 3 = .bool true → lk s' 4 = .sl none fs.length (encFs fs) → lk s' 8 = .int .i64 z' → lk s' 9 = .sl none F.length (T.encL F) → lk s' 10 = .int .i64 ((j : Int) + 1) →
    ∃ n', n' < F.length - j ∧ ∃ (j' : Nat) (z : Int), j' ≤ F.length ∧ n' = F.length - j' ∧ s'.length = 87 ∧ ([] : List Nat) = [] ∧ lk s' 3 = .bool true ∧ lk s' 4 = .sl none fs.length (encFs fs) ∧ lk s' 8 = .int .i64 z ∧ lk s' 9 = .sl none F.length (T.encL F) ∧ lk s' 10 = .int .i64 j' ∧
    (⟨st.H ++ [.cells 24 [.int .i64 op, .str s0, .int .i64 nn, .sl none l.length (T.encL l), .int .i64 line], .cells 24 [.int .i64 t'.op, .str t'.s, .int .i64 t'.n, .sl none t'.l.length (T.encL t'.l), .int .i64 t'.line]], st.I⟩ : St) = ⟨st.H ++ [.cells 24 [.int .i64 op, .str s0, .int .i64 nn, .sl none l.length (T.encL l), .int .i64 line], .cells 24 [.int .i64 t'.op, .str t'.s, .int .i64 t'.n, .sl none t'.l.length (T.encL t'.l), .int .i64 t'.line]], st.I⟩ ∧ 4 ≤ z ∧ z ≤ 4 + 2 * j' ∧ mkF fs (F.drop j') z = some M := fun _ s' a b c d e f =>
    ⟨_, by omega, j + 1, z', by omega, rfl, a, rfl, b, c, d, e, by simpa using f, rfl, by omega, by omega, hM'⟩
  have mk1 := mkN_mk hz'
  have mk2 := mkN_fn hz'
  have mk3 := mkN_no hz'
  obtain ⟨uop, us, un, ul, ux⟩ := u
  simp only [T.op_mk, T.n_mk] at hcell hcelln hopq hnq mk1 mk2 mk3
  have hw1 := wrap64 (n := z + 1) (by omega)
  have hw2 := wrap64 (n := z + 2) (by omega)
  by_cases o11 : uop = 11
  · obtain ⟨rfl, rfl⟩ := mk1 (by rw [o11]; rfl)
    subst o11
    simp [hs, e3, e4, e8, e9, e10, hc, hopq, hcell, hnq, hcelln, hb0, hb2, hw1]
    simp [hs, e10, hwj]
    exact fin 0 _ (by simp [hs]) (by simp [hs, e3]) (by simp [hs, e4]) (by simp [hs]) (by simp [hs, e9]) (by simp [hs])
  by_cases o15 : uop = 15
  · obtain ⟨rfl, rfl⟩ := mk1 (by rw [o15]; rfl)
    subst o15
    simp [hs, e3, e4, e8, e9, e10, hc, hopq, hcell, hnq, hcelln, hb0, hb2, hw1]
    simp [hs, e10, hwj]
    exact fin 0 _ (by simp [hs]) (by simp [hs, e3]) (by simp [hs, e4]) (by simp [hs]) (by simp [hs, e9]) (by simp [hs])
  by_cases o16 : uop = 16
  · obtain ⟨rfl, rfl⟩ := mk1 (by rw [o16]; rfl)
    subst o16
    simp [hs, e3, e4, e8, e9, e10, hc, hopq, hcell, hnq, hcelln, hb0, hb2, hw1]
    simp [hs, e10, hwj]
    exact fin 0 _ (by simp [hs]) (by simp [hs, e3]) (by simp [hs, e4]) (by simp [hs]) (by simp [hs, e9]) (by simp [hs])
  have hnm : isMk uop = false := by simp [isMk, o11, o15, o16]
  have fnc : isFn uop = true → ∃ f : Fn, un < fs.length ∧ 1 ≤ un ∧ (encFs fs)[un.toNat * 5 + 4]? = some (.int .i64 z) ∧ z' = z + 2 := fun hf => by
    obtain ⟨a, ⟨f, b, c⟩, d⟩ := mk2 hnm hf
    have hl := (List.getElem?_eq_some_iff.1 b).1
    have := encFs_at b 4 (by omega)
    refine ⟨f, by omega, a, ?_, d⟩
    rw [this, ← c]; rfl
  by_cases o10 : uop = 10
  · obtain ⟨f, h1, h2, h3, rfl⟩ := fnc (by rw [o10]; rfl)
    subst o10
    have n1 : ¬ un < 1 := by omega
    have n2 : ¬ (fs.length : Int) ≤ un := by omega
    have n3 : 0 ≤ un := by omega
    simp [hs, e3, e4, e8, e9, e10, hc, hopq, hcell, hnq, hcelln, hb0, hb2, n1, n2, n3, h1, h3, hw2]
    simp [hs, e10, hwj]
    exact fin 0 _ (by simp [hs]) (by simp [hs, e3]) (by simp [hs, e4]) (by simp [hs]) (by simp [hs, e9]) (by simp [hs])
  by_cases o41 : uop = 41
  · obtain ⟨f, h1, h2, h3, rfl⟩ := fnc (by rw [o41]; rfl)
    subst o41
    have n1 : ¬ un < 1 := by omega
    have n2 : ¬ (fs.length : Int) ≤ un := by omega
    have n3 : 0 ≤ un := by omega
    simp [hs, e3, e4, e8, e9, e10, hc, hopq, hcell, hnq, hcelln, hb0, hb2, n1, n2, n3, h1, h3, hw2]
    simp [hs, e10, hwj]
    exact fin 0 _ (by simp [hs]) (by simp [hs, e3]) (by simp [hs, e4]) (by simp [hs]) (by simp [hs, e9]) (by simp [hs])
  have hz3 := mk3 hnm (by simp [isFn, o10, o41])
  subst hz3
  simp [hs, e3, e4, e8, e9, e10, hc, hopq, hcell, hnq, hcelln, hb0, hb2, o11, o15, o16, o10, o41]
  simp [hs, e10, hwj]
  exact fin 0 _ (by simp [hs]) (by simp [hs, e3]) (by simp [hs, e4]) (by simp [hs, e8]) (by simp [hs, e9]) (by simp [hs])
theorem says10 (t : T) (ht : t.ok) (hw : t.wt ≤ 1048576) : Says 10 [.agg t.enc] :=
  says_of (f10 t ht (by omega) (5 * t.wt + 2000000) (Nat.le_refl _) E0 ⟨[], []⟩ wf0 (fun y => k18at (by omega) y))
end Go.Proofs.YP
