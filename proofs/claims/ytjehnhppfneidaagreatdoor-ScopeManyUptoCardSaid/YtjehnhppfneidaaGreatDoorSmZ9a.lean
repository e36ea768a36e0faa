/- Closed, reckoned by the kernel: Prog (24) of shown's first text, from the empty heap. -/
import Derived.Test.YtjehnhppfneidaaGreatDoorSmh
set_option linter.unusedVariables false
namespace Go.Proofs.YP
open Go
theorem k24cF : doCall (aCallF 400) { base := 0, rob := 0, rom := 0 } .full (.fn 24) [.str ⟨#[118, 97, 114, 32, 97, 59, 32, 102, 117, 110, 99, 116, 105, 111, 110, 32, 102, 40, 98, 41, 32, 123, 32, 114, 101, 116, 117, 114, 110, 32, 97, 32, 43, 32, 98, 59, 32, 125]⟩] ⟨[], []⟩ = some (.ok (.agg [.int .i64 32, .str ⟨#[]⟩, .int .i64 0, .sl none 2 [.int .i64 30, .str ⟨#[97]⟩, .int .i64 0, .sl none 0 [], .int .i64 1, .int .i64 41, .str ⟨#[102]⟩, .int .i64 0, .sl none 2 [.int .i64 1, .str ⟨#[98]⟩, .int .i64 0, .sl none 0 [], .int .i64 1, .int .i64 32, .str ⟨#[]⟩, .int .i64 0, .sl none 1 [.int .i64 36, .str ⟨#[]⟩, .int .i64 0, .sl none 1 [.int .i64 18, .str ⟨#[43]⟩, .int .i64 0, .sl none 2 [.int .i64 1, .str ⟨#[97]⟩, .int .i64 0, .sl none 0 [], .int .i64 1, .int .i64 1, .str ⟨#[98]⟩, .int .i64 0, .sl none 0 [], .int .i64 1], .int .i64 1], .int .i64 1], .int .i64 1], .int .i64 1], .int .i64 1]), ⟨[], []⟩) := by kernel_rfl
theorem k24c : doCall (aCall prog 400) { base := 0, rob := 0, rom := 0 } .full (.fn 24) [.str ⟨#[118, 97, 114, 32, 97, 59, 32, 102, 117, 110, 99, 116, 105, 111, 110, 32, 102, 40, 98, 41, 32, 123, 32, 114, 101, 116, 117, 114, 110, 32, 97, 32, 43, 32, 98, 59, 32, 125]⟩] ⟨[], []⟩ = some (.ok (.agg [.int .i64 32, .str ⟨#[]⟩, .int .i64 0, .sl none 2 [.int .i64 30, .str ⟨#[97]⟩, .int .i64 0, .sl none 0 [], .int .i64 1, .int .i64 41, .str ⟨#[102]⟩, .int .i64 0, .sl none 2 [.int .i64 1, .str ⟨#[98]⟩, .int .i64 0, .sl none 0 [], .int .i64 1, .int .i64 32, .str ⟨#[]⟩, .int .i64 0, .sl none 1 [.int .i64 36, .str ⟨#[]⟩, .int .i64 0, .sl none 1 [.int .i64 18, .str ⟨#[43]⟩, .int .i64 0, .sl none 2 [.int .i64 1, .str ⟨#[97]⟩, .int .i64 0, .sl none 0 [], .int .i64 1, .int .i64 1, .str ⟨#[98]⟩, .int .i64 0, .sl none 0 [], .int .i64 1], .int .i64 1], .int .i64 1], .int .i64 1], .int .i64 1], .int .i64 1]), ⟨[], []⟩) := by
  have h := k24cF
  rw [aCallF_eq] at h
  exact h
end Go.Proofs.YP
/- Closed, reckoned by the kernel: Prog (24) of shown's second text, from a heap of one block. -/
set_option linter.unusedVariables false
namespace Go.Proofs.YP
open Go
theorem k24dF : (fun Y : ABlk => doCall (aCallF 400) { base := 0, rob := 0, rom := 0 } .full (.fn 24) [.str ⟨#[118, 97, 114, 32, 97, 10, 120]⟩] ⟨[Y], []⟩) = fun Y : ABlk => some (.ok (.agg [.int .i64 32, .str ⟨#[]⟩, .int .i64 0, .sl none 2 [.int .i64 30, .str ⟨#[97]⟩, .int .i64 0, .sl none 0 [], .int .i64 1, .int .i64 31, .str ⟨#[]⟩, .int .i64 0, .sl none 1 [.int .i64 1, .str ⟨#[120]⟩, .int .i64 0, .sl none 0 [], .int .i64 2], .int .i64 2], .int .i64 1]), ⟨[Y], []⟩) := by kernel_rfl
theorem k24d (Y : ABlk) : doCall (aCall prog 400) { base := 0, rob := 0, rom := 0 } .full (.fn 24) [.str ⟨#[118, 97, 114, 32, 97, 10, 120]⟩] ⟨[Y], []⟩ = some (.ok (.agg [.int .i64 32, .str ⟨#[]⟩, .int .i64 0, .sl none 2 [.int .i64 30, .str ⟨#[97]⟩, .int .i64 0, .sl none 0 [], .int .i64 1, .int .i64 31, .str ⟨#[]⟩, .int .i64 0, .sl none 1 [.int .i64 1, .str ⟨#[120]⟩, .int .i64 0, .sl none 0 [], .int .i64 2], .int .i64 2], .int .i64 1]), ⟨[Y], []⟩) := by
  have h := congrFun k24dF Y
  rw [aCallF_eq] at h
  exact h
end Go.Proofs.YP
/- PURE: what is shown (18) of scopes, from the empty heap. -/
set_option linter.unusedVariables false
set_option linter.unusedSimpArgs false
namespace Go.Proofs.YP
open Go
set_option maxHeartbeats 2000000 in
theorem f18e (k : Nat) (hk : 5000 ≤ k) : CallQ (k + 1) { base := 0, rob := 0, rom := 0 } 18 [] ⟨[], []⟩ fun r st' => ∃ v, r = .ok v ∧ Grow ⟨[], []⟩ st' ∧ v = .bool true := by
  have c1 := doCall_le (aCall_mono (show 400 ≤ k by omega)) _ _ _ _ _ _ k24c
  have c2 := fun Y => doCall_le (aCall_mono (show 400 ≤ k by omega)) _ _ _ _ _ _ (k24d Y)
  have c1 : doCall (aCall prog k) { base := 0, rob := 0, rom := 0 } .full (.fn 24) _ ⟨[], []⟩ = _ := c1
  have c2 : ∀ Y, doCall (aCall prog k) { base := 0, rob := 0, rom := 0 } .full (.fn 24) _ ⟨[Y], []⟩ = _ := c2
  have c3 := k20a k hk { base := 0, rob := 0, rom := 0 } ⟨[], []⟩ wf0
  have c4 := fun Y => k20b k hk { base := 0, rob := 0, rom := 0 } ⟨[Y], []⟩ ⟨by simp, by simp, by simp⟩
  rw [rA] at c3
  rw [rB] at c4
  simp [tA] at c3
  simp [tB] at c4
  have hm : ∀ j x y, mayWrite { base := 0, rob := 0, rom := 0 } j x y = true := fun j x y => by simp [mayWrite]
  have hm1 := fun x y => hm 0 x y
  have hm2 := fun x y => hm 1 x y
  refine call_in0 rfl rfl (by decide) fun s hs => ?_
  simp [hs, c1, c3, storeA, hm1, wrC]
  simp [hs, c2, c4, storeA, hm2, wrC]
  exact Grow.appH ⟨[], []⟩ _
theorem k18e : doCall (aCall prog 5001) { base := 0, rob := 0, rom := 0 } .full (.fn 18) [] ⟨[], []⟩ = some (.ok (.bool true), ⟨[], []⟩) := by
  obtain ⟨⟨r, st'⟩, e, v, e1, g, e2⟩ := f18e 5000 (Nat.le_refl _)
  simp only at e1 g e2
  subst e1 e2
  have e : aCall prog 5001 { base := 0, rob := 0, rom := 0 } (.fn 18) [] ⟨[], []⟩ = some (.ok (.bool true), st') := e
  have h1 := pfx_take g.H
  have h2 := pfx_take g.I
  simp only [List.length_cons, List.length_nil, Nat.zero_add] at h1 h2
  simp only [doCall, List.map_nil, List.length_cons, List.length_nil, Nat.zero_add, e, obind_some]
  simp only [AV.fin, AV.refs, refsLt_nil, guardb_true, okv_eq, h1, h2]
end Go.Proofs.YP
/- Plain laws of resolving: how many functions, and variables, there may be (P5.1). -/
set_option linter.unusedVariables false
set_option linter.unusedSimpArgs false
namespace Go.Proofs.YP
open Go
/-- A text of so many letters v. -/
def vN (n : Nat) : ByteArray := ⟨⟨List.replicate n 118⟩⟩
theorem vN_list (n : Nat) : (vN n).data.toList = List.replicate n 118 := rfl
theorem vN_size (n : Nat) : (vN n).size = n := by show (vN n).data.size = n; rw [← Array.length_toList, vN_list]; simp
theorem vN_inj {a b : Nat} (h : vN a = vN b) : a = b := by rw [← vN_size a, h, vN_size]
theorem vN_succ (n : Nat) : vN n ++ ⟨#[118]⟩ = vN (n + 1) := by
  apply ByteArray.ext
  apply Array.toList_inj.1
  rw [ByteArray.data_append, Array.toList_append]
  simp [vN_list, List.replicate_succ']
theorem kw_v : ∀ w ∈ kwords, w.data.toList.all (fun c => c == 118) = false := by decide +kernel
theorem nmL_v : ∀ n, nmL (List.replicate n 118) = n
  | 0 => rfl
  | n + 1 => by simp only [List.replicate_succ, nmL, nmL_v n]; rfl
theorem vN_name (n : Nat) : isName (vN (n + 1)) = true := by
  have hw : isWord (vN (n + 1)) = false := by
    simp only [isWord, decide_eq_false_iff_not]
    intro h
    have := kw_v _ h
    rw [vN_list] at this
    simp at this
  have hl : (vN (n + 1)).data.toList = 118 :: List.replicate n 118 := by rw [vN_list, List.replicate_succ]
  have h1 : nmL (118 :: List.replicate n 118) = n + 1 := by rw [← List.replicate_succ, nmL_v]
  simp only [isName, hl, h1, hw, List.length_cons, List.length_replicate]
  decide
/-- A program of so many functions. -/
def mB : T := .mk 32 ⟨#[]⟩ 0 [] 0
def mF : T := .mk 41 ⟨#[102]⟩ 0 [mB] 0
def mP (n : Nat) : T := .mk 32 ⟨#[]⟩ 0 (List.replicate n mF) 0
/-- A program of so many variables. -/
def mV (i : Nat) : T := .mk 30 (vN (i + 1)) 0 [] 0
def mVs (n : Nat) : List T := (List.range n).map mV
def mQ (n : Nat) : T := .mk 32 ⟨#[]⟩ 0 (mVs n) 0
theorem mVs_succ (n : Nat) : mVs (n + 1) = mVs n ++ [mV n] := by simp [mVs, List.range_succ]
theorem mVs_len (n : Nat) : (mVs n).length = n := by simp [mVs]
theorem fitL_blk (f : T → Bool) (len : Nat) : ∀ (l : List T) (i : Nat), (∀ t ∈ l, isS t.op = true ∧ f t = true) → fitL f 32 len i l = true
  | [], i, _ => rfl
  | x :: r, i, h => by
    simp only [fitL, Bool.and_eq_true]
    refine ⟨⟨?_, (h x (by simp)).2⟩, fitL_blk f len r (i + 1) fun t ht => h t (by simp [ht])⟩
    have := (h x (by simp)).1
    simp [partOK, this]
theorem fit_F : fit 99 mF = true := by decide +kernel
theorem fit_V (i : Nat) : fit 99 (mV i) = true := by
  have := vN_name i
  simp [fit, mV, okF, formOf, forms, TX.ok, this, okN, fitL]
theorem right_P (n : Nat) (h : n ≤ 1000) : right (mP n) = true := by
  have h1 : fitL (fit 99) 32 n 0 (List.replicate n mF) = true := fitL_blk _ _ _ _ fun t ht => by
    rw [List.eq_of_mem_replicate ht]; exact ⟨by decide, fit_F⟩
  have h2 : (n : Int) ≤ 1073741824 := by omega
  simp [right, rBlk, mP, T.op_mk, fit, okF, formOf, forms, TX.ok, okN, h1, h2]
theorem right_Q (n : Nat) (h : n ≤ 1000) : right (mQ n) = true := by
  have h1 : fitL (fit 99) 32 n 0 (mVs n) = true := fitL_blk _ _ _ _ fun t ht => by
    obtain ⟨i, -, rfl⟩ := List.mem_map.1 ht
    exact ⟨(by decide : isS 30 = true), fit_V i⟩
  have h2 : (n : Int) ≤ 1073741824 := by omega
  simp [right, rBlk, mQ, T.op_mk, fit, okF, formOf, forms, TX.ok, okN, h1, h2, mVs_len]
theorem dec_F (o : List ByteArray) (h : o = [] ∨ o = [⟨#[102]⟩]) : decT mF o = [⟨#[102]⟩] := by
  rcases h with rfl | rfl <;> decide +kernel
theorem dec_Fs : ∀ n o, (o = [] ∨ o = [⟨#[102]⟩]) → (decL (List.replicate n mF) o).length ≤ 1
  | 0, o, h => by rcases h with rfl | rfl <;> simp [decL]
  | n + 1, o, h => by
    simp only [List.replicate_succ, decL]
    rw [dec_F o h]
    exact dec_Fs n _ (.inr rfl)
theorem wL_errs (at_ : Nat) (loop : Bool) : ∀ (l : List T) (w : Wk), w.e ≠ 0 → (wL at_ loop l w).2 = w
  | [], w, h => rfl
  | .mk op s n l x :: r, w, h => by
    have h1 : wT at_ loop (.mk op s n l x) w = (.mk op s n l x, w) := by simp [wT, h]
    simp only [wL, h1]
    exact wL_errs at_ loop r w h
theorem wT_F (w : Wk) (he : w.e = 0) : (w.fs.length = 500 → (wT 0 false mF w).2.e = 52) ∧ (w.fs.length ≠ 500 → (wT 0 false mF w).2.e = 0 ∧ (wT 0 false mF w).2.fs.length = w.fs.length + 1) := by
  have hv : ∀ m, (fnOf' 41 ⟨#[102]⟩ [.mk 32 ⟨#[]⟩ 0 [] 0] 0 m).vars.length = 0 := fun m => by
    simp [fnOf', paramsOf, decT, decL, isDec, isFn]
  have h41 : isFn 41 = true := by decide
  constructor
  · intro h
    simp [mF, mB, wT, he, h41, h, Wk.fail]
  · intro h
    simp [mF, mB, wT, wP, he, h41, h, hv]
    simp [isFn, stepN, wL]
theorem wL_Fs : ∀ (n : Nat) (w : Wk), w.e = 0 → w.fs.length ≤ 500 → (wL 0 false (List.replicate n mF) w).2.e = if 500 < w.fs.length + n then 52 else 0
  | 0, w, he, hl => by simp [wL, he]; omega
  | n + 1, w, he, hl => by
    simp only [List.replicate_succ, wL]
    obtain ⟨h1, h2⟩ := wT_F w he
    by_cases h : w.fs.length = 500
    · have h3 := h1 h
      rw [wL_errs _ _ _ _ (by rw [h3]; decide), h3, if_pos (by omega)]
    · obtain ⟨h3, h4⟩ := h2 h
      rw [wL_Fs n _ h3 (by omega), h4]
      rw [show w.fs.length + 1 + n = w.fs.length + (n + 1) by omega]
/-- Functions: with the program itself, five hundred at most. -/
theorem many_P (n : Nat) (h : n ≤ 1000) : (resolve (mP n)).2.2.2 = if 500 < n + 1 then 52 else 0 := by
  have hd : ¬ 200 < (decT (mP n) []).length := by
    have := dec_Fs n [] (.inl rfl)
    simp [mP, decT, isDec, isFn]; omega
  unfold resolve
  simp only [right_P n h, Bool.not_true, Bool.false_eq_true, if_false, if_neg hd]
  have hw : ∀ w : Wk, w.e = 0 → w.fs.length = 1 → (wT 0 false (mP n) w).2.e = if 500 < n + 1 then 52 else 0 := fun w he hl => by
    have h1 := wL_Fs n w he (by omega)
    rw [hl, Nat.add_comm 1 n] at h1
    simpa [mP, wT, he, isFn, stepN] using h1
  have h1 := hw { fs := [{ around := -1, name := ⟨#[]⟩, params := 0, vars := decT (mP n) [], mark := 0 }], mark := 4, e := 0, line := 0 } rfl rfl
  split
  · exact h1
  · rename_i h2
    simp only [ne_eq, Classical.not_not] at h2
    rw [← h1, h2]
theorem dec_Vs : ∀ n, decL (mVs n) [] = (List.range n).map fun i => vN (i + 1)
  | 0 => rfl
  | n + 1 => by
    have ha : ∀ (l : List T) (o : List ByteArray) (t : T), decL (l ++ [t]) o = decT t (decL l o) := fun l => by
      induction l with
      | nil => intro o t; rfl
      | cons a r ih => intro o t; simp only [List.cons_append, decL]; exact ih _ t
    rw [mVs_succ, ha, dec_Vs n, List.range_succ, List.map_append]
    have hn : vN (n + 1) ∉ (List.range n).map fun i => vN (i + 1) := fun h => by
      obtain ⟨i, hi, e⟩ := List.mem_map.1 h
      have := vN_inj e
      have := List.mem_range.1 hi
      omega
    simp only [mV, decT, isDec, isFn, decL, withS, if_neg hn]
    simp
theorem wL_Vs (loop : Bool) : ∀ (l : List Nat) (w : Wk), w.e = 0 → (wL 0 loop (l.map mV) w).2.e = 0
  | [], w, he => by simp [wL, he]
  | i :: r, w, he => by
    simp only [List.map_cons, wL]
    refine wL_Vs loop r _ ?_
    simp [mV, wT, he, isFn, stepN, wL]
/-- Variables: two hundred at most. -/
theorem many_Q (n : Nat) (h : n ≤ 1000) : (resolve (mQ n)).2.2.2 = if 200 < n then 52 else 0 := by
  have hd : (decT (mQ n) []).length = n := by
    simp [mQ, decT, isDec, isFn, dec_Vs]
  unfold resolve
  simp only [right_Q n h, Bool.not_true, Bool.false_eq_true, if_false, hd]
  by_cases h2 : 200 < n
  · simp [h2]
  · have hw : ∀ w : Wk, w.e = 0 → (wT 0 false (mQ n) w).2.e = 0 := fun w he => by
      have h1 := wL_Vs false (List.range n) w he
      simpa [mQ, mVs, wT, he, isFn, stepN] using h1
    have h1 := hw { fs := [{ around := -1, name := ⟨#[]⟩, params := 0, vars := decT (mQ n) [], mark := 0 }], mark := 4, e := 0, line := 0 } rfl
    simp [h2, h1]
theorem o64 {n : Int} (h : 0 ≤ n ∧ n ≤ 100) : ok64 n := ⟨by omega, by omega⟩
theorem mB_ok : mB.ok := ⟨by decide, by decide, o64 (by decide), o64 (by decide), o64 (by decide), trivial⟩
theorem mF_ok : mF.ok := ⟨by decide, by decide, o64 (by decide), o64 (by decide), o64 (by decide), mB_ok, trivial⟩
theorem okL_of : ∀ {l : List T}, (∀ t ∈ l, t.ok) → T.okL l
  | [], _ => trivial
  | a :: r, h => ⟨h a (by simp), okL_of fun t ht => h t (by simp [ht])⟩
theorem mP_ok (n : Nat) (h : n ≤ 1000) : (mP n).ok :=
  ⟨by decide, by simp; omega, o64 (by decide), o64 (by decide), o64 (by decide), okL_of fun t ht => by rw [List.eq_of_mem_replicate ht]; exact mF_ok⟩
theorem mV_ok (i : Nat) (h : i ≤ 1000) : (mV i).ok := ⟨by rw [vN_size]; omega, by decide, o64 (by decide), o64 (by decide), o64 (by decide), trivial⟩
theorem mQ_ok (n : Nat) (h : n ≤ 1000) : (mQ n).ok :=
  ⟨by decide, by rw [mVs_len]; omega, o64 (by decide), o64 (by decide), o64 (by decide), okL_of fun t ht => by
    obtain ⟨i, hi, rfl⟩ := List.mem_map.1 ht
    have := List.mem_range.1 hi
    exact mV_ok i (by omega)⟩
theorem mP_wt (n : Nat) : (mP n).wt = 1 + 3 * n := by
  have : ∀ n, T.wtL (List.replicate n mF) = 3 * n := fun n => by
    induction n with
    | zero => rfl
    | succ n ih => rw [List.replicate_succ, T.wtL, ih, show mF.wt = 3 by decide]; omega
  show 1 + 0 + _ = _
  rw [this]
theorem mQ_wt (n : Nat) : (mQ n).wt ≤ 1 + n * (n + 2) := by
  have : ∀ (N : Nat) (l : List Nat), (∀ i ∈ l, i < N) → T.wtL (l.map mV) ≤ l.length * (N + 2) := fun N l => by
    induction l with
    | nil => intro _; simp [T.wtL]
    | cons a r ih =>
      intro h
      have h1 := ih fun i hi => h i (by simp [hi])
      have h2 := h a (by simp)
      have h3 : (mV a).wt = 1 + (a + 1) := by simp [mV, T.wt, vN_size, T.wtL]
      simp only [List.map_cons, T.wtL, List.length_cons, h3, Nat.add_mul, Nat.one_mul]
      omega
  have h1 := this n (List.range n) (fun i hi => List.mem_range.1 hi)
  rw [List.length_range] at h1
  show 1 + 0 + T.wtL (mVs n) ≤ _
  unfold mVs
  omega
end Go.Proofs.YP
/- PURE: scopes: the law ScopeMany (9). -/
set_option linter.unusedVariables false
set_option linter.unusedSimpArgs false
namespace Go.Proofs.YP
open Go
set_option maxHeartbeats 8000000 in
set_option maxRecDepth 20000 in
theorem f9 (a b : Int) (k : Nat) (hk : 300000 ≤ k) (E : Env) (hmw : ∀ j x y, mayWrite E j x y = true) (hrom : E.rom ≤ 0) (hwf : ∀ st, E.Wf st)
    (h18 : doCall (aCall prog k) E .full (.fn 18) [] ⟨[], []⟩ = some (.ok (.bool true), ⟨[], []⟩)) : CallQ (k + 1) E 9 [.int .i64 a, .int .i64 b] ⟨[], []⟩ (Tru ⟨[], []⟩) := by
  refine call_in2 rfl rfl (by decide) fun s hs e0 e1 => ?_
  by_cases h1 : a < 490
  · simp [hs, e0, e1, h18, h1, isEff]
    exact .of (.refl _)
  by_cases h2 : 510 < a
  · simp [hs, e0, e1, h18, h1, h2, isEff]
    exact .of (.refl _)
  by_cases h3 : b < 190
  · simp [hs, e0, e1, h18, h1, h2, h3, isEff]
    exact .of (.refl _)
  by_cases h4 : 210 < b
  · simp [hs, e0, e1, h18, h1, h2, h3, h4, isEff]
    exact .of (.refl _)
  obtain ⟨n, rfl⟩ : ∃ n : Nat, a = n := ⟨a.toNat, by omega⟩
  obtain ⟨q, rfl⟩ : ∃ q : Nat, b = q := ⟨b.toNat, by omega⟩
  have hm1 := many_P n (by omega)
  have hm2 := many_Q q (by omega)
  have hw1 := mP_wt n
  have hw2 := mQ_wt q
  have hq2 : q * (q + 2) ≤ 210 * 212 := Nat.mul_le_mul (by omega) (by omega)
  have c20 := fun st v I (h : AccT 0 I (List.replicate n mF) v) => (f20 (mP n) (mP_ok n (by omega)) (by omega) k (by omega)).fullA (E := E) (st := st)
    (args' := [.agg [.int .i64 32, .str ⟨#[]⟩, .int .i64 0, v, .int .i64 0]]) (by simp [resV, encFs_refs, T.enc_refs]) (hwf st) (by
      have := h.fin 0 (Nat.le_refl _)
      rw [T.enc_eq]
      show _ = [AV.agg [.int .i64 32, .str ⟨#[]⟩, .int .i64 0, .sl none (List.replicate n mF).length (T.encL (List.replicate n mF)), .int .i64 0]]
      rw [← this]
      simp)
  have c20' := fun st v I (h : AccT 0 I (mVs q) v) => (f20 (mQ q) (mQ_ok q (by omega)) (by omega) k (by omega)).fullA (E := E) (st := st)
    (args' := [.agg [.int .i64 32, .str ⟨#[]⟩, .int .i64 0, v, .int .i64 0]]) (by simp [resV, encFs_refs, T.enc_refs]) (hwf st) (by
      have := h.fin 0 (Nat.le_refl _)
      rw [T.enc_eq]
      show _ = [AV.agg [.int .i64 32, .str ⟨#[]⟩, .int .i64 0, .sl none (mVs q).length (T.encL (mVs q)), .int .i64 0]]
      rw [← this]
      simp)
  generalize resolve (mP n) = R at *
  generalize resolve (mQ q) = R' at *
  obtain ⟨fs, t', x, y⟩ := R
  obtain ⟨fs', t'', x', y'⟩ := R'
  simp only at hm1 hm2
  simp only [resV] at c20 c20'
  rw [T.enc_eq t'] at c20
  rw [T.enc_eq t''] at c20'
  simp [hs, e0, e1, h18, h1, h2, h3, h4, isEff, storeA, hmw, wrC, fillA]
  refine WP_loop (fun g s m st' => ∃ (j : Nat) (v : AV) (I' : List (Nat × Nat)), j ≤ n ∧ g = n - j ∧ s.length = 94 ∧ m = [] ∧ lk s 0 = .int .i64 n ∧ lk s 1 = .int .i64 q ∧ lk s 5 = .bool true ∧ lk s 6 = .ptr 0 0 ∧ lk s 7 = .int .i64 j ∧
      st' = ⟨[.cells 24 [.int .i64 32, .str ⟨#[]⟩, .int .i64 0, v, .int .i64 0]], I'⟩ ∧ AccT 0 I' (List.replicate j mF) v) n (by omega)
      ⟨0, .nils, [], by omega, by omega, by simp [hs], rfl, by simp [hs, e0], by simp [hs, e1], by simp [hs], by simp [hs], by simp [hs], rfl, .inl ⟨rfl, rfl⟩⟩ ?_
  clear hs e0 e1 s
  rintro _ s m _ ⟨j, v, I', hj, rfl, hs, rfl, e0, e1, e5, e6, e7, rfl, hac⟩
  by_cases hc : j < n
  · have hwj := wrap64 (n := (j : Int) + 1) (by omega)
    obtain ⟨v', I2, happ, hac2, hio2⟩ := ((hac.push (1, 5)).push (1, 5)).app (E := E) (H := [.cells 24 [.int .i64 32, .str ⟨#[]⟩, .int .i64 0, v, .int .i64 0]]) (by simp) hrom (by simp; omega) mF (I'.length + 1)
    rw [← List.replicate_succ'] at hac2
    simp [mF, mB] at happ
    simp [hs, e0, e6, e7, hc, fillA, wrC, happ, storeA, hmw, hac2.cells, hac2.one]
    simp [hs, e7, hwj]
    exact ⟨_, by omega, j + 1, v', I2, by omega, rfl, by simp [hs], rfl, by simp [hs, e0], by simp [hs, e1], by simp [hs, e5], by simp [hs, e6], by simp [hs], rfl, hac2⟩
  have hjn : j = n := by omega
  subst hjn
  simp [hs, e0, e6, e7]
  simp [hs, e0, e6, e7, c20 _ _ _ hac, storeA, hmw, wrC, fillA]
  refine WP_loop (fun g s m st' => ∃ (i : Nat) (w : AV) (I2 : List (Nat × Nat)), i ≤ q ∧ g = q - i ∧ s.length = 94 ∧ m = [] ∧ lk s 0 = .int .i64 j ∧ lk s 1 = .int .i64 q ∧ lk s 5 = .bool true ∧ lk s 11 = .int .i64 y ∧ lk s 12 = .ptr 2 0 ∧ lk s 13 = .str (vN (i + 1)) ∧ lk s 14 = .int .i64 i ∧
      st' = ⟨[.cells 24 [.int .i64 32, .str ⟨#[]⟩, .int .i64 0, v, .int .i64 0], .cells 24 [.int .i64 t'.op, .str t'.s, .int .i64 t'.n, .sl none t'.l.length (T.encL t'.l), .int .i64 t'.line], .cells 24 [.int .i64 32, .str ⟨#[]⟩, .int .i64 0, w, .int .i64 0]], I2⟩ ∧ AccT 0 I2 (mVs i) w) q (by omega)
      ⟨0, .nils, I', by omega, by omega, by simp [hs], rfl, by simp [hs, e0], by simp [hs, e1], by simp [hs, e5], by simp [hs], by simp [hs], by simp [hs]; rfl, by simp [hs], rfl, .inl ⟨rfl, rfl⟩⟩ ?_
  clear hs e0 e1 e5 e6 e7 s
  rintro _ s m _ ⟨i, w, I2, hi, rfl, hs, rfl, e0, e1, e5, e11, e12, e13, e14, rfl, hac2⟩
  by_cases hc : i < q
  · have hwj := wrap64 (n := (i : Int) + 1) (by omega)
    have hsz : (vN (i + 1)).size + (⟨#[118]⟩ : ByteArray).size ≤ 9223372036854775807 := by rw [vN_size]; show _ + 1 ≤ _; omega
    have hvs := vN_succ (i + 1)
    obtain ⟨v', I3, happ, hac3, hio2⟩ := (hac2.push (1, 5)).app (E := E) (H := [.cells 24 [.int .i64 32, .str ⟨#[]⟩, .int .i64 0, v, .int .i64 0], .cells 24 [.int .i64 t'.op, .str t'.s, .int .i64 t'.n, .sl none t'.l.length (T.encL t'.l), .int .i64 t'.line], .cells 24 [.int .i64 32, .str ⟨#[]⟩, .int .i64 0, w, .int .i64 0]]) (by simp) hrom (by rw [mVs_len]; omega) (mV i) I2.length
    rw [← mVs_succ] at hac3
    simp [mV] at happ
    simp [hs, e1, e12, e13, e14, hc, fillA, wrC, happ, storeA, hmw, hac3.cells, hac3.one]
    simp [hs, e13, e14, hwj, strBin, hsz, hvs]
    exact ⟨_, by omega, i + 1, v', I3, by omega, rfl, by simp [hs], rfl, by simp [hs, e0], by simp [hs, e1], by simp [hs, e5], by simp [hs, e11], by simp [hs, e12], by simp [hs], by simp [hs], rfl, hac3⟩
  have hin : i = q := by omega
  subst hin
  simp [hs, e1, e12, e14]
  have hwn := wrap64 (n := (j : Int) + 1) (by omega)
  by_cases a1 : 500 < j + 1
  · have b1 : 500 < (j : Int) + 1 := by omega
    rw [if_pos a1] at hm1
    by_cases a2 : 200 < i
    · have b2 : 200 < (i : Int) := by omega
      rw [if_pos a2] at hm2
      subst hm1 hm2
      simp [hs, e0, e1, e5, e11, e12, c20' _ _ _ hac2, storeA, hmw, wrC, hwn, a1, a2, b1, b2, isEff]
      exact .of ⟨List.nil_prefix, List.nil_prefix⟩
    · have b2 : ¬ 200 < (i : Int) := by omega
      rw [if_neg a2] at hm2
      subst hm1 hm2
      simp [hs, e0, e1, e5, e11, e12, c20' _ _ _ hac2, storeA, hmw, wrC, hwn, a1, a2, b1, b2, isEff]
      exact .of ⟨List.nil_prefix, List.nil_prefix⟩
  · have b1 : ¬ 500 < (j : Int) + 1 := by omega
    rw [if_neg a1] at hm1
    by_cases a2 : 200 < i
    · have b2 : 200 < (i : Int) := by omega
      rw [if_pos a2] at hm2
      subst hm1 hm2
      simp [hs, e0, e1, e5, e11, e12, c20' _ _ _ hac2, storeA, hmw, wrC, hwn, a1, a2, b1, b2, isEff]
      exact .of ⟨List.nil_prefix, List.nil_prefix⟩
    · have b2 : ¬ 200 < (i : Int) := by omega
      rw [if_neg a2] at hm2
      subst hm1 hm2
      simp [hs, e0, e1, e5, e11, e12, c20' _ _ _ hac2, storeA, hmw, wrC, hwn, a1, a2, b1, b2, isEff]
      exact .of ⟨List.nil_prefix, List.nil_prefix⟩
theorem says9 (a b : Int) (_ : ok64 a) (_ : ok64 b) : Says 9 [.int .i64 a, .int .i64 b] :=
  says_of (f9 a b 300000 (Nat.le_refl _) E0 (fun j x y => by simp [mayWrite]) (Nat.le_refl _) (fun st => ⟨Nat.zero_le _, Nat.zero_le _, Nat.zero_le _⟩) (doCall_le (aCall_mono (by decide)) _ _ _ _ _ _ k18e))
end Go.Proofs.YP
