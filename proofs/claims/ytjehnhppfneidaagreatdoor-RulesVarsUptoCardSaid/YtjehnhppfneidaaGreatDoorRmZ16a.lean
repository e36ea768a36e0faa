/- Texts that the laws of the seat rest on: an abstract machine, what the functions answer in it, plain laws. -/
import Derived.Test.YtjehnhppfneidaaGreatDoorRmj
set_option linter.unusedVariables false
set_option linter.unusedSimpArgs false
set_option linter.unusedSectionVars false
set_option maxHeartbeats 8000000
set_option maxRecDepth 20000
namespace Go.Proofs.YP
open Go
theorem f39 (fs : List Fn) (F : List FS) (S : Int) (R : List Rule) (n : Int) (hn : ok64 n) (hfl : fs.length ≤ 1000000) (hFl : F.length ≤ 1000000) (k : Nat) (hk : 5 ≤ k) : PureC k 39 [.sl none fs.length (encFs fs), .agg (sysE S F R), .int .i64 n] (.tup [.int .i64 (varSetM fs F n).1, .int .i64 (varSetM fs F n).2]) := by
  intro E st hE
  obtain ⟨k, rfl⟩ : ∃ k', k = k' + 1 := ⟨k - 1, by omega⟩
  obtain ⟨hn1, hn2⟩ := hn
  unfold sysE
  refine call_in3 rfl rfl (by decide) fun s hs e0 e1 e2 => ?_
  by_cases h1 : fs.length = F.length
  rotate_left
  · have h1' : ¬ (fs.length : Int) = F.length := by omega
    simp [Nat.testBit, hs, e0, e1, e2, h1, h1', varSetM, isEff]
    exact Grow.appH _ _
  have h1' : (fs.length : Int) = F.length := by omega
  by_cases h0 : n < 0
  · simp [hs, e0, e1, e2, h0, h1, varSetM]
    exact Grow.appH _ _
  have hq : n.tdiv 1000 = ((n / 1000).toNat : Int) := by rw [Int.tdiv_eq_ediv_of_nonneg (by omega)]; omega
  have hr : n.tmod 1000 = n % 1000 := Int.tmod_eq_emod_of_nonneg (by omega)
  generalize (n / 1000).toNat = a at hq
  have hwq : IntKind.i64.wrap (a : Int) = a := wrap64 (by have : (a : Int) ≤ n := by rw [← hq, Int.tdiv_eq_ediv_of_nonneg (by omega)]; omega
                                                          omega)
  by_cases h2 : a < fs.length
  rotate_left
  · have hg : fs[a]? = none := List.getElem?_eq_none (by omega)
    have h2' : F.length ≤ a := by omega
    simp [Nat.testBit, hs, e0, e1, e2, h0, h1, h2', varSetM, hq, hwq, hg, isEff]
    exact Grow.appH _ _
  obtain ⟨f, hf⟩ : ∃ f, fs[a]? = some f := ⟨_, List.getElem?_eq_getElem h2⟩
  obtain ⟨x, hx⟩ : ∃ x, F[a]? = some x := ⟨_, List.getElem?_eq_getElem (by omega)⟩
  have h2' : ¬ F.length ≤ a := by omega
  have h2'' : a < F.length := by omega
  have a3 : (encFs fs)[a * 5 + 3]? = some (.sl none f.vars.length (f.vars.map .str)) := encFs_at hf 3 (by omega)
  have b3 := (List.getElem?_eq_some_iff.1 a3).2
  have l3 : a * 5 + 3 < F.length * 5 := by omega
  have c2 : (encFS F)[a * 5 + 2]? = some (.int .i64 x.this) := encFS_at hx 2 (by omega)
  have d2 := (List.getElem?_eq_some_iff.1 c2).2
  have m2 := (List.getElem?_eq_some_iff.1 c2).1
  have hnn : ¬ (n < 0 ∨ fs.length ≠ F.length) := by omega
  by_cases h3 : (f.vars.length : Int) ≤ n % 1000
  · have hvm : varSetM fs F n = (0, 2) := by
      unfold varSetM
      rw [if_neg hnn]
      simp only [hq, hr, Int.toNat_natCast, hf, hx, if_pos h3]
    rw [hvm]
    simp [Nat.testBit, hs, e0, e1, e2, h0, h1, h2', h2'', hq, hr, hwq, hf, hx, a3, b3, l3, h3, isEff]
    exact Grow.appH _ _
  · have hvm : varSetM fs F n = (IntKind.i64.wrap (IntKind.i64.wrap (x.this - f.vars.length) + n % 1000), 0) := by
      unfold varSetM
      rw [if_neg hnn]
      simp only [hq, hr, Int.toNat_natCast, hf, hx, if_neg h3]
    rw [hvm]
    simp [Nat.testBit, hs, e0, e1, e2, h0, h1, h2', h2'', hq, hr, hwq, hf, hx, a3, b3, l3, h3, isEff]
    simp [Nat.testBit, hs, e0, e2, h1, h2'', hq, hr, hwq, a3, b3, l3, c2, d2, m2, isEff]
    exact Grow.appH _ _
theorem f16 (t : T) (n : Int) (hn : ok64 n) (ht : t.ok) (hw : t.wt ≤ 1000000000) (k : Nat) (hk : 40 * t.wt + 2000000 ≤ k) (E : Env) (st : St) (hE : E.Wf st)
  (h32 : ∀ y, doCall (aCall prog k) E .full (.fn 32) [] ⟨st.H ++ [y], st.I⟩ = some (.ok (.bool true), ⟨st.H ++ [y], st.I⟩)) : CallQ (k + 1) E 16 [.agg t.enc, .int .i64 n] st (Tru st) := by
 have hmw := mayWrite_new hE
 have hcw := count_wt t
 have c19 := fun st3 (h : E.Wf st3) => (f19 t k (by omega)).full (E := E) (st := st3) rfl h
 have c33 := fun st3 (h : E.Wf st3) => (rules33 t ht hw k (by omega)).full (E := E) (st := st3) (rulV_refs _) h
 obtain ⟨h1, h2, h3⟩ := rulesM_lims t
 have c38 := fun st3 (h : E.Wf st3) => (f38 (rulesM t).1 (rulesM t).2.1.2.1 (rulesM t).2.1.1 (rulesM t).2.1.2.2 n hn (by omega) (by omega) k (by omega)).full (E := E) (st := st3) (by simp) h (by simp [sysE, encFS_fin, encR_fin, encFs_fin])
 have c39 := fun st3 (h : E.Wf st3) => (f39 (rulesM t).1 (rulesM t).2.1.2.1 (rulesM t).2.1.1 (rulesM t).2.1.2.2 n hn (by omega) (by omega) k (by omega)).full (E := E) (st := st3) (by simp) h (by simp [sysE, encFS_fin, encR_fin, encFs_fin])
 obtain ⟨op, s0, nn, l, line⟩ := t
 rw [rulesM_sys] at c33
 generalize rulesM (.mk op s0 nn l line) = R at *
 obtain ⟨fs, ⟨S, F, Rs⟩, x, y⟩ := R
 simp only at c33 c38 c39 h1 h2 h3
 simp only [T.enc, sysE] at c19 c33 c38 c39
 refine call_in2 rfl rfl (by decide) fun s hs e0 e1 => ?_
 have hE1 : ∀ y, E.Wf ⟨st.H ++ y, st.I⟩ := fun y => hE.of (by simp) (by simp)
 by_cases h : szT 1500 (.mk op s0 nn l line) < 0
 ·simp [hs, e0, h32, c19 _ (hE1 _), h]
  exact .of (Grow.appH _ _)
 by_cases hy : y = 0
 rotate_left
 ·simp [hs, e0, h32, c19 _ (hE1 _), h, c33 _ (hE1 _), storeA, hmw, wrC, hy]
  exact .of (Grow.appH _ _)
 subst hy
 simp [hs, e0, e1, h32, c19 _ (hE1 _), h, c33 _ (hE1 _), storeA, hmw, wrC]
 simp [hs, e1, c38 _ (hE1 _), c39 _ (hE1 _)]
 exact .of (Grow.appH _ _)
theorem says16 (n : Int) (hn : ok64 n) (t : T) (ht : t.ok) (hw : t.wt ≤ 1048576) : Says 16 [.agg t.enc, .int .i64 n] :=
 says_of (f16 t n hn ht (by omega) (40 * t.wt + 2000000) (Nat.le_refl _) E0 ⟨[], []⟩ wf0 (fun y => k32at (by omega) y))
end Go.Proofs.YP
