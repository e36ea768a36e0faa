/- Texts that the laws of the seat rest on: an abstract machine, what the functions answer in it, plain laws. -/
import Derived.Test.YtjehnhppfneidaaGreatDoorRmh
set_option linter.unusedVariables false
set_option linter.unusedSimpArgs false
set_option linter.unusedSectionVars false
set_option maxHeartbeats 8000000
set_option maxRecDepth 20000
namespace Go.Proofs.YP
open Go
def fsL : Int → List Fn → List FS
 | _, [] => []
 | a, f :: r => fsF a f :: fsL (a + (f.vars.length + 3 : Nat)) r
theorem fsL_len : ∀ (a : Int) (l : List Fn), (fsL a l).length = l.length
 | _, [] => rfl
 | a, f :: r => by simp only [fsL, List.length_cons, fsL_len _ r]
theorem fsL_snoc : ∀ (l : List Fn) (a : Int) (j : Nat) (f : Fn), l[j]? = some f → fsL a (l.take (j + 1)) = fsL a (l.take j) ++ [fsF (baseE a (l.take j)) f]
 | [], a, j, f, h => by simp at h
 | g :: r, a, 0, f, h => by simp at h; subst h; simp [fsL, baseE]
 | g :: r, a, j + 1, f, h => by
  simp only [List.take_succ_cons, fsL, baseE, List.cons_append]
  rw [fsL_snoc r _ j f (by simpa using h)]
abbrev RRes := List Fn × (Int × List FS × List Rule) × Int × Int
def rulesM (t : T) : RRes :=
 let r := resolve t
 if r.2.2.2 ≠ 0 then ([], (0, [], []), r.2.2.1, r.2.2.2)
 else
  let a : Int := (r.2.1.count : Nat)
  let n := baseE a r.1 + 9
  if 100000 < n then ([], (0, [], []), 0, 52)
  else (r.1, (n, fsL a r.1, rT r.1 (baseL a r.1) r.2.1 0 0 (behV r.1 (baseL a r.1) 0 + 2) true), 0, 0)
def rulV (r : RRes) : AV := .tup [.sl none r.1.length (encFs r.1), .agg [.int .i64 r.2.1.1, .sl none r.2.1.2.1.length (encFS r.2.1.2.1), .sl none r.2.1.2.2.length (encR r.2.1.2.2)], .int .i64 r.2.2.1, .int .i64 r.2.2.2]
abbrev res33 : List ARes := [.tmp 2, .cell 3 (some 3), .tmp 4, .tmp 5]
def Pur (st : St) (w : AV) (r : Rt AV) (st' : St) : Prop := ∃ v, r = .ok v ∧ Grow st st' ∧ v.fin st.I.length = w
structure C33 (st0 : St) (q : T) (fs : List Fn) (bv : AV) (s : List AV) (st : St) : Prop where
 sl : s.length = 129
 e3 : lk s 3 = .ptr (st0.H.length + 1) 0
 e6 : lk s 6 = .sl none fs.length (encFs fs)
 e7 : lk s 7 = .ptr (st0.H.length + 2) 0
 e10 : lk s 10 = .ptr (st0.H.length + 3) 0
 h1 : st.H[st0.H.length + 1]? = some (.cells 49 [.int .i64 0, .nils, .nils])
 h2 : st.H[st0.H.length + 2]? = some (.cells 24 q.enc)
 h3 : st.H[st0.H.length + 3]? = some (.cells 80 [.sl none fs.length (encFs fs), bv, .nils])
 old : ∀ j, j < st0.H.length → st.H[j]? = st0.H[j]?
 io : IOld st0.I.length st0.I st.I
theorem C33.len {st0 q fs bv s st} (h : C33 st0 q fs bv s st) : st0.H.length + 4 ≤ st.H.length := by have := (List.getElem?_eq_some_iff.1 h.h3).1; omega
theorem C33.next {st0 q fs bv s st s' st'} (h : C33 st0 q fs bv s st) (hs : s'.length = 129) (hsl : ∀ i, i = 3 ∨ i = 6 ∨ i = 7 ∨ i = 10 → lk s' i = lk s i) (hH : ∀ j, j < st0.H.length + 4 → st'.H[j]? = st.H[j]?) (hI : IOld st0.I.length st.I st'.I) : C33 st0 q fs bv s' st' :=
 ⟨hs, (hsl 3 (by omega)).trans h.e3, (hsl 6 (by omega)).trans h.e6, (hsl 7 (by omega)).trans h.e7, (hsl 10 (by omega)).trans h.e10, (hH _ (by omega)).trans h.h1, (hH _ (by omega)).trans h.h2, (hH _ (by omega)).trans h.h3, fun j hj => (hH j (by omega)).trans (h.old j hj), h.io.trans hI⟩
theorem C33.wf {E : Env} {st0 q fs bv s st} (hE : E.Wf st0) (h : C33 st0 q fs bv s st) : E.Wf st := hE.of (H := st.H) (I := st.I) (by have := h.len; omega) h.io.len
theorem Grow.of33 {st0 : St} {st' : St} (h1 : ∀ j, j < st0.H.length → st'.H[j]? = st0.H[j]?) (hl : st0.H.length ≤ st'.H.length) (h2 : IOld st0.I.length st0.I st'.I) : Grow st0 st' :=
 ⟨pre_of hl fun j x e => by rw [h1 j (List.getElem?_eq_some_iff.1 e).1]; exact e, pre_of h2.len fun j x e => h2.get j x (List.getElem?_eq_some_iff.1 e).1 e⟩
theorem f33e {E : Env} {st0 st : St} (hE : E.Wf st0) (q : T) (fs : List Fn) (bs : List Int) (o : Option Nat) (s : List AV) (h : C33 st0 q fs (.sl o bs.length (bs.map (.int .i64))) s st) (V : Nat) (hV0 : st0.H.length + 4 ≤ V) (e14 : lk s 14 = .ptr V 0) (sets : Int) (fv : AV) (F : List FS)
    (hV : st.H[V]? = some (.cells 49 [.int .i64 sets, fv, .nils])) (hac : AccX E st.I F fv) (how : ∀ j, owns fv = some j → st0.I.length ≤ j) (x0 : FS) (hx0 : F[0]? = some x0) (hqw : q.wt ≤ 1000000000) (hvs : ∀ G ∈ fs, G.vars.length ≤ 500) (hRW : RW fs bs 0 q) (k : Nat) (hk : 20 * q.wt + 1200 ≤ k) :
    WP (aCall prog k) E k none y33e s [] st (endQ res33 (Pur st0 (rulV (fs, (sets, F, rT fs bs q 0 0 x0.throw true), 0, 0)))) := by
  obtain ⟨hs, e3, e6, e7, e10, h1, h2, h3, hold, hio⟩ := h
  have hVl := (List.getElem?_eq_some_iff.1 hV).1
  have hEs : E.Wf st := hE.of (H := st.H) (I := st.I) (by omega) hio.len
  have hmw := mayWrite_new hE
  have hmw1 : ∀ x y, mayWrite E (st0.H.length + 1) x y = true := fun x y => hmw _ _ _ (by omega)
  have hmwV : ∀ x y, mayWrite E V x y = true := fun x y => hmw _ _ _ (by omega)
  have hS : MkS E (st0.H.length + 3) fs bs o none [] .nils st := ⟨hEs, by have := hE.base; omega, by have := hE.rob; omega, ⟨h3, .inl ⟨rfl, rfl⟩⟩, by simp⟩
  have hcw := count_wt q
  have c52 := spec52 q.wt q (Nat.le_refl _) (by omega) hS hvs 0 x0.throw 0 true (Int.le_refl _) (by omega) (by simp; omega) hRW k (by omega)
  have hF0 := encFS_at hx0 4 (by omega)
  have hF0 : (encFS F)[4]? = some (.int .i64 x0.throw) := by simpa [FS.enc] using hF0
  have hF1 := (List.getElem?_eq_some_iff.1 hF0).2
  have hF2 := (List.getElem?_eq_some_iff.1 hF0).1
  have hFl : 0 < F.length := (List.getElem?_eq_some_iff.1 hx0).1
  obtain ⟨i, rfl, hi1, hi2⟩ : ∃ i, fv = .sl (some i) F.length (encFS F) ∧ E.rom ≤ i ∧ st.I[i]? = some (F.length, 5) := by
    rcases hac with ⟨e, -⟩ | ⟨-, i, x⟩
    · rw [e] at hFl; simp at hFl
    · exact ⟨i, x⟩
  have hi3 := how i rfl
  have hi4 : ¬ i < st0.I.length := by omega
  have hqe := T.enc_eq q
  rw [hqe] at h2 c52
  unfold y33e
  simp only [Int.natCast_zero] at c52
  simp [Nat.testBit, hs, e3, e6, e7, e10, e14, h2, hV, hF0, hF1, hF2, hFl, fillA, wrC, isEff]
  refine obP_intro c52 fun p hp => ?_
  obtain ⟨r, st9⟩ := p
  obtain ⟨r1, r2⟩ := hp
  simp only at r1
  subst r1
  have r2 : MkTo E (st0.H.length + 3) (.sl none fs.length (encFs fs)) (.sl o bs.length (bs.map (.int .i64))) .nils st st9 ([] ++ rT fs bs q 0 0 x0.throw true) := r2
  obtain ⟨⟨rv', ⟨z1, z2⟩, z3⟩, z4, z5, z6⟩ := r2
  have zV : st9.H[V]? = _ := (z4 V hVl (by omega)).trans hV
  have zL : st9.H[st0.H.length + 1]? = _ := (z4 _ (by omega) (by omega)).trans h1
  have hro := z2.one
  have hrc := z2.cells
  have hrf : rv'.fin st0.I.length = .sl none (rT fs bs q 0 0 x0.throw true).length (encR (rT fs bs q 0 0 x0.throw true)) := by
    rcases z2 with ⟨e, rfl⟩ | ⟨j, rfl, hj, hx⟩
    · simp only [List.nil_append] at e; rw [e]; rfl
    · have : ¬ j < st0.I.length := by
        rcases z3 with z3 | ⟨j', z3, z3'⟩
        · simp [owns] at z3
        · simp [owns] at z3; have := hio.len; omega
      simp [this, encR_fin]
  have n1 : V ≠ st0.H.length + 1 := by omega
  have hl9 : st0.H.length + 1 < st9.H.length := by omega
  have a1 : ∀ x, (st9.H.set V x)[st0.H.length + 1]? = some (.cells 49 [.int .i64 0, .nils, .nils]) := fun x => by rw [List.getElem?_set_ne n1]; exact zL
  have a2 : ∀ x, (st9.H.set V x)[V]? = some x := fun x => List.getElem?_set_self (by omega)
  have a3 : ∀ x y, ((st9.H.set V x).set (st0.H.length + 1) y)[st0.H.length + 1]? = some y := fun x y => List.getElem?_set_self (by simp; omega)
  have hg : ∀ x y, Grow st0 ⟨(st9.H.set V x).set (st0.H.length + 1) y, st9.I⟩ := fun x y => .of33 (fun j hj => by
    show (List.set _ _ _)[_]? = _
    rw [List.getElem?_set_ne (by omega), List.getElem?_set_ne (by omega), z4 j (by omega) (by omega)]; exact hold j hj) (by simp; omega) (hio.trans ⟨z6.len, fun j x _ e => z6.get j x nofun e⟩)
  simp [Nat.testBit, hs, isEff, e10, e14, z1, zV, storeA, hmwV, hro, hrc, wrC]
  simp [Nat.testBit, hs, e3, e6, e14, a1, a2, a3, storeA, hmw1, hro, hrc, wrC, isEff]
  exact ⟨_, rfl, hg _ _, by simp [rulV, encFS_fin, hrf, hi4]⟩
theorem f33d {E : Env} {st0 st : St} (hE : E.Wf st0) (q : T) (fs : List Fn) (a : Int) (ha : 0 ≤ a ∧ a ≤ 10000000000) (hfl : fs.length ≤ 1000) (hf0 : 0 < fs.length) (o : Option Nat) (s : List AV) (h : C33 st0 q fs (.sl o (baseL a fs).length ((baseL a fs).map (.int .i64))) s st) (V : Nat) (hV0 : st0.H.length + 4 ≤ V) (e14 : lk s 14 = .ptr V 0) (sets : Int)
    (hV : st.H[V]? = some (.cells 49 [.int .i64 sets, .nils, .nils])) (hqw : q.wt ≤ 1000000000) (hvs : ∀ G ∈ fs, G.vars.length ≤ 500) (hps : ∀ G ∈ fs, G.params ≤ 500) (hRW : RW fs (baseL a fs) 0 q) (k : Nat) (hk : 20 * q.wt + 2000 ≤ k) :
    WP (aCall prog k) E k none y33d s [] st (endQ res33 (Pur st0 (rulV (fs, (sets, fsL a fs, rT fs (baseL a fs) q 0 0 (behV fs (baseL a fs) 0 + 2) true), 0, 0)))) := by
  have hmwV : ∀ x y, mayWrite E V x y = true := fun x y => mayWrite_new hE _ _ _ (by omega)
  unfold y33d
  simp [h.sl, h.e6]
  refine WP_loop (fun n s' m' st' => ∃ (j : Nat) (fv : AV), j ≤ fs.length ∧ n = fs.length - j ∧ m' = [] ∧ C33 st0 q fs (.sl o (baseL a fs).length ((baseL a fs).map (.int .i64))) s' st' ∧ lk s' 14 = .ptr V 0 ∧ lk s' 66 = .sl none fs.length (encFs fs) ∧ lk s' 67 = .int .i64 fs.length ∧ lk s' 68 = .int .i64 j ∧
      st'.H[V]? = some (.cells 49 [.int .i64 sets, fv, .nils]) ∧ AccX E st'.I (fsL a (fs.take j)) fv ∧ (∀ j, owns fv = some j → st0.I.length ≤ j)) fs.length (by omega)
    ⟨0, .nils, by omega, by omega, rfl, h.next (by simp [h.sl]) (fun i hi => by rcases hi with rfl | rfl | rfl | rfl <;> simp [h.sl]) (fun _ _ => rfl) (.refl _ _), by simp [h.sl, e14], by simp [h.sl], by simp [h.sl], by simp [h.sl], hV, .inl ⟨rfl, rfl⟩, fun j e => by simp [owns] at e⟩ ?_
  rintro _ s' m' st' ⟨j, fv, hj, rfl, rfl, hC, e14, e66, e67, e68, hV, hac, how⟩
  clear h
  by_cases hc : j < fs.length
  · obtain ⟨f, hg⟩ : ∃ f, fs[j]? = some f := ⟨_, List.getElem?_eq_getElem hc⟩
    have hfm := List.mem_of_getElem? hg
    have hbe := baseE_le fs a j hvs
    refine rnd33b (hC.wf hE) st0.I.length hC.io.len (st0.H.length + 3) V hmwV s' hC.sl fs (baseL a fs) o .nils fv (.int .i64 sets) .nils _ j f hg (by omega) (baseE a (fs.take j)) (baseL_at fs a j hc) (by omega) (by have := hps f hfm; omega) (by have := hvs f hfm; omega) hC.e10 e14 e66 e67 e68 hC.h3 hV hac how (by rw [fsL_len]; simp; omega) _ k (by omega) _ ?_
    intro s2 st2 fv' r1 r2 r3 r4 r5 r6 r7 r8 r9
    have hl := hC.len
    exact ⟨_, by omega, j + 1, fv', by omega, rfl, rfl, hC.next r1 (fun i hi => r2 i (by omega)) (fun q hq => r7 q (by omega) (by omega)) r9, by rw [r2 14 (by omega)]; exact e14, by rw [r2 66 (by omega)]; exact e66, by rw [r2 67 (by omega)]; exact e67, r3, r4, by rw [fsL_snoc fs a j f hg]; exact r5, r6⟩
  have : j = fs.length := by omega
  subst this
  rw [List.take_length] at hac
  obtain ⟨G0, hG0⟩ : ∃ G, fs[0]? = some G := ⟨_, List.getElem?_eq_getElem hf0⟩
  have hx0 : (fsL a fs)[0]? = some (fsF a G0) := by
    obtain ⟨g, r, rfl⟩ := List.exists_cons_of_length_pos hf0
    simp at hG0; subst hG0
    simp [fsL]
  have hth : (fsF a G0).throw = behV fs (baseL a fs) 0 + 2 := by
    have hb0 : (baseL a fs)[0]? = some a := by rw [baseL_at fs a 0 hf0]; simp [baseE]
    simp [behV, hb0, hG0, fsF]
  have hend := f33e hE q fs (baseL a fs) o (s'.set 69 (.bool false)) (hC.next (by simp [hC.sl]) (fun i hi => by rcases hi with rfl | rfl | rfl | rfl <;> simp [hC.sl]) (fun _ _ => rfl) (.refl _ _)) V hV0 (by simp [hC.sl, e14]) sets fv (fsL a fs) hV hac how _ hx0 hqw hvs hRW k (by omega)
  rw [hth] at hend
  unfold l33b
  simp [hC.sl, e67, e68]
  exact hend
theorem f33c {E : Env} {st0 st : St} (hE : E.Wf st0) (q : T) (fs : List Fn) (a : Int) (ha : 0 ≤ a ∧ a ≤ 10000000000) (hfl : fs.length ≤ 1000) (hf0 : 0 < fs.length) (o : Option Nat) (s : List AV) (h : C33 st0 q fs (.sl o (baseL a fs).length ((baseL a fs).map (.int .i64))) s st) (e11 : lk s 11 = .int .i64 (baseE a fs))
  (hqw : q.wt ≤ 1000000000) (hvs : ∀ G ∈ fs, G.vars.length ≤ 500) (hps : ∀ G ∈ fs, G.params ≤ 500) (hRW : RW fs (baseL a fs) 0 q) (k : Nat) (hk : 20 * q.wt + 2000 ≤ k) :
  WP (aCall prog k) E k none y33c s [] st (endQ res33 (Pur st0 (rulV (if 100000 < baseE a fs + 9 then ([], (0, [], []), 0, 52) else (fs, (baseE a fs + 9, fsL a fs, rT fs (baseL a fs) q 0 0 (behV fs (baseL a fs) 0 + 2) true), 0, 0))))) := by
 have hEs := h.wf hE
 have hl := h.len
 have hmw := mayWrite_new hEs
 have hmw1 : ∀ x y, mayWrite E (st0.H.length + 1) x y = true := fun x y => mayWrite_new hE _ _ _ (by omega)
 have hbe := baseE_le fs a fs.length hvs
 rw [List.take_length] at hbe
 have hw9 := wrap64 (n := baseE a fs + 9) (by omega)
 have a1 : ∀ x, (st.H ++ x)[st0.H.length + 1]? = some (.cells 49 [.int .i64 0, .nils, .nils]) := fun x => getE_old h.h1
 by_cases hc : 100000 < baseE a fs + 9
 ·rw [if_pos hc]
  have a3 : ∀ x y, ((st.H ++ x).set (st0.H.length + 1) y)[st0.H.length + 1]? = some y := fun x y => List.getElem?_set_self (by simp; omega)
  have hg : ∀ x y, Grow st0 ⟨(st.H ++ x).set (st0.H.length + 1) y, st.I⟩ := fun x y => .of33 (fun j hj => by
   show (List.set _ _ _)[_]? = _
   rw [List.getElem?_set_ne (by omega), List.getElem?_append_left (by omega)]; exact h.old j hj) (by simp; omega) h.io
  unfold y33c
  simp [h.sl, h.e3, e11, hw9, fillA, wrC, storeA, hmw, hc, a1, hmw1, a3]
  exact ⟨_, rfl, hg _ _, by simp [rulV, encFS, encR, encFs]⟩
 ·rw [if_neg hc]
  unfold y33c
  simp [h.sl, h.e3, e11, hw9, fillA, wrC, storeA, hmw, hc]
  refine f33d hE q fs a ha hfl hf0 o _ ?_ st.H.length hl ?_ _ ?_ hqw hvs hps hRW k hk
  ·exact h.next (by simp [h.sl]) (fun i hi => by rcases hi with rfl | rfl | rfl | rfl <;> simp [h.sl]) (fun j hj => by show (_ ++ _)[_]? = _; rw [List.getElem?_append_left (by omega)]) (.refl _ _)
  ·simp [h.sl]
  ·simp
theorem f33b {E : Env} {st0 st : St} (hE : E.Wf st0) (q : T) (fs : List Fn) (a : Int) (ha : 0 ≤ a ∧ a ≤ 10000000000) (hfl : fs.length ≤ 1000) (hf0 : 0 < fs.length) (s : List AV) (h : C33 st0 q fs .nils s st) (e11 : lk s 11 = .int .i64 a)
    (hqw : q.wt ≤ 1000000000) (hvs : ∀ G ∈ fs, G.vars.length ≤ 500) (hps : ∀ G ∈ fs, G.params ≤ 500) (hRW : RW fs (baseL a fs) 0 q) (k : Nat) (hk : 20 * q.wt + 2000 ≤ k) :
    WP (aCall prog k) E k none y33b s [] st (endQ res33 (Pur st0 (rulV (if 100000 < baseE a fs + 9 then ([], (0, [], []), 0, 52) else (fs, (baseE a fs + 9, fsL a fs, rT fs (baseL a fs) q 0 0 (behV fs (baseL a fs) 0 + 2) true), 0, 0))))) := by
  have hmw3 : ∀ x y, mayWrite E (st0.H.length + 3) x y = true := fun x y => mayWrite_new hE _ _ _ (by omega)
  unfold y33b
  simp [h.sl, h.e6]
  refine WP_loop (fun n s' m' st' => ∃ (j : Nat) (bv : AV), j ≤ fs.length ∧ n = fs.length - j ∧ m' = [] ∧ C33 st0 q fs bv s' st' ∧ lk s' 11 = .int .i64 (baseE a (fs.take j)) ∧ lk s' 36 = .sl none fs.length (encFs fs) ∧ lk s' 37 = .int .i64 fs.length ∧ lk s' 38 = .int .i64 j ∧
      AccI E st'.I (baseL a (fs.take j)) bv ∧ (∀ j, owns bv = some j → st0.I.length ≤ j)) fs.length (by omega)
    ⟨0, .nils, by omega, by omega, rfl, h.next (by simp [h.sl]) (fun i hi => by rcases hi with rfl | rfl | rfl | rfl <;> simp [h.sl]) (fun _ _ => rfl) (.refl _ _), by simp [h.sl, e11, baseE], by simp [h.sl], by simp [h.sl], by simp [h.sl], .inl ⟨rfl, rfl⟩, fun j e => by simp [owns] at e⟩ ?_
  rintro _ s' m' st' ⟨j, bv, hj, rfl, rfl, hC, e11, e36, e37, e38, hac, how⟩
  clear h
  by_cases hc : j < fs.length
  · obtain ⟨f, hg⟩ : ∃ f, fs[j]? = some f := ⟨_, List.getElem?_eq_getElem hc⟩
    have hfm := List.mem_of_getElem? hg
    have hbe := baseE_le fs a j hvs
    refine rnd33a (hC.wf hE) st0.I.length hC.io.len (st0.H.length + 3) 0 hmw3 s' hC.sl fs _ _ bv .nils j f hg (by omega) hC.e10 e11 e36 e37 e38 hC.h3 hac how (by rw [baseL_len]; simp; omega) (by omega) (hvs f hfm) _ k _ ?_
    intro s2 st2 bv' r1 r2 r3 r4 r5 r6 r7 r8 r9 r10 r11 r12
    have hl := hC.len
    refine ⟨_, by omega, j + 1, bv', by omega, rfl, rfl, ?_, by rw [baseE_snoc fs a j f hg]; exact r3, r4.trans e36, r5.trans e37, r6, by rw [baseL_snoc fs a j f hg]; exact r8, r9⟩
    exact ⟨r1, (r2 3 (by omega)).trans hC.e3, (r2 6 (by omega)).trans hC.e6, (r2 7 (by omega)).trans hC.e7, (r2 10 (by omega)).trans hC.e10, by rw [r10 _ (by omega) (by omega)]; exact hC.h1, by rw [r10 _ (by omega) (by omega)]; exact hC.h2, r7, fun i hi => by rw [r10 i (by omega) (by omega)]; exact hC.old i hi, hC.io.trans r12⟩
  have : j = fs.length := by omega
  subst this
  rw [List.take_length] at hac e11
  have hbl := baseL_len a fs
  obtain ⟨i, rfl⟩ : ∃ i, bv = .sl (some i) (baseL a fs).length ((baseL a fs).map (.int .i64)) := by
    rcases hac with ⟨e, -⟩ | ⟨-, i, e, -, -⟩
    · rw [e] at hbl; simp at hbl; omega
    · exact ⟨i, e⟩
  have hend := f33c hE q fs a ha hfl hf0 (some i) (s'.set 39 (.bool false)) (hC.next (by simp [hC.sl]) (fun i hi => by rcases hi with rfl | rfl | rfl | rfl <;> simp [hC.sl]) (fun _ _ => rfl) (.refl _ _)) (by simp [hC.sl, e11]) hqw hvs hps hRW k hk
  unfold l33a
  simp [hC.sl, e37, e38]
  exact hend
theorem f33 (t : T) (ht : t.ok) (hw : t.wt ≤ 1000000000) (hqw : (resolve t).2.1.wt ≤ 1000000000) (hfl : (resolve t).1.length ≤ 1000) (hf0 : (resolve t).2.2.2 = 0 → 0 < (resolve t).1.length) (hvs : ∀ G ∈ (resolve t).1, G.vars.length ≤ 500) (hps : ∀ G ∈ (resolve t).1, G.params ≤ 500)
  (hRW : (resolve t).2.2.2 = 0 → RW (resolve t).1 (baseL ((resolve t).2.1.count : Nat) (resolve t).1) 0 (resolve t).2.1) (k : Nat) (hk : 20 * t.wt + 20 * (resolve t).2.1.wt + 10000 ≤ k) : PureC k 33 [.agg t.enc] (rulV (rulesM t)) := by
 intro E st hE
 obtain ⟨k, rfl⟩ : ∃ k', k = k' + 1 := ⟨k - 1, by omega⟩
 have hmw := mayWrite_new hE
 have hmw1 : ∀ j x y, mayWrite E (st.H.length + j) x y = true := fun j x y => hmw _ _ _ (by omega)
 have hrr : (resV (resolve t)).refs = [] := by simp [resV, encFs_refs, T.enc_refs]
 have c20 := fun st3 (h : E.Wf st3) => (f20 t ht (by omega) k (by omega)).full (E := E) (st := st3) hrr h
 have hcw := count_wt (resolve t).2.1
 unfold rulesM
 generalize resolve t = R at *
 obtain ⟨fs, q, x, y⟩ := R
 simp only at *
 have c50 := fun st3 (h : E.Wf st3) => (f50 q (by omega) k (by omega)).full (E := E) (st := st3) rfl h
 obtain ⟨op, s0, nn, l, line⟩ := t
 have hqe := T.enc_eq q
 simp only [T.enc, resV] at c20
 rw [hqe] at c20 c50
 refine call_in1 (c0 := y33a) rfl rfl (by decide) fun s hs e0 => ?_
 have hE1 : ∀ y, E.Wf ⟨st.H ++ y, st.I⟩ := fun y => hE.of (by simp) (by simp)
 unfold y33a
 by_cases hy : y = 0
 ·subst hy
  simp [hs, e0, c20 _ (hE1 _), storeA, hmw1, wrC, fillA, c50 _ (hE1 _)]
  refine f33b hE q fs (q.count : Nat) (by omega) hfl (hf0 rfl) _ ?_ ?_ hqw hvs hps (hRW rfl) k (by omega)
  ·exact ⟨by simp [hs], by simp [hs], by simp [hs], by simp [hs], by simp [hs], by simp, by simp [hqe], by simp, fun j hj => List.getElem?_append_left hj, .refl _ _⟩
  ·simp [hs]
 ·simp [hs, e0, c20 _ (hE1 _), storeA, hmw1, wrC, fillA, hy]
  exact ⟨Grow.appH _ _, by simp [rulV, encFS, encR, encFs]⟩
mutual
theorem wT_errL (at_ : Nat) (loop : Bool) : ∀ (t : T) (w : Wk), w.e ≠ 0 → wT at_ loop t w = (t, w)
 | .mk op s n l x, w, h => by simp only [wT, if_pos h]
end
theorem wL_errL (at_ : Nat) (loop : Bool) : ∀ (l : List T) (w : Wk), w.e ≠ 0 → (wL at_ loop l w).2 = w
 | [], w, _ => rfl
 | t :: r, w, h => by simp only [wL, wT_errL at_ loop t w h, wL_errL at_ loop r w h]
theorem fail_e (w : Wk) (e x : Int) (he : e ≠ 0) : (w.fail e x).e ≠ 0 := by
 unfold Wk.fail; split
 ·exact he
 ·assumption
theorem fail_fsL (w : Wk) (e x : Int) : (w.fail e x).fs = w.fs := by unfold Wk.fail; split <;> rfl
theorem fail_markL (w : Wk) (e x : Int) : (w.fail e x).mark = w.mark := by unfold Wk.fail; split <;> rfl
theorem stepN_fs (at_ : Nat) (loop : Bool) (op : Int) (s : ByteArray) (n x : Int) (w : Wk) : (stepN at_ loop op s n x w).2.2.fs = w.fs := by
 unfold stepN
 repeat' (first | split | (simp only []; split))
 all_goals first | rfl | simp [fail_fsL]
theorem stepN_mark (at_ : Nat) (loop : Bool) (op : Int) (s : ByteArray) (n x : Int) (w : Wk) : (stepN at_ loop op s n x w).2.2.mark = if op = 11 ∨ op = 16 ∨ op = 15 then w.mark + 1 else w.mark := by
 by_cases h1 : op = 1
 ·subst h1; simp only [stepN, if_true]; split <;> simp [fail_markL]
 by_cases h2 : op = 30 ∨ op = 35 ∨ op = 38
 ·have : ¬ (op = 11 ∨ op = 16 ∨ op = 15) := by omega
  simp only [stepN, if_neg h1, if_pos h2, if_neg this]
 by_cases h3 : op = 11 ∨ op = 16 ∨ op = 15
 ·simp only [stepN, if_neg h1, if_neg h2, if_pos h3]
 simp only [stepN, if_neg h1, if_neg h2, if_neg h3]
 repeat' split
 all_goals simp [fail_markL]
mutual
theorem wT_pfx (at_ : Nat) (loop : Bool) : ∀ (t : T) (w : Wk), w.fs <+: (wT at_ loop t w).2.fs
 | .mk op s n l x, w => by
  simp only [wT]
  split
  ·exact List.prefix_rfl
  ·split
   ·split
    ·rw [fail_fsL]; exact List.prefix_rfl
    ·exact (List.prefix_append w.fs [fnOf' op s l at_ w.mark]).trans (wP_pfx w.fs.length l { w with mark := w.mark + 2, fs := w.fs ++ [fnOf' op s l at_ w.mark] })
   ·have := wL_pfx at_ ((stepN at_ loop op s n x w).2.1 || decide (op = 35)) l (stepN at_ loop op s n x w).2.2
    rw [stepN_fs] at this; exact this
theorem wL_pfx (at_ : Nat) (loop : Bool) : ∀ (l : List T) (w : Wk), w.fs <+: (wL at_ loop l w).2.fs
 | [], w => List.prefix_rfl
 | t :: r, w => (wT_pfx at_ loop t w).trans (wL_pfx at_ loop r _)
theorem wP_pfx (me : Nat) : ∀ (l : List T) (w : Wk), w.fs <+: (wP me l w).2.fs
 | [], w => List.prefix_rfl
 | [t], w => by simp only [wP]; exact wT_pfx me false t w
 | t :: u :: r, w => by simp only [wP]; exact wP_pfx me (u :: r) w
end
theorem pfx_get {α : Type} {a b : List α} (h : a <+: b) {i : Nat} {x : α} (e : a[i]? = some x) : b[i]? = some x := by
 obtain ⟨t, rfl⟩ := h
 rw [List.getElem?_append_left (List.getElem?_eq_some_iff.1 e).1, e]
def isVr (op : Int) : Bool := decide (op = 1) || decide (op = 30) || decide (op = 35) || decide (op = 38)
def VarOk (fs : List Fn) (n : Int) (s : ByteArray) : Prop := 0 ≤ n ∧ ∃ f, fs[(n / 1000).toNat]? = some f ∧ f.vars[(n % 1000).toNat]? = some s
def FunOk (fs : List Fn) (n : Int) (s : ByteArray) : Prop := 1 ≤ n ∧ ∃ f, fs[n.toNat]? = some f ∧ f.name = s
mutual
def goodT (fs : List Fn) : T → Prop
 | .mk op s n l _ => (isVr op = true → VarOk fs n s) ∧ (isFn op = true → FunOk fs n s) ∧ goodL fs l
def goodL (fs : List Fn) : List T → Prop
 | [] => True
 | t :: r => goodT fs t ∧ goodL fs r
end
theorem VarOk.mono {fs fs' : List Fn} (h : fs <+: fs') {n s} (v : VarOk fs n s) : VarOk fs' n s := by
 obtain ⟨h1, f, h2, h3⟩ := v; exact ⟨h1, f, pfx_get h h2, h3⟩
theorem FunOk.mono {fs fs' : List Fn} (h : fs <+: fs') {n s} (v : FunOk fs n s) : FunOk fs' n s := by
 obtain ⟨h1, f, h2, h3⟩ := v; exact ⟨h1, f, pfx_get h h2, h3⟩
mutual
theorem goodT.mono {fs fs' : List Fn} (h : fs <+: fs') : ∀ t, goodT fs t → goodT fs' t
 | .mk op s n l x, g => ⟨fun e => (g.1 e).mono h, fun e => (g.2.1 e).mono h, goodL.mono h l g.2.2⟩
theorem goodL.mono {fs fs' : List Fn} (h : fs <+: fs') : ∀ l, goodL fs l → goodL fs' l
 | [], _ => trivial
 | t :: r, g => ⟨goodT.mono h t g.1, goodL.mono h r g.2⟩
end
structure WR (w : Wk) : Prop where
 four : 4 ≤ w.mark
 each : ∀ (i : Nat) (f : Fn), w.fs[i]? = some f → f.around < i ∧ -1 ≤ f.around ∧ (0 < i → 0 ≤ f.around ∧ 4 ≤ f.mark) ∧ f.params ≤ f.vars.length ∧ f.vars.length ≤ 200 ∧ f.mark < w.mark
 rise : ∀ (i : Nat) (f g : Fn), w.fs[i]? = some f → w.fs[i + 1]? = some g → f.mark < g.mark
theorem WR.more {w w' : Wk} (h : WR w) (h1 : w'.fs = w.fs) (h2 : w.mark ≤ w'.mark) : WR w' := by
 refine ⟨Nat.le_trans h.four h2, fun i f e => ?_, fun i f g => by rw [h1]; exact h.rise i f g⟩
 rw [h1] at e
 obtain ⟨a, b, c, d, x, y⟩ := h.each i f e
 exact ⟨a, b, c, d, x, by omega⟩
theorem ixS_get (s : ByteArray) : ∀ (l : List ByteArray) (i : Nat), ixS s l = some i → l[i]? = some s
 | [], i, h => by simp [ixS] at h
 | w :: r, i, h => by
  simp only [ixS] at h
  split at h
  ·rename_i e; cases h; simp [e]
  ·cases hr : ixS s r with
   | none => simp [hr] at h
   | some j => simp [hr] at h; subst h; simpa using ixS_get s r j hr
theorem varF_ok {fs : List Fn} (hfs : ∀ (i : Nat) (f : Fn), fs[i]? = some f → f.vars.length ≤ 200) (s : ByteArray) : ∀ (n : Nat) (at_ : Int), 0 ≤ varF fs n at_ s → VarOk fs (varF fs n at_ s) s
 | 0, at_, h => by simp [varF] at h
 | n + 1, at_, h => by
  simp only [varF] at h ⊢
  split at h
  ·omega
  ·rename_i ha
   rw [if_neg ha]
   cases hf : fs[at_.toNat]? with
   | none => simp [hf] at h
   | some f =>
    simp only [hf] at h ⊢
    cases hi : ixS s f.vars with
    | none => simp only [hi] at h ⊢; exact varF_ok hfs s n f.around h
    | some i =>
     simp only [hi] at h ⊢
     have hg := ixS_get s _ _ hi
     have hl := (List.getElem?_eq_some_iff.1 hg).1
     have := hfs _ f hf
     refine ⟨h, f, ?_, ?_⟩
     ·rw [show (1000 * at_ + (i : Int)) / 1000 = at_ by omega]; exact hf
     ·rw [show ((1000 * at_ + (i : Int)) % 1000).toNat = i by omega]; exact hg
theorem varNo_ok {w : Wk} (h : WR w) (s : ByteArray) (at_ : Int) (hv : 0 ≤ varNo w.fs at_ s) : VarOk w.fs (varNo w.fs at_ s) s :=
 varF_ok (fun i f e => (h.each i f e).2.2.2.2.1) s _ _ hv
def InV (fs : List Fn) (at_ : Nat) (s : ByteArray) : Prop := ∃ f, fs[at_]? = some f ∧ s ∈ f.vars
theorem InV.mono {fs fs' : List Fn} (h : fs <+: fs') {at_ s} (v : InV fs at_ s) : InV fs' at_ s := by
 obtain ⟨f, h1, h2⟩ := v; exact ⟨f, pfx_get h h1, h2⟩
theorem varNo_in {fs : List Fn} {at_ : Nat} {s : ByteArray} (h : InV fs at_ s) : 0 ≤ varNo fs at_ s := by
 obtain ⟨f, h1, h2⟩ := h
 have h3 := ixS_mem s f.vars
 simp only [h2, decide_true, Option.isSome_iff_exists] at h3
 obtain ⟨i, hi⟩ := h3
 have : ((at_ : Int) + 1).toNat = at_ + 1 := by omega
 simp only [varNo, this, varF, Int.toNat_natCast, h1, hi]
 rw [if_neg (by omega)]
 omega
theorem withS_sub {l : List ByteArray} {s x : ByteArray} (h : x ∈ l) : x ∈ withS l s := by
 unfold withS; split
 ·exact h
 ·simp [h]
theorem withS_self (l : List ByteArray) (s : ByteArray) : s ∈ withS l s := by
 unfold withS; split
 ·assumption
 ·simp
theorem withS_ge (l : List ByteArray) (s : ByteArray) : l.length ≤ (withS l s).length := by
 unfold withS; split <;> simp
mutual
theorem decT_sub : ∀ (t : T) (out : List ByteArray) (x : ByteArray), x ∈ out → x ∈ decT t out
 | .mk op s n l y, out, x, h => by
  simp only [decT]
  have h1 : x ∈ (if isDec op = true then withS out s else out) := by split; exact withS_sub h; exact h
  split
  ·exact h1
  ·exact decL_sub l _ x h1
theorem decL_sub : ∀ (l : List T) (out : List ByteArray) (x : ByteArray), x ∈ out → x ∈ decL l out
 | [], out, x, h => h
 | t :: r, out, x, h => decL_sub r _ x (decT_sub t out x h)
end
mutual
theorem decT_ge : ∀ (t : T) (out : List ByteArray), out.length ≤ (decT t out).length
 | .mk op s n l y, out => by
  simp only [decT]
  have h1 : out.length ≤ (if isDec op = true then withS out s else out).length := by split; exact withS_ge _ _; exact Nat.le_refl _
  split
  ·exact h1
  ·exact Nat.le_trans h1 (decL_ge l _)
theorem decL_ge : ∀ (l : List T) (out : List ByteArray), out.length ≤ (decL l out).length
 | [], out => Nat.le_refl _
 | t :: r, out => Nat.le_trans (decT_ge t out) (decL_ge r _)
end
theorem params_sub : ∀ (l : List T) (o : List ByteArray) (x : ByteArray), (x ∈ o ∨ ∃ u ∈ l, u.s = x) → x ∈ l.foldl (fun o x => withS o x.s) o
 | [], o, x, h => by simpa using h
 | t :: r, o, x, h => by
  simp only [List.foldl_cons]
  refine params_sub r _ x ?_
  rcases h with h | ⟨u, hu, rfl⟩
  ·exact .inl (withS_sub h)
  ·rcases List.mem_cons.1 hu with rfl | hu
   ·exact .inl (withS_self _ _)
   ·exact .inr ⟨u, hu, rfl⟩
theorem fn_vars (op : Int) (s : ByteArray) (l : List T) (at_ : Int) (mark : Nat) : (∀ u ∈ l.dropLast, u.s ∈ (fnOf' op s l at_ mark).vars) ∧ (∃ out, (fnOf' op s l at_ mark).vars = decT (l.getLast?.getD default) out) ∧ (fnOf' op s l at_ mark).params ≤ (fnOf' op s l at_ mark).vars.length := by
 have h1 : ∀ x, x ∈ paramsOf l → x ∈ (fnOf' op s l at_ mark).vars := fun x hx => by
  simp only [fnOf']
  refine decT_sub _ _ _ ?_
  split
  ·exact withS_sub hx
  ·exact hx
 refine ⟨fun u hu => h1 _ (params_sub _ _ _ (.inr ⟨u, hu, rfl⟩)), ⟨_, rfl⟩, ?_⟩
 simp only [fnOf']
 refine Nat.le_trans ?_ (decT_ge _ _)
 split
 ·exact withS_ge _ _
 ·exact Nat.le_refl _
theorem WR.push {w : Wk} (h : WR w) (op : Int) (s : ByteArray) (l : List T) (at_ : Nat) (ha : at_ < w.fs.length) (hv : (fnOf' op s l at_ w.mark).vars.length ≤ 200) :
  WR { w with mark := w.mark + 2, fs := w.fs ++ [fnOf' op s l at_ w.mark] } := by
 have hp := (fn_vars op s l at_ w.mark).2.2
 refine ⟨by have := h.four; simp only; omega, fun i f e => ?_, fun i f g e1 e2 => ?_⟩
 ·simp only at e ⊢
  rcases Nat.lt_trichotomy i w.fs.length with hi | hi | hi
  ·rw [List.getElem?_append_left hi] at e
   obtain ⟨a, b, c, d, x, y⟩ := h.each i f e
   exact ⟨a, b, c, d, x, by omega⟩
  ·subst hi
   simp at e
   subst e
   have := h.four
   exact ⟨by simp only [fnOf']; omega, by simp only [fnOf']; omega, fun _ => ⟨by simp only [fnOf']; omega, by simp only [fnOf']; omega⟩, hp, hv, by simp only [fnOf']; omega⟩
  ·rw [List.getElem?_eq_none (by simp; omega)] at e; cases e
 ·simp only at e1 e2
  rcases Nat.lt_trichotomy (i + 1) w.fs.length with hi | hi | hi
  ·rw [List.getElem?_append_left (by omega)] at e1
   rw [List.getElem?_append_left hi] at e2
   exact h.rise i f g e1 e2
  ·rw [List.getElem?_append_left (by omega)] at e1
   rw [hi] at e2
   simp at e2
   subst e2
   exact (h.each i f e1).2.2.2.2.2
  ·rw [List.getElem?_eq_none (by simp; omega)] at e2; cases e2
mutual
theorem wT_good (at_ : Nat) (loop : Bool) : ∀ (t : T) (w : Wk), t.wf → WR w → at_ < w.fs.length → (∃ out, ∀ s ∈ decT t out, InV w.fs at_ s) → (wT at_ loop t w).2.e = 0 →
    WR (wT at_ loop t w).2 ∧ goodT (wT at_ loop t w).2.fs (wT at_ loop t w).1
  | .mk op s n l x, w, h, hw, ha, hd, he => by
    by_cases hwe : w.e ≠ 0
    · rw [wT_errL _ _ _ _ hwe] at he; exact absurd he hwe
    simp only [wT, if_neg hwe] at he ⊢
    split at he
    · rename_i hf
      rw [if_pos hf]
      split at he
      · exact absurd he (fail_e _ _ _ (by decide))
      · rename_i hlim
        rw [if_neg hlim]
        simp only [not_or, Nat.not_lt] at hlim
        have hv := fn_vars op s l at_ w.mark
        have hbd : ∃ out, ∀ y ∈ decT (l.getLast?.getD default) out, InV (w.fs ++ [fnOf' op s l at_ w.mark]) w.fs.length y := by
          obtain ⟨out, ho⟩ := hv.2.1
          exact ⟨out, fun y hy => ⟨fnOf' op s l at_ w.mark, by simp, by rw [ho]; exact hy⟩⟩
        have hr := wP_good w.fs.length l _ h.2.2.2.2 (h.2.1 hf).2 (hw.push op s l at_ ha hlim.2) (by simp) (fun u hu => ⟨fnOf' op s l at_ w.mark, by simp, hv.1 u hu⟩) (fun b hb => by rw [hb] at hbd; exact hbd) he
        refine ⟨hr.1, ?_⟩
        have hop : isVr op = false := by
          have : op = 10 ∨ op = 41 := by simp [isFn] at hf; omega
          rcases this with rfl | rfl <;> rfl
        refine ⟨by simp [hop], fun _ => ⟨by omega, fnOf' op s l at_ w.mark, ?_, rfl⟩, hr.2⟩
        exact pfx_get (wP_pfx w.fs.length l _) (by simp)
    · rename_i hf
      rw [if_neg hf]
      simp only at he ⊢
      have hqf := stepN_fs at_ loop op s n x w
      have hqm := stepN_mark at_ loop op s n x w
      have hwq : WR (stepN at_ loop op s n x w).2.2 := hw.more hqf (by rw [hqm]; split <;> omega)
      have hqe : (stepN at_ loop op s n x w).2.2.e = 0 := by
        refine Classical.byContradiction fun hc => ?_
        rw [wL_errL _ _ _ _ hc] at he; exact hc he
      have hdl : ∃ out, ∀ y ∈ decL l out, InV (stepN at_ loop op s n x w).2.2.fs at_ y := by
        obtain ⟨out, ho⟩ := hd
        simp only [decT, if_neg hf] at ho
        exact ⟨_, fun y hy => by rw [hqf]; exact ho y hy⟩
      have hr := wL_good at_ ((stepN at_ loop op s n x w).2.1 || decide (op = 35)) l _ h.2.2.2.2 hwq (by rw [hqf]; exact ha) hdl he
      refine ⟨hr.1, fun hv => ?_, fun hf' => absurd hf' hf, hr.2⟩
      have hp : w.fs <+: (wL at_ ((stepN at_ loop op s n x w).2.1 || decide (op = 35)) l (stepN at_ loop op s n x w).2.2).2.fs := by
        have := wL_pfx at_ ((stepN at_ loop op s n x w).2.1 || decide (op = 35)) l (stepN at_ loop op s n x w).2.2
        rw [hqf] at this; exact this
      refine VarOk.mono hp ?_
      by_cases h1 : op = 1
      · subst h1
        simp only [stepN, if_true] at hqe ⊢
        refine varNo_ok hw s _ (Classical.byContradiction fun hc => ?_)
        rw [if_pos (by omega)] at hqe
        exact fail_e _ _ _ (by decide) hqe
      · have h2 : op = 30 ∨ op = 35 ∨ op = 38 := by
          simp only [isVr, Bool.or_eq_true, decide_eq_true_eq] at hv; omega
        simp only [stepN, if_neg h1, if_pos h2]
        refine varNo_ok hw s _ (varNo_in ?_)
        obtain ⟨out, ho⟩ := hd
        refine ho s ?_
        simp only [decT, if_neg hf]
        refine decL_sub _ _ _ ?_
        have hdc : isDec op = true := by rcases h2 with rfl | rfl | rfl <;> rfl
        rw [if_pos hdc]
        exact withS_self _ _
theorem wL_good (at_ : Nat) (loop : Bool) : ∀ (l : List T) (w : Wk), T.wfL l → WR w → at_ < w.fs.length → (∃ out, ∀ s ∈ decL l out, InV w.fs at_ s) → (wL at_ loop l w).2.e = 0 →
    WR (wL at_ loop l w).2 ∧ goodL (wL at_ loop l w).2.fs (wL at_ loop l w).1
  | [], w, _, hw, _, _, _ => ⟨hw, trivial⟩
  | t :: r, w, h, hw, ha, hd, he => by
    simp only [wL] at he ⊢
    obtain ⟨out, ho⟩ := hd
    simp only [decL] at ho
    have he1 : (wT at_ loop t w).2.e = 0 := by
      refine Classical.byContradiction fun hc => ?_
      rw [wL_errL _ _ _ _ hc] at he; exact hc he
    have h1 := wT_good at_ loop t w h.1 hw ha ⟨out, fun y hy => ho y (decL_sub _ _ _ hy)⟩ he1
    have hp := wT_pfx at_ loop t w
    have h2 := wL_good at_ loop r _ h.2 h1.1 (Nat.lt_of_lt_of_le ha hp.length_le) ⟨_, fun y hy => (ho y hy).mono hp⟩ he
    exact ⟨h2.1, goodT.mono (wL_pfx at_ loop r _) _ h1.2, h2.2⟩
theorem wP_good (me : Nat) : ∀ (l : List T) (w : Wk), T.wfL l → (∀ u ∈ l.dropLast, u.op = 1) → WR w → me < w.fs.length → (∀ u ∈ l.dropLast, InV w.fs me u.s) → (∀ b, l.getLast?.getD default = b → ∃ out, ∀ s ∈ decT b out, InV w.fs me s) → (wP me l w).2.e = 0 →
    WR (wP me l w).2 ∧ goodL (wP me l w).2.fs (wP me l w).1
  | [], w, _, _, hw, _, _, _, _ => ⟨hw, trivial⟩
  | [t], w, h, _, hw, ha, _, hd, he => by
    simp only [wP] at he ⊢
    have h1 := wT_good me false t w h.1 hw ha (hd t rfl) he
    exact ⟨h1.1, h1.2, trivial⟩
  | t :: u :: r, w, h, hp, hw, ha, hv, hd, he => by
    simp only [wP] at he ⊢
    have h2 := wP_good me (u :: r) w h.2 (fun v hm => hp v (by simp [hm])) hw ha (fun v hm => hv v (by simp [hm])) (fun b hb => hd b (by simpa using hb)) he
    refine ⟨h2.1, ?_, h2.2⟩
    have h1 : t.op = 1 := hp t (by simp)
    have hs := hv t (by simp)
    have hwf := h.1
    obtain ⟨op, s, n, l, x⟩ := t
    simp only [T.op_mk] at h1
    subst h1
    have hl : l = [] := hwf.2.2.2.1.2 rfl
    subst hl
    refine ⟨fun _ => ?_, fun hf => by simp [isFn] at hf, trivial⟩
    exact (varNo_ok hw s _ (varNo_in hs)).mono (wP_pfx me (u :: r) w)
end
theorem WR.init (v : List ByteArray) (hv : v.length ≤ 200) : WR { fs := [{ around := -1, name := ⟨#[]⟩, params := 0, vars := v, mark := 0 }], mark := 4, e := 0, line := 0 } := by
 refine ⟨Nat.le_refl _, fun i f e => ?_, fun i f g e1 e2 => by simp at e2⟩
 rcases i with _ | i
 ·simp at e; subst e
  exact ⟨by simp, by simp, by simp, by simp, hv, by simp⟩
 ·simp at e
theorem resolve_good (t : T) (h : (resolve t).2.2.2 = 0) : goodT (resolve t).1 (resolve t).2.1 ∧
  (∀ (i : Nat) (f : Fn), (resolve t).1[i]? = some f → f.around < i ∧ (0 < i → 0 ≤ f.around ∧ 4 ≤ f.mark) ∧ f.params ≤ f.vars.length ∧ f.vars.length ≤ 200) ∧
  (∀ (i : Nat) (f g : Fn), (resolve t).1[i]? = some f → (resolve t).1[i + 1]? = some g → f.mark < g.mark) ∧ 0 < (resolve t).1.length := by
 obtain ⟨hr, hl, w, hw, he, hres⟩ := resolve_ok t h
 have hwr : WR w := by rw [hw]; exact WR.init _ hl
 have ha : 0 < w.fs.length := by rw [hw]; simp
 have hg := wT_good 0 false t w (right_wf hr) hwr ha ⟨[], fun s hs => ⟨_, by rw [hw]; rfl, hs⟩⟩ he
 have hp := (wT_pfx 0 false t w).length_le
 rw [hres]
 refine ⟨hg.2, fun i f e => ?_, hg.1.rise, by simp only; omega⟩
 obtain ⟨a, b, c, d, x, y⟩ := hg.1.each i f e
 exact ⟨a, c, d, x⟩
mutual
def flatT : T → List T
 | .mk op s n l x => .mk op s n l x :: flatL l
def flatL : List T → List T
 | [] => []
 | t :: r => flatT t ++ flatL r
end
def isMk (op : Int) : Bool := decide (op = 11) || decide (op = 16) || decide (op = 15)
def mkN (fs : List Fn) (t : T) (m : Int) : Option Int :=
 if isMk t.op then (if t.n = m then some (m + 1) else none)
 else if isFn t.op then (if 1 ≤ t.n ∧ ((fs[t.n.toNat]?).map fun f => (f.mark : Int)) = some m then some (m + 2) else none)
 else some m
def mkF (fs : List Fn) : List T → Int → Option Int
 | [], m => some m
 | t :: r, m => (mkN fs t m).bind (mkF fs r)
theorem mkF_append (fs : List Fn) : ∀ (a b : List T) (m : Int), mkF fs (a ++ b) m = (mkF fs a m).bind (mkF fs b)
 | [], b, m => rfl
 | t :: r, b, m => by
  simp only [List.cons_append, mkF]
  cases mkN fs t m with
  | none => rfl
  | some m' => simp only [Option.bind_some, mkF_append fs r b]
mutual
theorem wT_marks (fs : List Fn) (at_ : Nat) (loop : Bool) : ∀ (t : T) (w : Wk), t.wf → 0 < w.fs.length → (wT at_ loop t w).2.e = 0 → (wT at_ loop t w).2.fs <+: fs → mkF fs (flatT (wT at_ loop t w).1) w.mark = some ((wT at_ loop t w).2.mark : Int)
 | .mk op s n l x, w, h, ha, he, hp => by
  by_cases hwe : w.e ≠ 0
  ·rw [wT_errL _ _ _ _ hwe] at he; exact absurd he hwe
  simp only [wT, if_neg hwe] at he hp ⊢
  split at he
  ·rename_i hf
   rw [if_pos hf] at hp ⊢
   split at he
   ·exact absurd he (fail_e _ _ _ (by decide))
   ·rename_i hlim
    rw [if_neg hlim] at hp ⊢
    simp only at hp ⊢
    have hop : isMk op = false := by
     have : op = 10 ∨ op = 41 := by simp [isFn] at hf; omega
     rcases this with rfl | rfl <;> rfl
    have hget : fs[w.fs.length]? = some (fnOf' op s l at_ w.mark) := pfx_get ((wP_pfx w.fs.length l _).trans hp) (by simp)
    have hm : (fnOf' op s l at_ w.mark).mark = w.mark := rfl
    have hr := wP_marks fs w.fs.length l _ h.2.2.2.2 (h.2.1 hf).2 (by simp) he hp
    simp only [flatT, mkF, mkN, T.op_mk, T.n_mk, hop, hf, Bool.false_eq_true, if_false, if_true, Int.toNat_natCast, hget, Option.map_some, hm]
    rw [if_pos ⟨by omega, trivial⟩, Option.bind_some, ← hr]
    simp
  ·rename_i hf
   rw [if_neg hf] at hp ⊢
   simp only at he hp ⊢
   have hqf := stepN_fs at_ loop op s n x w
   have hqm := stepN_mark at_ loop op s n x w
   have hr := wL_marks fs at_ ((stepN at_ loop op s n x w).2.1 || decide (op = 35)) l _ h.2.2.2.2 (by rw [hqf]; exact ha) he hp
   simp only [flatT, mkF, mkN, T.op_mk, T.n_mk, hf, Bool.false_eq_true, if_false]
   by_cases hk : op = 11 ∨ op = 16 ∨ op = 15
   ·have hk' : isMk op = true := by rcases hk with rfl | rfl | rfl <;> rfl
    have hn : (stepN at_ loop op s n x w).1 = w.mark := by
     have h1 : ¬ op = 1 := by omega
     have h2 : ¬ (op = 30 ∨ op = 35 ∨ op = 38) := by omega
     simp only [stepN, if_neg h1, if_neg h2, if_pos hk]
    rw [if_pos hk] at hqm
    simp only [hk', if_true, hn, Option.bind_some]
    rw [← hr, hqm]
    simp
   ·have hk' : isMk op = false := by simp only [isMk, Bool.or_eq_false_iff, decide_eq_false_iff_not]; omega
    rw [if_neg hk] at hqm
    rw [if_neg (by simp [hk']), Option.bind_some, ← hr, hqm]
theorem wL_marks (fs : List Fn) (at_ : Nat) (loop : Bool) : ∀ (l : List T) (w : Wk), T.wfL l → 0 < w.fs.length → (wL at_ loop l w).2.e = 0 → (wL at_ loop l w).2.fs <+: fs → mkF fs (flatL (wL at_ loop l w).1) w.mark = some ((wL at_ loop l w).2.mark : Int)
 | [], w, _, _, _, _ => rfl
 | t :: r, w, h, ha, he, hp => by
  simp only [wL] at he hp ⊢
  have he1 : (wT at_ loop t w).2.e = 0 := by
   refine Classical.byContradiction fun hc => ?_
   rw [wL_errL _ _ _ _ hc] at he; exact hc he
  have h1 := wT_marks fs at_ loop t w h.1 ha he1 ((wL_pfx at_ loop r _).trans hp)
  have h2 := wL_marks fs at_ loop r _ h.2 (Nat.lt_of_lt_of_le ha (wT_pfx at_ loop t w).length_le) he hp
  simp only [flatL, mkF_append, h1, Option.bind_some, h2]
theorem wP_marks (fs : List Fn) (me : Nat) : ∀ (l : List T) (w : Wk), T.wfL l → (∀ u ∈ l.dropLast, u.op = 1) → 0 < w.fs.length → (wP me l w).2.e = 0 → (wP me l w).2.fs <+: fs → mkF fs (flatL (wP me l w).1) w.mark = some ((wP me l w).2.mark : Int)
 | [], w, _, _, _, _, _ => rfl
 | [t], w, h, _, ha, he, hp => by
  simp only [wP] at he hp ⊢
  have h1 := wT_marks fs me false t w h.1 ha he hp
  simp only [flatL, List.append_nil, h1]
 | t :: u :: r, w, h, hpar, ha, he, hp => by
  simp only [wP] at he hp ⊢
  have h2 := wP_marks fs me (u :: r) w h.2 (fun v hm => hpar v (by simp [hm])) ha he hp
  have h1 : t.op = 1 := hpar t (by simp)
  have hwf := h.1
  obtain ⟨op, s, n, l, x⟩ := t
  simp only [T.op_mk] at h1
  subst h1
  have hl : l = [] := hwf.2.2.2.1.2 rfl
  subst hl
  have e1 : ∀ v, mkF fs (flatT ((T.mk 1 s n [] x).setN v)) w.mark = some (w.mark : Int) := fun v => rfl
  simp only [flatL, mkF_append, e1, Option.bind_some, h2]
end
theorem resolve_marks (t : T) (h : (resolve t).2.2.2 = 0) : ∃ m, mkF (resolve t).1 (flatT (resolve t).2.1) 4 = some m := by
 obtain ⟨hr, hl, w, hw, he, hres⟩ := resolve_ok t h
 have hm : w.mark = 4 := by rw [hw]
 have := wT_marks (wT 0 false t w).2.fs 0 false t w (right_wf hr) (by rw [hw]; simp) he List.prefix_rfl
 rw [hres]
 rw [hm] at this
 exact ⟨_, this⟩
structure Frm (op : Int) (l : List T) : Prop where
 mem : op = 13 → l.length = 1
 idx : op = 14 → l.length = 2
 set : op = 17 → l.length = 2
 two : op = 21 ∨ op = 22 → l.length = 2
 three : op = 23 → l.length = 3
 call : op = 15 ∨ op = 16 → 0 < l.length
 one : op = 30 ∨ op = 36 → l.length ≤ 1
 throw : op = 37 → l.length = 1
 fn : isFn op = true → ∀ u ∈ l, u.op = 32 ∨ (u.op = 1 ∧ u.l = [])
 lhs : op = 17 → ∀ u, l[0]? = some u → u.op = 1 ∨ u.op = 13 ∨ u.op = 14
mutual
def frm : T → Prop
 | .mk op _ _ l _ => Frm op l ∧ frmL l
def frmL : List T → Prop
 | [] => True
 | t :: r => frm t ∧ frmL r
end
theorem frmL_of : ∀ {l : List T}, (∀ t ∈ l, frm t) → frmL l
 | [], _ => trivial
 | a :: r, h => ⟨h a (by simp), frmL_of fun t ht => h t (by simp [ht])⟩
theorem fitL_part (f : T → Bool) (op : Int) (len : Nat) : ∀ (i : Nat) (l : List T), fitL f op len i l = true → ∀ (j : Nat) (u : T), l[j]? = some u → partOK op len (i + j) u.op = true ∧ f u = true
 | i, [], _, j, u, h => by simp at h
 | i, x :: r, hf, 0, u, h => by
  simp at h; subst h
  simp only [fitL, Bool.and_eq_true] at hf
  exact hf.1
 | i, x :: r, hf, j + 1, u, h => by
  simp only [fitL, Bool.and_eq_true] at hf
  have := fitL_part f op len (i + 1) r hf.2 j u (by simpa using h)
  rwa [show i + 1 + j = i + (j + 1) by omega] at this
theorem fit_leaf (h : Nat) (u : T) (e : fit h u = true) (h1 : u.op = 1) : u.l = [] := by
 obtain ⟨op, s, n, l, x⟩ := u
 simp only [T.op_mk] at h1
 subst h1
 rcases h with _ | h
 ·simp [fit] at e
 simp only [fit, Bool.and_eq_true] at e
 rcases l with _ | ⟨a, r⟩
 ·rfl
 ·have := e.1.1
  simp [okF, formOf, forms, TX.ok] at this; omega
theorem fit_frm : ∀ (h : Nat) (t : T), fit h t = true → frm t
 | 0, _, e => by simp [fit] at e
 | h + 1, .mk op s n l x, e => by
  simp only [fit, Bool.and_eq_true] at e
  obtain ⟨⟨e1, e2⟩, e3⟩ := e
  have hsub : frmL l := frmL_of fun t ht => fit_frm h t (fitL_mem _ _ _ _ _ e3 t ht)
  have hp := fitL_part _ _ _ _ _ e3
  refine ⟨⟨?_, ?_, ?_, ?_, ?_, ?_, ?_, ?_, fun hf u hu => ?_, ?_⟩, hsub⟩
  ·rintro rfl; simp [okF, formOf, forms] at e1; omega
  ·rintro rfl; simp [okF, formOf, forms] at e1; omega
  ·rintro rfl; simp [okF, formOf, forms] at e1; omega
  ·rintro (rfl | rfl) <;> (simp [okF, formOf, forms] at e1; omega)
  ·rintro rfl; simp [okF, formOf, forms] at e1; omega
  ·rintro (rfl | rfl) <;> (simp [okF, formOf, forms] at e1; omega)
  ·rintro (rfl | rfl) <;> (simp [okF, formOf, forms] at e1; omega)
  ·rintro rfl; simp [okF, formOf, forms] at e1; omega
  ·obtain ⟨j, hj⟩ := List.mem_iff_getElem?.1 hu
   obtain ⟨h1, h2⟩ := hp j u hj
   have hop : op = 10 ∨ op = 41 := by simp [isFn] at hf; omega
   simp only [partOK, if_pos hop] at h1
   split at h1
   ·exact .inl (of_decide_eq_true h1)
   ·have h1 := of_decide_eq_true h1
    exact .inr ⟨h1, fit_leaf h u h2 h1⟩
  ·rintro rfl u hu
   obtain ⟨h1, -⟩ := hp 0 u hu
   simpa [partOK, or_assoc] using h1
theorem right_frm {t : T} (h : right t = true) : frm t := by
 simp only [right, rBlk, Bool.and_eq_true] at h
 exact fit_frm _ _ h.2
theorem bareL_map : ∀ l : List T, bareL l = l.map bareT
 | [] => rfl
 | t :: r => by simp [bareL, bareL_map r]
theorem bare_op (t : T) : (bareT t).op = t.op := by cases t; rfl
theorem bare_l (t : T) : (bareT t).l = bareL t.l := by cases t; rfl
mutual
theorem frm_bare : ∀ t : T, frm (bareT t) → frm t
 | .mk op s n l x, h => by
  simp only [bareT, frm] at h ⊢
  obtain ⟨⟨h1, h2, h3, h4, h5, h6, h7, h8, h9, h10⟩, hr⟩ := h
  rw [bareL_map] at h1 h2 h3 h4 h5 h6 h7 h8 h9 h10
  simp only [List.length_map] at h1 h2 h3 h4 h5 h6 h7 h8
  refine ⟨⟨h1, h2, h3, h4, h5, h6, h7, h8, fun hf u hu => ?_, fun ho u hu => ?_⟩, frmL_bare l hr⟩
  ·have := h9 hf (bareT u) (List.mem_map.2 ⟨u, hu, rfl⟩)
   rw [bare_op, bare_l, bareL_map] at this
   simpa using this
  ·have := h10 ho (bareT u) (by rw [List.getElem?_map, hu]; rfl)
   rwa [bare_op] at this
theorem frmL_bare : ∀ l : List T, frmL (bareL l) → frmL l
 | [], _ => trivial
 | t :: r, h => ⟨frm_bare t h.1, frmL_bare r h.2⟩
end
theorem resolve_frm (t : T) (h : (resolve t).2.2.2 = 0) : frm (resolve t).2.1 := by
 obtain ⟨hr, -⟩ := resolve_ok t h
 exact frm_bare _ (by rw [(resolve_bare t h).1]; exact right_frm hr)
theorem BehA.of {fs : List Fn} {a : Int} (ha : 0 ≤ a ∧ a ≤ 10000000000) (hfl : fs.length ≤ 1000) (hvs : ∀ G ∈ fs, G.vars.length ≤ 500) {f : Nat} (hf : f < fs.length) : BehA fs (baseL a fs) f (behV fs (baseL a fs) f) := by
 obtain ⟨G, hG⟩ : ∃ G, fs[f]? = some G := ⟨_, List.getElem?_eq_getElem hf⟩
 have hb := baseL_at fs a f hf
 have hbe := baseE_le fs a f hvs
 have hv := hvs G (List.mem_of_getElem? hG)
 exact ⟨G, _, hG, hb, by omega, by omega, by simp [behV, hb, hG]⟩
theorem VarA.of {fs : List Fn} {a : Int} (ha : 0 ≤ a ∧ a ≤ 10000000000) (hfl : fs.length ≤ 1000) (hvs : ∀ G ∈ fs, G.vars.length ≤ 500) {n : Int} {s : ByteArray} (hv : VarOk fs n s) : VarA (baseL a fs) n (vset (baseL a fs) n) := by
 obtain ⟨h0, G, hG, hs⟩ := hv
 have hf := (List.getElem?_eq_some_iff.1 hG).1
 have hb := baseL_at fs a _ hf
 have hbe := baseE_le fs a (n / 1000).toNat hvs
 have h1 : n.tdiv 1000 = ((n / 1000).toNat : Int) := by rw [Int.tdiv_eq_ediv_of_nonneg h0]; omega
 have h2 : n.tmod 1000 = n % 1000 := Int.tmod_eq_emod_of_nonneg h0
 refine ⟨(n / 1000).toNat, _, h1, hb, ?_, ?_, ?_⟩
 ·exact wrap64 (by rw [h2]; omega)
 ·exact wrap64 (by omega)
 ·simp only [vset, h1, Int.toNat_natCast, hb, Option.getD_some]
theorem goodL_get {fs} : ∀ {l : List T} {i : Nat} {t : T}, goodL fs l → l[i]? = some t → goodT fs t
 | [], i, t, _, h => by simp at h
 | a :: r, 0, t, h, e => by simp at e; subst e; exact h.1
 | a :: r, i + 1, t, h, e => goodL_get h.2 (by simpa using e)
mutual
theorem RW_of {fs : List Fn} {bs : List Int} (hB : ∀ f, f < fs.length → BehA fs bs f (behV fs bs f)) (hV : ∀ n s, VarOk fs n s → VarA bs n (vset bs n)) : ∀ (t : T) (f : Nat), f < fs.length → goodT fs t → frm t → RW fs bs f t
 | .mk op s n l x, f, hf, hg, hr => by
  simp only [RW]
  by_cases hfn : isFn op = true
  ·rw [if_pos hfn]
   obtain ⟨h1, F, h2, h3⟩ := hg.2.1 hfn
   have hgl := (List.getElem?_eq_some_iff.1 h2).1
   refine ⟨hB f hf, ⟨n.toNat, by omega, hB _ hgl⟩, RWB_of hB hV l _ hgl hg.2.2 hr.2⟩
  ·rw [if_neg hfn]
   obtain ⟨⟨r1, r2, r3, r4, r5, r6, r7, r8, -, -⟩, r9⟩ := hr
   refine ⟨⟨hB f hf, fun ho => ?_, r1, r2, fun ho => ⟨r3 ho, fun t0 ht0 h1 => ?_⟩, r4, r5, fun ho => ?_, fun ho => ?_⟩, RWL_of hB hV l f hf hg.2.2 r9⟩
   ·simp only [T.op_mk] at ho
    exact hV n s (hg.1 (by rcases ho with rfl | rfl | rfl <;> rfl))
   ·have hg0 := goodL_get hg.2.2 ht0
    obtain ⟨op0, s0, n0, l0, x0⟩ := t0
    simp only [T.op_mk] at h1
    subst h1
    exact hV n0 s0 (hg0.1 rfl)
   ·have := r6 ho
    simp only [T.l_mk]
    rintro rfl
    simp at this
   ·simp only [T.op_mk, T.l_mk] at ho ⊢
    rcases ho with ho | ho | ho
    ·exact r7 (.inl ho)
    ·exact r7 (.inr ho)
    ·rw [r8 ho]; exact Nat.le_refl _
theorem RWL_of {fs : List Fn} {bs : List Int} (hB : ∀ f, f < fs.length → BehA fs bs f (behV fs bs f)) (hV : ∀ n s, VarOk fs n s → VarA bs n (vset bs n)) : ∀ (l : List T) (f : Nat), f < fs.length → goodL fs l → frmL l → RWL fs bs f l
 | [], _, _, _, _ => trivial
 | t :: r, f, hf, hg, hr => ⟨RW_of hB hV t f hf hg.1 hr.1, RWL_of hB hV r f hf hg.2 hr.2⟩
theorem RWB_of {fs : List Fn} {bs : List Int} (hB : ∀ f, f < fs.length → BehA fs bs f (behV fs bs f)) (hV : ∀ n s, VarOk fs n s → VarA bs n (vset bs n)) : ∀ (l : List T) (g : Nat), g < fs.length → goodL fs l → frmL l → RWB fs bs g l
 | [], _, _, _, _ => trivial
 | t :: r, g, hf, hg, hr => ⟨fun _ => RW_of hB hV t g hf hg.1 hr.1, RWB_of hB hV r g hf hg.2 hr.2⟩
end
theorem resolve_lims (t : T) : (resolve t).1.length ≤ 500 ∧ (∀ G ∈ (resolve t).1, G.vars.length ≤ 200 ∧ G.params ≤ 200) := by
 refine ⟨(resolve_fs t).len, ?_⟩
 by_cases h : (resolve t).2.2.2 = 0
 ·obtain ⟨-, h2, -⟩ := resolve_good t h
  intro G hG
  obtain ⟨i, hi⟩ := List.mem_iff_getElem?.1 hG
  obtain ⟨-, -, h3, h4⟩ := h2 i G hi
  exact ⟨h4, by omega⟩
 ·rw [(resolve_err t h).1]; simp
theorem resolve_RW (t : T) (hw : t.wt ≤ 1000000000) (h : (resolve t).2.2.2 = 0) : RW (resolve t).1 (baseL ((resolve t).2.1.count : Nat) (resolve t).1) 0 (resolve t).2.1 := by
 have hwt := resolve_wt t
 have hcw := count_wt (resolve t).2.1
 obtain ⟨h1, h2⟩ := resolve_lims t
 have hvs : ∀ G ∈ (resolve t).1, G.vars.length ≤ 500 := fun G hG => by have := (h2 G hG).1; omega
 obtain ⟨hgood, -, -, h0⟩ := resolve_good t h
 exact RW_of (fun f hf => BehA.of ⟨by omega, by omega⟩ (by omega) hvs hf) (fun n s hv => VarA.of ⟨by omega, by omega⟩ (by omega) hvs hv) _ 0 h0 hgood (resolve_frm t h)
theorem rules33 (t : T) (ht : t.ok) (hw : t.wt ≤ 1000000000) (k : Nat) (hk : 40 * t.wt + 10000 ≤ k) : PureC k 33 [.agg t.enc] (rulV (rulesM t)) := by
 have hwt := resolve_wt t
 obtain ⟨h1, h2⟩ := resolve_lims t
 exact f33 t ht hw (by omega) (by omega) (fun h => (resolve_good t h).2.2.2) (fun G hG => by have := (h2 G hG).1; omega) (fun G hG => by have := (h2 G hG).2; omega) (resolve_RW t hw) k (by omega)
theorem rulV_refs (r : RRes) : (rulV r).refs = [] := by
 have h : ∀ l : List Rule, AV.refsL (encR l) = [] := fun l => by
  induction l with
  | nil => rfl
  | cons a r ih => simp only [encR, refsL_append, Rule.enc_refs, ih, List.append_nil]
 simp [rulV, encFs_refs, encFS_refs, h]
theorem f56 (l : List Int) (hl : l.length ≤ 1000000000000) (k : Nat) (hk : l.length + 3 ≤ k) : PureC k 56 [.sl none l.length (l.map (.int .i64)), .sl none l.length (l.map (.int .i64))] (.bool true) := by
 intro E st hE
 obtain ⟨k, rfl⟩ : ∃ k', k = k' + 1 := ⟨k - 1, by omega⟩
 refine call_in2 rfl rfl (by decide) fun s hs e0 e1 => ?_
 simp [hs, e0, e1]
 refine WP_loop (fun n s m st' => ∃ j : Nat, j ≤ l.length ∧ n = l.length - j ∧ s.length = 26 ∧ m = [] ∧ lk s 0 = .sl none l.length (l.map (.int .i64)) ∧ lk s 1 = .sl none l.length (l.map (.int .i64)) ∧ lk s 5 = .int .i64 j ∧ st' = st) l.length (by omega)
  ⟨0, by omega, by omega, by simp [hs], rfl, by simp [hs, e0], by simp [hs, e1], by simp [hs], rfl⟩ ?_
 clear hs e0 e1
 rintro _ s m _ ⟨j, hj, rfl, hs, rfl, e0, e1, e5, rfl⟩
 by_cases hc : j < l.length
 ·have hwj := wrap64 (n := (j : Int) + 1) (by omega)
  simp [Nat.testBit, hs, e0, e1, e5, hc]
  simp [hs, e5, hwj]
  exact ⟨_, by omega, j + 1, by omega, rfl, by simp [hs], rfl, by simp [hs, e0], by simp [hs, e1], by simp [hs], rfl⟩
 ·simp [hs, e0, e5, hc]
  exact Grow.refl _
theorem f49 (r : Rule) (hl : r.l.length ≤ 1000000000000) (k : Nat) (hk : r.l.length + 10 ≤ k) : PureC k 49 [.agg r.enc, .agg r.enc] (.bool true) := by
 intro E st hE
 obtain ⟨k, rfl⟩ : ∃ k', k = k' + 1 := ⟨k - 1, by omega⟩
 have c56 := f56 r.l hl k (by omega) E ⟨st.H ++ [.cells 55 r.enc, .cells 55 r.enc], st.I⟩ (hE.of (by simp) (by simp))
 simp only [Rule.enc] at c56 ⊢
 refine call_in2 rfl rfl (by decide) fun s hs e0 e1 => ?_
 simp [hs, e0, e1]
 refine obP_intro c56 fun p hp => ?_
 obtain ⟨q, st2⟩ := p
 obtain ⟨v, r1, r2, r3⟩ := hp
 simp only at r1 r2
 subst r1
 have r3 := fin_bool_inv r3
 subst r3
 have a0 : st2.H[st.H.length]? = some (.cells 55 [.int .i64 r.kind, .int .i64 r.f, .int .i64 r.x, .int .i64 r.y, .int .i64 r.z, .int .i64 r.n, .int .i64 r.m, .str r.s, .sl none r.l.length (r.l.map (.int .i64))]) := pfx_get r2.H (by simp)
 have a1 : st2.H[st.H.length + 1]? = some (.cells 55 [.int .i64 r.kind, .int .i64 r.f, .int .i64 r.x, .int .i64 r.y, .int .i64 r.z, .int .i64 r.n, .int .i64 r.m, .str r.s, .sl none r.l.length (r.l.map (.int .i64))]) := pfx_get r2.H (by simp)
 simp [hs, a0, a1]
 exact ⟨(List.prefix_append _ _).trans r2.H, r2.I⟩
def sysE (n : Int) (F : List FS) (R : List Rule) : List AV := [.int .i64 n, .sl none F.length (encFS F), .sl none R.length (encR R)]
def tC : T := .mk 32 ⟨#[]⟩ 0 [.mk 30 ⟨#[97]⟩ 0 [.mk 11 ⟨#[]⟩ 0 [] 1] 1] 1
def tD : T := .mk 32 ⟨#[]⟩ 0 [.mk 30 ⟨#[97]⟩ 0 [] 1, .mk 31 ⟨#[]⟩ 0 [.mk 1 ⟨#[98]⟩ 0 [] 2] 2] 1
theorem rC : rulV (rulesM tC) = .tup [.sl none 1 [.int .i64 (-1), .str ⟨#[]⟩, .int .i64 0, .sl none 1 [.str ⟨#[97]⟩], .int .i64 0], .agg [.int .i64 16, .sl none 1 [.int .i64 0, .sl none 0 [], .int .i64 4, .int .i64 5, .int .i64 6], .sl none 2 [.int .i64 3, .int .i64 0, .int .i64 2, .int .i64 3, .int .i64 0, .int .i64 0, .int .i64 0, .str ⟨#[]⟩, .sl none 0 [], .int .i64 1, .int .i64 0, .int .i64 2, .int .i64 0, .int .i64 0, .int .i64 0, .int .i64 4, .str ⟨#[]⟩, .sl none 0 []]], .int .i64 0, .int .i64 0] := by kernel_rfl
theorem rD : rulV (rulesM tD) = .tup [.sl none 0 [], .agg [.int .i64 0, .sl none 0 [], .sl none 0 []], .int .i64 2, .int .i64 50] := by kernel_rfl
theorem tC_ok : tC.ok := by simp [tC, T.ok, T.okL, ok64]; decide
theorem tD_ok : tD.ok := by simp [tD, T.ok, T.okL, ok64]; decide
theorem tC_wt : tC.wt ≤ 100 := by decide
theorem tD_wt : tD.wt ≤ 100 := by decide
theorem wt_le' (k : Nat) (hk : 20000 ≤ k) (n : Nat) (h : n ≤ 100) : n ≤ 1000000000 ∧ 40 * n + 10000 ≤ k := by omega
theorem k33c (k : Nat) (hk : 20000 ≤ k) (E : Env) (st : St) (h : E.Wf st) : doCall (aCall prog k) E .full (.fn 33) [.agg tC.enc] st = some (.ok (rulV (rulesM tC)), st) := by
 obtain ⟨h1, h2⟩ := wt_le' k hk _ tC_wt
 exact (rules33 tC tC_ok h1 k h2).full (by rw [rC]; rfl) h
theorem k33d (k : Nat) (hk : 20000 ≤ k) (E : Env) (st : St) (h : E.Wf st) : doCall (aCall prog k) E .full (.fn 33) [.agg tD.enc] st = some (.ok (rulV (rulesM tD)), st) := by
 obtain ⟨h1, h2⟩ := wt_le' k hk _ tD_wt
 exact (rules33 tD tD_ok h1 k h2).full (by rw [rD]; rfl) h
theorem f32 (X : ABlk) (k : Nat) (hk : 30000 ≤ k) (b : Nat) (hb : b ≤ 1) : CallQ (k + 1) { base := b, rob := 0, rom := 0 } 32 [] ⟨[X], []⟩ fun r st' => ∃ v, r = .ok v ∧ Grow ⟨[X], []⟩ st' ∧ v = .bool true := by
 have c1 := doCall_le (aCall_mono (show 400 ≤ k by omega)) _ _ _ _ _ _ (k24e X)
 have c2 := fun Y => doCall_le (aCall_mono (show 400 ≤ k by omega)) _ _ _ _ _ _ (k24f X Y)
 have c1 : doCall (aCall prog k) { base := b, rob := 0, rom := 0 } .full (.fn 24) _ ⟨[X], []⟩ = _ := c1
 have c2 : ∀ Y, doCall (aCall prog k) { base := b, rob := 0, rom := 0 } .full (.fn 24) _ ⟨[X, Y], []⟩ = _ := c2
 have c3 := k33c k (by omega) { base := b, rob := 0, rom := 0 } ⟨[X], []⟩ ⟨hb, by simp, by simp⟩
 have c4 := fun Y => k33d k (by omega) { base := b, rob := 0, rom := 0 } ⟨[X, Y], []⟩ ⟨by simp; omega, by simp, by simp⟩
 have c5 := fun Y Z => (f49 (rSub 2 3) (by decide) k (by simp [rSub]; omega)).fullA (args' := [.agg (rSub 2 3).enc, .agg [.int .i64 3, .int .i64 0, .int .i64 2, .int .i64 3, .int .i64 0, .int .i64 0, .int .i64 0, .str ⟨#[]⟩, .nils]]) (E := { base := b, rob := 0, rom := 0 }) (st := ⟨[X, Y, Z], []⟩) rfl ⟨by simp; omega, by simp, by simp⟩ (by simp [Rule.enc_fin, Rule.enc, rSub])
 have c6 := fun Y Z => (f49 { kind := 1, x := 2, m := 4 } (by decide) k (by simp; omega)).fullA (args' := [.agg (Rule.enc { kind := 1, x := 2, m := 4 }), .agg [.int .i64 1, .int .i64 0, .int .i64 2, .int .i64 0, .int .i64 0, .int .i64 0, .int .i64 4, .str ⟨#[]⟩, .nils]]) (E := { base := b, rob := 0, rom := 0 }) (st := ⟨[X, Y, Z], []⟩) rfl ⟨by simp; omega, by simp, by simp⟩ (by simp [Rule.enc_fin, Rule.enc, rSub])
 rw [rC] at c3
 rw [rD] at c4
 simp [tC] at c3
 simp [tD] at c4
 simp only [rSub, Rule.enc, List.map_nil, List.length_nil] at c5 c6
 have hm : ∀ j x y, 1 ≤ j → mayWrite { base := b, rob := 0, rom := 0 } j x y = true := fun j x y h => by simp [mayWrite]; left; omega
 have hm1 := fun x y => hm 1 x y (by omega)
 have hm2 := fun x y => hm 2 x y (by omega)
 refine call_in0 rfl rfl (by decide) fun s hs => ?_
 simp [hs, c1, c3, storeA, hm1, wrC]
 simp [hs, c2, c4, storeA, hm2, wrC]
 simp [hs, fillA, wrC, c5, c6, rdC]
 exact Grow.appH ⟨[X], []⟩ _
theorem k32 (X : ABlk) : doCall (aCall prog 30001) { base := 0, rob := 0, rom := 0 } .full (.fn 32) [] ⟨[X], []⟩ = some (.ok (.bool true), ⟨[X], []⟩) := by
 obtain ⟨⟨r, st'⟩, e, v, e1, g, e2⟩ := f32 X 30000 (Nat.le_refl _) 1 (Nat.le_refl _)
 simp only at e1 g e2
 subst e1 e2
 have e : aCall prog 30001 { base := 1, rob := 0, rom := 0 } (.fn 32) [] ⟨[X], []⟩ = some (.ok (.bool true), st') := e
 have h1 := pfx_take g.H
 have h2 := pfx_take g.I
 simp only [List.length_cons, List.length_nil, Nat.zero_add] at h1 h2
 simp only [doCall, List.map_nil, List.length_cons, List.length_nil, Nat.zero_add, e, obind_some]
 simp only [AV.fin, AV.refs, refsLt_nil, guardb_true, okv_eq, h1, h2]
theorem k32at {k : Nat} (hk : 30001 ≤ k) (y : ABlk) : doCall (aCall prog k) E0 .full (.fn 32) [] ⟨[] ++ [y], []⟩ = some (.ok (.bool true), ⟨[] ++ [y], []⟩) :=
 doCall_le (aCall_mono hk) _ _ _ _ _ _ (k32 y)
def mks (l : List T) : List Int := (l.filter fun t => isMk t.op).map (·.n)
structure SetsOk (fs : List Fn) (bs : List Int) (a S : Int) : Prop where
 one : 1 ≤ a
 base : ∀ (f : Nat) (G : Fn), fs[f]? = some G → ∃ b, bs[f]? = some b ∧ a ≤ b ∧ b + G.vars.length + 2 < S
theorem SetsOk.var {fs bs a S} (h : SetsOk fs bs a S) {n : Int} {s : ByteArray} (hv : VarOk fs n s) : a ≤ vset bs n ∧ vset bs n < S := by
 obtain ⟨h0, G, hG, hs⟩ := hv
 obtain ⟨b, hb, h1, h2⟩ := h.base _ G hG
 have h3 : n.tdiv 1000 = ((n / 1000).toNat : Int) := by rw [Int.tdiv_eq_ediv_of_nonneg h0]; omega
 have h4 : n.tmod 1000 = n % 1000 := Int.tmod_eq_emod_of_nonneg h0
 have h5 := (List.getElem?_eq_some_iff.1 hs).1
 simp only [vset, h3, Int.toNat_natCast, hb, Option.getD_some, h4]
 omega
theorem SetsOk.beh {fs bs a S} (h : SetsOk fs bs a S) {f : Nat} (hf : f < fs.length) : a ≤ behV fs bs f ∧ behV fs bs f + 2 < S := by
 obtain ⟨G, hG⟩ : ∃ G, fs[f]? = some G := ⟨_, List.getElem?_eq_getElem hf⟩
 obtain ⟨b, hb, h1, h2⟩ := h.base _ G hG
 simp only [behV, hb, hG, Option.getD_some, Option.map_some]
 omega
theorem baseE_mono : ∀ (l : List Fn) (a : Int) (j : Nat) (f : Fn), l[j]? = some f → baseE a (l.take j) + f.vars.length + 2 < baseE a l
 | [], a, j, f, h => by simp at h
 | g :: r, a, 0, f, h => by
  simp at h; subst h
  have : ∀ (l : List Fn) (b : Int), b ≤ baseE b l := fun l => by
   induction l with
   | nil => intro b; simp [baseE]
   | cons g r ih => intro b; simp only [baseE]; have := ih (b + (g.vars.length + 3 : Nat)); omega
  have := this r (a + (g.vars.length + 3 : Nat))
  simp only [List.take_zero, baseE]; omega
 | g :: r, a, j + 1, f, h => by
  simp only [List.take_succ_cons, baseE]
  exact baseE_mono r _ j f (by simpa using h)
theorem baseE_ge : ∀ (l : List Fn) (a : Int) (j : Nat), a ≤ baseE a (l.take j)
 | [], a, j => by simp [baseE]
 | g :: r, a, 0 => by simp [baseE]
 | g :: r, a, j + 1 => by
  have := baseE_ge r (a + (g.vars.length + 3 : Nat)) j
  simp only [List.take_succ_cons, baseE]; omega
theorem SetsOk.of (fs : List Fn) (a : Int) (ha : 1 ≤ a) : SetsOk fs (baseL a fs) a (baseE a fs) :=
 ⟨ha, fun f G hG => ⟨_, baseL_at fs a f (List.getElem?_eq_some_iff.1 hG).1, baseE_ge fs a f, baseE_mono fs a f G hG⟩⟩
theorem T.count_pos (t : T) : 0 < t.count := by cases t; simp only [T.count]; omega
def varSetM (fs : List Fn) (F : List FS) (n : Int) : Int × Int :=
 if n < 0 ∨ fs.length ≠ F.length then (0, 2)
 else match fs[(n.tdiv 1000).toNat]?, F[(n.tdiv 1000).toNat]? with
  | some f, some x => if (f.vars.length : Int) ≤ n.tmod 1000 then (0, 2) else (IntKind.i64.wrap (IntKind.i64.wrap (x.this - f.vars.length) + n.tmod 1000), 0)
  | _, _ => (0, 2)
theorem f38 (fs : List Fn) (F : List FS) (S : Int) (R : List Rule) (n : Int) (hn : ok64 n) (hfl : fs.length ≤ 1000000) (hFl : F.length ≤ 1000000) (k : Nat) (hk : 5 ≤ k) : PureC k 38 [.sl none fs.length (encFs fs), .agg (sysE S F R), .int .i64 n] (.tup [.int .i64 (varSetM fs F n).1, .int .i64 (varSetM fs F n).2]) := by
  intro E st hE
  obtain ⟨k, rfl⟩ : ∃ k', k = k' + 1 := ⟨k - 1, by omega⟩
  obtain ⟨hn1, hn2⟩ := hn
  unfold sysE
  refine call_in3 rfl rfl (by decide) fun s hs e0 e1 e2 => ?_
  by_cases h0 : n < 0
  · simp [hs, e0, e1, e2, h0, varSetM]
    exact Grow.appH _ _
  have hq : n.tdiv 1000 = ((n / 1000).toNat : Int) := by rw [Int.tdiv_eq_ediv_of_nonneg (by omega)]; omega
  have hr : n.tmod 1000 = n % 1000 := Int.tmod_eq_emod_of_nonneg (by omega)
  generalize (n / 1000).toNat = a at hq
  have hwq : IntKind.i64.wrap (a : Int) = a := wrap64 (by have : (a : Int) ≤ n := by rw [← hq, Int.tdiv_eq_ediv_of_nonneg (by omega)]; omega
                                                          omega)
  by_cases h1 : fs.length = F.length
  rotate_left
  · have h1' : ¬ (fs.length : Int) = F.length := by omega
    simp [Nat.testBit, hs, e0, e1, e2, h0, h1, h1', varSetM, hq, hwq, isEff]
    exact Grow.appH _ _
  have h1' : (fs.length : Int) = F.length := by omega
  by_cases h2 : a < fs.length
  rotate_left
  · have hg : fs[a]? = none := List.getElem?_eq_none (by omega)
    have h2' : F.length ≤ a := by omega
    simp [Nat.testBit, hs, e0, e1, e2, h0, h1, h2', varSetM, hq, hwq, hg, isEff]
    exact Grow.appH _ _
  obtain ⟨f, hf⟩ : ∃ f, fs[a]? = some f := ⟨_, List.getElem?_eq_getElem h2⟩
  obtain ⟨x, hx⟩ : ∃ x, F[a]? = some x := ⟨_, List.getElem?_eq_getElem (by omega)⟩
  have h2' : ¬ F.length ≤ a := by omega
  have h2'' : a < F.length := by omega
  have a3 : (encFs fs)[a * 5 + 3]? = some (.sl none f.vars.length (f.vars.map .str)) := encFs_at hf 3 (by omega)
  have b3 := (List.getElem?_eq_some_iff.1 a3).2
  have l3 : a * 5 + 3 < F.length * 5 := by omega
  have c2 : (encFS F)[a * 5 + 2]? = some (.int .i64 x.this) := encFS_at hx 2 (by omega)
  have d2 := (List.getElem?_eq_some_iff.1 c2).2
  have m2 := (List.getElem?_eq_some_iff.1 c2).1
  have hwr : IntKind.i64.wrap (n % 1000) = n % 1000 := wrap64 (by omega)
  have hnn : ¬ (n < 0 ∨ fs.length ≠ F.length) := by omega
  by_cases h3 : (f.vars.length : Int) ≤ n % 1000
  · have hvm : varSetM fs F n = (0, 2) := by
      unfold varSetM
      rw [if_neg hnn]
      simp only [hq, hr, Int.toNat_natCast, hf, hx, if_pos h3]
    rw [hvm]
    simp [Nat.testBit, hs, e0, e1, e2, h0, h1, h2', h2'', hq, hr, hwq, hf, hx, a3, b3, l3, h3, isEff]
    exact Grow.appH _ _
  · have hvm : varSetM fs F n = (IntKind.i64.wrap (IntKind.i64.wrap (x.this - f.vars.length) + n % 1000), 0) := by
      unfold varSetM
      rw [if_neg hnn]
      simp only [hq, hr, Int.toNat_natCast, hf, hx, if_neg h3]
    rw [hvm]
    simp [Nat.testBit, hs, e0, e1, e2, h0, h1, h2', h2'', hq, hr, hwq, hf, hx, a3, b3, l3, h3, isEff]
    simp [Nat.testBit, hs, e0, h1, h2'', a3, b3, l3, c2, d2, m2, isEff]
    exact Grow.appH _ _
theorem rulesM_sys (t : T) : rulV (rulesM t) = .tup [.sl none (rulesM t).1.length (encFs (rulesM t).1), .agg (sysE (rulesM t).2.1.1 (rulesM t).2.1.2.1 (rulesM t).2.1.2.2), .int .i64 (rulesM t).2.2.1, .int .i64 (rulesM t).2.2.2] := rfl
theorem rulesM_lims (t : T) : (rulesM t).1.length ≤ 500 ∧ (rulesM t).2.1.2.1.length ≤ 500 ∧ (rulesM t).2.1.2.2.length ≤ 3 * t.wt := by
 have h1 := (resolve_lims t).1
 have h2 := rT_len (resolve t).1 (baseL ((resolve t).2.1.count : Nat) (resolve t).1) (resolve t).2.1 0 0 (behV (resolve t).1 (baseL ((resolve t).2.1.count : Nat) (resolve t).1) 0 + 2) true
 have h3 := count_wt (resolve t).2.1
 have h4 := resolve_wt t
 unfold rulesM
 simp only
 split
 ·simp
 ·split
  ·simp
  ·simp only [fsL_len]
   exact ⟨h1, h1, by omega⟩
end Go.Proofs.YP
