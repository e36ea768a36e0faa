/- Texts that the laws of the seat rest on: an abstract machine, what the functions answer in it, plain laws. -/
import Derived.Test.YtjehnhppfneidaaGreatDoorRmj
set_option linter.unusedVariables false
set_option linter.unusedSimpArgs false
set_option linter.unusedSectionVars false
set_option maxHeartbeats 8000000
set_option maxRecDepth 20000
namespace Go.Proofs.YP
open Go
theorem IOld.pfx {I I' : List (Nat × Nat)} (h : IOld I.length I I') : I <+: I' := by
 rw [List.prefix_iff_eq_take]
 apply List.ext_getElem?
 intro j
 by_cases hj : j < I.length
 ·rw [List.getElem?_take_of_lt hj, List.getElem?_eq_getElem hj]
  exact (h.get j _ hj (List.getElem?_eq_getElem hj)).symm
 ·rw [List.getElem?_eq_none (by omega), List.getElem?_eq_none (by rw [List.length_take]; omega)]
structure RIn (S : Int) (F : Nat) (r : Rule) : Prop where
 x : 0 ≤ r.x ∧ r.x < S
 y : 0 ≤ r.y ∧ r.y < S
 z : -1 ≤ r.z ∧ r.z < S
 f : 0 ≤ r.f ∧ r.f < F
 n : 0 ≤ r.n
 m : 0 ≤ r.m
theorem getD_in {ps : List Int} {a b : Int} (ha : 0 ≤ b) (h : ∀ p ∈ ps, 0 ≤ p ∧ p ≤ b) (i : Nat) : 0 ≤ ps[i]?.getD 0 ∧ ps[i]?.getD 0 ≤ b := by
 cases e : ps[i]? with
 | none => simp; exact ha
 | some v => simpa using h v (List.mem_of_getElem? e)
theorem own_in {fs bs a S} (h : SetsOk fs bs a S) (haS : a + 2 ≤ S) (op : Int) (s : ByteArray) (n : Int) (l : List T) (x : Int) (k0 : Int) (f : Nat) (to : Int) (hf : f < fs.length) (hg : goodT fs (.mk op s n l x)) (hk0 : 0 ≤ k0) (hk1 : k0 + 1 + (T.countL l : Nat) ≤ a) (hto : 0 ≤ to ∧ to < S) (hm : isMk op = true → 0 ≤ n) :
  ∀ r ∈ ownR fs bs (.mk op s n l x) k0 f to, RIn S fs.length r := by
 have hps := posF_mem (k0 + 1) l
 have hb := h.beh hf
 have ho := h.one
 intro r hr
 unfold ownR ownS at hr
 simp only [T.op_mk, T.n_mk, T.s_mk, T.l_mk] at hr
 generalize posF (k0 + 1) l = ps at hps hr
 have hpa : ∀ p ∈ ps, 0 ≤ p ∧ p ≤ a - 1 := fun p hp => by have := hps p hp; omega
 have g0 := getD_in (a := 0) (by omega) hpa 0
 have g1 := getD_in (a := 0) (by omega) hpa 1
 have g2 := getD_in (a := 0) (by omega) hpa 2
 generalize ps[0]?.getD 0 = p0 at g0 hr
 generalize ps[1]?.getD 0 = p1 at g1 hr
 generalize ps[2]?.getD 0 = p2 at g2 hr
 have hv : isVr op = true → a ≤ vset bs n ∧ vset bs n < S := fun hi => h.var (hg.1 hi)
 have sub : ∀ u v, 0 ≤ u → u < S → 0 ≤ v → v < S → RIn S fs.length (Rule.at f (rSub u v)) := fun u v a1 a2 a3 a4 => ⟨⟨a1, a2⟩, ⟨a3, a4⟩, ⟨by show (-1 : Int) ≤ 0; decide, by show (0 : Int) < S; omega⟩, ⟨by show (0 : Int) ≤ f; omega, by show (f : Int) < fs.length; omega⟩, Int.le_refl _, Int.le_refl _⟩
 by_cases o1 : op = 1
 ·subst o1; have := hv rfl; simp at hr; subst hr; exact sub _ _ (by omega) (by omega) (by omega) (by omega)
 by_cases o8 : op = 8
 ·subst o8; simp at hr; subst hr; exact sub _ _ (by omega) (by omega) (by omega) (by omega)
 by_cases o11 : op = 11
 ·subst o11
  have := hm rfl
  simp at hr
  rcases hr with rfl | ⟨t0, p, hz, rfl⟩
  ·exact ⟨⟨by simp [Rule.at]; omega, by simp [Rule.at]; omega⟩, ⟨by simp [Rule.at], by simp [Rule.at]; omega⟩, ⟨by simp [Rule.at], by simp [Rule.at]; omega⟩, ⟨by simp [Rule.at], by simp [Rule.at]; omega⟩, by simp [Rule.at], by simpa [Rule.at] using this⟩
  ·have hp := hpa p (List.of_mem_zip hz).2
   exact ⟨⟨by simp [Rule.at]; omega, by simp [Rule.at]; omega⟩, ⟨by simp [Rule.at]; omega, by simp [Rule.at]; omega⟩, ⟨by simp [Rule.at], by simp [Rule.at]; omega⟩, ⟨by simp [Rule.at], by simp [Rule.at]; omega⟩, by simp [Rule.at], by simp [Rule.at]⟩
 have gen : ∀ (kd x' y' : Int) (s' : ByteArray), 0 ≤ x' → x' < S → 0 ≤ y' → y' < S → RIn S fs.length (Rule.at f { kind := kd, x := x', y := y', s := s' }) := fun kd x' y' s' a1 a2 a3 a4 =>
  ⟨⟨a1, a2⟩, ⟨a3, a4⟩, ⟨by show (-1 : Int) ≤ 0; decide, by show (0 : Int) < S; omega⟩, ⟨by show (0 : Int) ≤ f; omega, by show (f : Int) < fs.length; omega⟩, Int.le_refl _, Int.le_refl _⟩
 by_cases o13 : op = 13
 ·subst o13; simp at hr; subst hr; exact gen _ _ _ _ (by omega) (by omega) (by omega) (by omega)
 by_cases o14 : op = 14
 ·subst o14; simp at hr; subst hr; exact gen _ _ _ _ (by omega) (by omega) (by omega) (by omega)
 by_cases o17 : op = 17
 ·subst o17
  rcases hl0 : l[0]? with _ | t0
  ·simp [hl0] at hr
  ·simp [hl0] at hr
   rcases hr with rfl | rfl
   ·split
    ·rename_i u1
     have hg0 := goodL_get hg.2.2 hl0
     obtain ⟨op0, s0, n0, l0, x0⟩ := t0
     simp only [T.op_mk] at u1
     subst u1
     have := h.var (hg0.1 rfl)
     exact sub _ _ (by omega) (by omega) (by simp only [T.n_mk]; omega) (by simp only [T.n_mk]; omega)
    ·split
     ·exact gen _ _ _ _ (by omega) (by omega) (by omega) (by omega)
     ·exact gen _ _ _ _ (by omega) (by omega) (by omega) (by omega)
   ·exact sub _ _ (by omega) (by omega) (by omega) (by omega)
 by_cases o21 : op = 21
 ·subst o21; simp at hr; subst hr; exact sub _ _ (by omega) (by omega) (by omega) (by omega)
 by_cases o22 : op = 22
 ·subst o22; simp at hr
  rcases hr with rfl | rfl <;> exact sub _ _ (by omega) (by omega) (by omega) (by omega)
 by_cases o23 : op = 23
 ·subst o23; simp at hr
  rcases hr with rfl | rfl <;> exact sub _ _ (by omega) (by omega) (by omega) (by omega)
 by_cases o15 : op = 15
 ·subst o15
  have := hm rfl
  rcases hl0 : l[0]? with _ | t0
  ·simp [hl0] at hr
  ·simp [hl0] at hr
   subst hr
   refine ⟨⟨by simp [Rule.at]; omega, by simp [Rule.at]; omega⟩, ⟨by simp [Rule.at]; omega, by simp [Rule.at]; omega⟩, ?_, ⟨by simp [Rule.at], by simp [Rule.at]; omega⟩, by simp [Rule.at]; omega, by simpa [Rule.at] using this⟩
   simp only [Rule.at]
   split <;> omega
 by_cases o16 : op = 16
 ·subst o16
  have := hm rfl
  simp at hr
  subst hr
  exact ⟨⟨by simp [Rule.at]; omega, by simp [Rule.at]; omega⟩, ⟨by simp [Rule.at]; omega, by simp [Rule.at]; omega⟩, ⟨by simp [Rule.at], by simp [Rule.at]; omega⟩, ⟨by simp [Rule.at], by simp [Rule.at]; omega⟩, by simp [Rule.at]; omega, by simpa [Rule.at] using this⟩
 by_cases o30 : op = 30
 ·subst o30
  have := hv rfl
  rcases ps with _ | ⟨p, q⟩
  ·simp at hr
  ·have := hpa p (by simp)
   simp at hr; subst hr; exact sub _ _ (by omega) (by omega) (by omega) (by omega)
 by_cases o36 : op = 36
 ·subst o36
  rcases ps with _ | ⟨p, q⟩
  ·simp at hr
  ·have := hpa p (by simp)
   simp at hr; subst hr; exact sub _ _ (by omega) (by omega) (by omega) (by omega)
 by_cases o37 : op = 37
 ·subst o37
  rcases ps with _ | ⟨p, q⟩
  ·simp at hr
  ·have := hpa p (by simp)
   simp at hr; subst hr; exact sub _ _ (by omega) (by omega) (by omega) (by omega)
 ·simp [o1, o8, o11, o13, o14, o17, o21, o22, o23, o15, o16, o30, o36, o37] at hr
theorem oi_in (s : ByteArray) (l : List ByteArray) : -1 ≤ oi (ixS s l) ∧ oi (ixS s l) < l.length := by
 rcases hx : ixS s l with _ | i
 ·simp [oi]; omega
 ·have := ixS_lt s _ i hx; simp [oi]; omega
theorem hd_in {fs bs a S} (h : SetsOk fs bs a S) (haS : a + 2 ≤ S) (op : Int) (s : ByteArray) (n k0 : Int) (f : Nat) (hf : f < fs.length) (hn : 0 ≤ n ∧ n.toNat < fs.length) (hk0 : 0 ≤ k0) (hk1 : k0 < a) : ∀ r ∈ hdR fs bs op s n k0 f, RIn S fs.length r := by
 obtain ⟨F, hF⟩ : ∃ G, fs[f]? = some G := ⟨_, List.getElem?_eq_getElem hf⟩
 obtain ⟨G, hG⟩ : ∃ G, fs[n.toNat]? = some G := ⟨_, List.getElem?_eq_getElem hn.2⟩
 obtain ⟨b, hb, h1, h2⟩ := h.base _ F hF
 obtain ⟨c, hc, h3, h4⟩ := h.base _ G hG
 have i1 := oi_in s F.vars
 have i2 := oi_in s G.vars
 have ho := h.one
 have gen : ∀ x' : Int, 0 ≤ x' → x' < S → RIn S fs.length (Rule.at f { kind := 2, x := x', n := n }) := fun x' a1 a2 =>
  ⟨⟨a1, a2⟩, ⟨by show (0 : Int) ≤ 0; decide, by show (0 : Int) < S; omega⟩, ⟨by show (-1 : Int) ≤ 0; decide, by show (0 : Int) < S; omega⟩, ⟨by show (0 : Int) ≤ f; omega, by show (f : Int) < fs.length; omega⟩, hn.1, Int.le_refl _⟩
 intro r hr
 unfold hdR at hr
 simp only [hF, hG, hb, hc, Option.map_some, Option.getD_some, List.mem_cons] at hr
 rcases hr with rfl | hr
 ·refine gen _ ?_ ?_ <;> (split <;> omega)
 ·split at hr
  ·simp only [List.mem_cons, List.not_mem_nil, or_false] at hr
   subst hr
   exact gen _ (by omega) (by omega)
  ·simp at hr
mutual
theorem rT_in {fs bs a S} (h : SetsOk fs bs a S) (haS : a + 2 ≤ S) : ∀ (t : T) (k0 : Int) (f : Nat) (to : Int) (rd : Bool), f < fs.length → goodT fs t → 0 ≤ k0 → k0 + (t.count : Nat) ≤ a → 0 ≤ to ∧ to < S → (∀ u ∈ flatT t, isMk u.op = true → 0 ≤ u.n) → ∀ r ∈ rT fs bs t k0 f to rd, RIn S fs.length r
 | .mk op s n l x, k0, f, to, rd, hf, hg, hk0, hk1, hto, hm, r, hr => by
  simp only [T.count] at hk1
  have hml : ∀ u ∈ flatL l, isMk u.op = true → 0 ≤ u.n := fun u hu => hm u (by simp [flatT, hu])
  simp only [rT] at hr
  split at hr
  ·rename_i hfn
   obtain ⟨h1, G, h2, h3⟩ := hg.2.1 hfn
   have hgl := (List.getElem?_eq_some_iff.1 h2).1
   rcases List.mem_append.1 hr with hr | hr
   ·exact hd_in h haS op s n k0 f hf ⟨by omega, hgl⟩ hk0 (by omega) r hr
   ·exact rB_in h haS n.toNat (k0 + 1) l hgl hg.2.2 (by omega) (by omega) hml r hr
  ·rcases List.mem_append.1 hr with hr | hr
   ·split at hr
    ·exact own_in h haS op s n l x k0 f to hf hg hk0 (by omega) hto (fun hi => hm (.mk op s n l x) (by simp [flatT]) hi) r hr
    ·simp at hr
   ·refine rL_in h haS op n f to 0 (k0 + 1) l hf hg.2.2 (by omega) (by omega) hto (fun ho => ?_) hml r hr
    have := h.var (hg.1 (by rw [ho]; rfl))
    have := h.one
    omega
theorem rL_in {fs bs a S} (h : SetsOk fs bs a S) (haS : a + 2 ≤ S) (op n : Int) (f : Nat) (to : Int) : ∀ (i : Nat) (c : Int) (l : List T), f < fs.length → goodL fs l → 0 ≤ c → c + (T.countL l : Nat) ≤ a → 0 ≤ to ∧ to < S → (op = 38 → 0 ≤ vset bs n ∧ vset bs n < S) → (∀ u ∈ flatL l, isMk u.op = true → 0 ≤ u.n) → ∀ r ∈ rL fs bs op n f to i c l, RIn S fs.length r
 | _, _, [], _, _, _, _, _, _, _, r, hr => by simp [rL] at hr
 | i, c, t :: q, hf, hg, hc0, hc1, hto, hv, hm, r, hr => by
  simp only [T.countL] at hc1
  simp only [rL] at hr
  rcases List.mem_append.1 hr with hr | hr
  ·refine rT_in h haS t c f _ _ hf hg.1 hc0 (by omega) ?_ (fun u hu => hm u (by simp [flatL, hu])) r hr
   split
   ·rename_i ho; exact hv ho.1
   ·exact hto
  ·exact rL_in h haS op n f to (i + 1) (c + t.count) q hf hg.2 (by omega) (by omega) hto hv (fun u hu => hm u (by simp [flatL, hu])) r hr
theorem rB_in {fs bs a S} (h : SetsOk fs bs a S) (haS : a + 2 ≤ S) (g : Nat) : ∀ (c : Int) (l : List T), g < fs.length → goodL fs l → 0 ≤ c → c + (T.countL l : Nat) ≤ a → (∀ u ∈ flatL l, isMk u.op = true → 0 ≤ u.n) → ∀ r ∈ rB fs bs g c l, RIn S fs.length r
 | _, [], _, _, _, _, _, r, hr => by simp [rB] at hr
 | c, t :: q, hf, hg, hc0, hc1, hm, r, hr => by
  simp only [T.countL] at hc1
  have hb := h.beh hf
  have ho := h.one
  simp only [rB] at hr
  rcases List.mem_append.1 hr with hr | hr
  ·split at hr
   ·exact rT_in h haS t c g _ _ hf hg.1 hc0 (by omega) (by omega) (fun u hu => hm u (by simp [flatL, hu])) r hr
   ·simp at hr
  ·exact rB_in h haS g (c + t.count) q hf hg.2 (by omega) (by omega) (fun u hu => hm u (by simp [flatL, hu])) r hr
end
theorem mks_nonneg (fs : List Fn) : ∀ (l : List T) (m m' : Int), 0 ≤ m → mkF fs l m = some m' → ∀ u ∈ l, isMk u.op = true → 0 ≤ u.n
 | [], _, _, _, _, u, hu, _ => by simp at hu
 | t :: r, m, m', h0, h, u, hu, hi => by
  simp only [mkF] at h
  unfold mkN at h
  split at h
  ·split at h
   ·rename_i hn
    simp only [Option.bind_some] at h
    rcases List.mem_cons.1 hu with rfl | hu
    ·omega
    ·exact mks_nonneg fs r _ _ (by omega) h u hu hi
   ·simp at h
  ·rename_i hm
   rcases List.mem_cons.1 hu with rfl | hu
   ·exact absurd hi hm
   ·split at h
    ·split at h
     ·simp only [Option.bind_some] at h
      exact mks_nonneg fs r _ _ (by omega) h u hu hi
     ·simp at h
    ·simp only [Option.bind_some] at h
     exact mks_nonneg fs r _ _ h0 h u hu hi
theorem rules_in (t : T) (h0 : (resolve t).2.2.2 = 0) (hs : ¬ 100000 < baseE ((resolve t).2.1.count : Nat) (resolve t).1 + 9) : ∀ r ∈ (rulesM t).2.1.2.2, RIn (rulesM t).2.1.1 (resolve t).1.length r := by
 have hgd := resolve_good t h0
 obtain ⟨hgood, -, -, hlen⟩ := hgd
 obtain ⟨m, hm⟩ := resolve_marks t h0
 have hcp := T.count_pos (resolve t).2.1
 have hok := SetsOk.of (resolve t).1 ((resolve t).2.1.count : Nat) (by omega)
 obtain ⟨G, hG⟩ : ∃ G, (resolve t).1[0]? = some G := ⟨_, List.getElem?_eq_getElem hlen⟩
 have hb0 := baseE_mono (resolve t).1 ((resolve t).2.1.count : Nat) 0 G hG
 simp only [List.take_zero, baseE] at hb0
 have hbh := hok.beh hlen
 unfold rulesM
 simp only
 rw [if_neg (by simpa using h0), if_neg hs]
 simp only
 intro r hr
 have := rT_in hok (by omega) (resolve t).2.1 0 0 (behV (resolve t).1 (baseL ((resolve t).2.1.count : Nat) (resolve t).1) 0 + 2) true hlen hgood (Int.le_refl _) (by omega) (by omega) (mks_nonneg _ _ _ _ (by decide) hm) r hr
 obtain ⟨a1, a2, a3, a4, a5, a6⟩ := this
 exact ⟨by omega, by omega, by omega, a4, a5, a6⟩
mutual
theorem flat_wt : ∀ t : T, (flatT t).length ≤ t.wt
 | .mk op s n l x => by
  have := flat_wtL l
  simp only [flatT, T.wt, List.length_cons]; omega
theorem flat_wtL : ∀ l : List T, (flatL l).length ≤ T.wtL l
 | [] => by simp [flatL, T.wtL]
 | t :: r => by
  have := flat_wt t
  have := flat_wtL r
  simp only [flatL, T.wtL, List.length_append]; omega
end
theorem flat_take : ∀ (l : List T) (i : Nat) (t : T), l[i]? = some t → (flatL (l.take (i + 1))) = flatL (l.take i) ++ flatT t
 | [], i, t, h => by simp at h
 | a :: r, 0, t, h => by simp at h; subst h; simp [flatL]
 | a :: r, i + 1, t, h => by
  have := flat_take r i t (by simpa using h)
  simp only [List.take_succ_cons, flatL, this, List.append_assoc]
theorem AccT.apps {E : Env} {H : List ABlk} {m : Nat} {I : List (Nat × Nat)} {ts : List T} {v : AV} (h : AccT m I ts v) (hr : E.rom ≤ m) (hne : ts ≠ []) (us : List T) (hl : ts.length + us.length ≤ 100000000000) :
  ∃ v' I', appA E ⟨H, I⟩ 5 64 v (.sl none us.length (T.encL us)) = some (v', ⟨H, I'⟩) ∧ AccT m I' (ts ++ us) v' ∧ IOld m I I' := by
 have h1 := T.encL_length us
 have h2 := T.encL_one us
 rcases h with ⟨rfl, rfl⟩ | ⟨j, rfl, hj, hi⟩
 ·exact absurd rfl hne
 ·refine ⟨.sl (some j) (ts.length + us.length) (T.encL ts ++ T.encL us), I.set j (ts.length + us.length, 5), ?_, .inr ⟨j, by simp [T.encL_append], hj, ?_⟩, by simp, fun q x hq e => ?_⟩
  ·have hj1 : E.rom ≤ j := by omega
   have hb1 : (ts.length + us.length) * 64 ≤ 70368744177664 := by omega
   have hb2 : ts.length + us.length ≤ 70368744177664 := by omega
   simp only [appA, srcA, h1, decide_true, h2, Bool.and_self, guardb_true, obind_some, T.encL_fin, hj1, hi, T.encL_length, hb1, hb2]
  ·rw [List.getElem?_set_self (List.getElem?_eq_some_iff.1 hi).1]; simp
  ·rw [List.getElem?_set_ne (by omega)]; exact e
theorem f31 (n : Nat) : ∀ t : T, t.wt ≤ n → t.wt ≤ 100000000000 → ∀ k, n + 2 ≤ k → PureC k 31 [.agg t.enc] (.sl none (flatT t).length (T.encL (flatT t))) := by
 induction n with
 | zero => intro t h; cases t; simp [T.wt] at h
 | succ n ih =>
  intro t ht htm k hk E st hE
  obtain ⟨k, rfl⟩ : ∃ k', k = k' + 1 := ⟨k - 1, by omega⟩
  obtain ⟨op, s0, nn, l, line⟩ := t
  simp only [T.wt] at ht htm
  have hlw := T.len_wtL l
  have hrom := hE.rom
  have hgoal : flatT (.mk op s0 nn l line) = .mk op s0 nn l line :: flatL l := rfl
  rw [hgoal]
  refine call_in1 rfl rfl (by decide) fun s hs e0 => ?_
  simp [hs, e0, fillA, wrC]
  refine WP_loop (fun n s m st' => ∃ (j : Nat) (v : AV) (I' : List (Nat × Nat)), j ≤ l.length ∧ n = l.length - j ∧ s.length = 23 ∧ m = [] ∧ lk s 1 = .ptr st.H.length 0 ∧ lk s 3 = v ∧ lk s 4 = .int .i64 j ∧
   st' = ⟨st.H ++ [.cells 24 [.int .i64 op, .str s0, .int .i64 nn, .sl none l.length (T.encL l), .int .i64 line]], I'⟩ ∧ AccT st.I.length I' (.mk op s0 nn l line :: flatL (l.take j)) v ∧ IOld st.I.length st.I I') l.length (by omega)
   ⟨0, .sl (some st.I.length) 1 [.int .i64 op, .str s0, .int .i64 nn, .sl none l.length (T.encL l), .int .i64 line], st.I ++ [(1, 5)], by omega, by omega, by simp [hs], rfl, by simp [hs], by simp [hs], by simp [hs], rfl, .inr ⟨st.I.length, by simp [flatL], Nat.le_refl _, by simp [flatL]⟩, .push _ _ _⟩ ?_
  clear hs e0 s
  rintro _ s m _ ⟨j, v, I', hj, rfl, hs, rfl, e1, e3, e4, rfl, hac, hio⟩
  have hil := hio.len
  by_cases hc : j < l.length
  ·obtain ⟨t, hg⟩ : ∃ t, l[j]? = some t := ⟨_, List.getElem?_eq_getElem hc⟩
   have hrd := T.rd hg
   have hwj := wrap64 (n := (j : Int) + 1) (by omega)
   have hwt := T.wtL_get hg
   have hsp := wtL_split hg
   have hf1 := flat_wtL (l.take j)
   have hf2 := flat_wt t
   have c31 := (ih t (by omega) (by omega) k (by omega)).full (E := E) (st := ⟨st.H ++ [.cells 24 [.int .i64 op, .str s0, .int .i64 nn, .sl none l.length (T.encL l), .int .i64 line]], I'⟩) (by simp) (hE.of (by simp) hil)
   obtain ⟨v', I2, happ, hac2, hio2⟩ := hac.apps (E := E) (H := st.H ++ [.cells 24 [.int .i64 op, .str s0, .int .i64 nn, .sl none l.length (T.encL l), .int .i64 line]]) hrom (by simp) (flatT t) (by simp; omega)
   rw [List.cons_append, ← flat_take l j t hg] at hac2
   rw [T.enc_eq] at hrd
   rw [T.enc_eq t] at c31
   simp [hs, e1, e3, e4, hc, hrd, c31]
   simp [hs, e3, e4, happ, hwj]
   exact ⟨_, by omega, j + 1, v', I2, by omega, rfl, by simp [hs], rfl, by simp [hs, e1], by simp [hs], by simp [hs], rfl, hac2, hio.trans hio2⟩
  ·have hjl : l.take j = l := List.take_of_length_le (by omega)
   rw [hjl] at hac
   have hvf := hac.fin st.I.length (Nat.le_refl _)
   simp [hs, e1, e3, e4, hc]
   exact ⟨⟨List.prefix_append _ _, hio.pfx⟩, by simpa using hvf⟩
theorem fsL_at : ∀ (l : List Fn) (a : Int) (j : Nat) (f : Fn), l[j]? = some f → (fsL a l)[j]? = some (fsF (baseE a (l.take j)) f)
 | [], a, j, f, h => by simp at h
 | g :: r, a, 0, f, h => by simp at h; subst h; simp [fsL, baseE]
 | g :: r, a, j + 1, f, h => by
  simp only [fsL, List.getElem?_cons_succ, List.take_succ_cons, baseE]
  exact fsL_at r _ j f (by simpa using h)
mutual
theorem flat_count : ∀ t : T, (flatT t).length = t.count
 | .mk op s n l x => by simp only [flatT, List.length_cons, T.count, flatL_count l]; omega
theorem flatL_count : ∀ l : List T, (flatL l).length = T.countL l
 | [] => rfl
 | t :: r => by simp only [flatL, List.length_append, T.countL, flat_count t, flatL_count r]
end
mutual
theorem count_bare : ∀ t : T, (bareT t).count = t.count
 | .mk op s n l x => by simp only [bareT, T.count, countL_bare l]
theorem countL_bare : ∀ l : List T, T.countL (bareL l) = T.countL l
 | [] => rfl
 | t :: r => by simp only [bareL, T.countL, count_bare t, countL_bare r]
end
theorem rules_ranges (t : T) : ((rulesM t).2.2.2 ≠ 0 → (rulesM t).2.1.1 = 0) ∧ ((rulesM t).2.2.2 = 0 → (∀ r ∈ (rulesM t).2.1.2.2, RIn (rulesM t).2.1.1 (rulesM t).1.length r) ∧ (rulesM t).2.1.2.1 = fsL (t.count : Nat) (rulesM t).1 ∧ (rulesM t).2.1.1 = baseE (t.count : Nat) (rulesM t).1 + 9 ∧ (rulesM t).2.1.1 ≤ 100000 ∧ (∀ G ∈ (rulesM t).1, G.vars.length ≤ 200)) := by
  by_cases h0 : (resolve t).2.2.2 = 0
  · by_cases hs : 100000 < baseE ((resolve t).2.1.count : Nat) (resolve t).1 + 9
    · have e : rulesM t = ([], (0, [], []), 0, 52) := by
        unfold rulesM
        simp only
        rw [if_neg (by simpa using h0), if_pos hs]
      rw [e]
      exact ⟨fun _ => rfl, fun h => by cases h⟩
    · have hin := rules_in t h0 hs
      have hl := resolve_lims t
      have hc : (resolve t).2.1.count = t.count := by
        have := count_bare (resolve t).2.1
        rw [(resolve_bare t h0).1] at this
        exact this.symm
      have e : rulesM t = ((resolve t).1, (baseE ((resolve t).2.1.count : Nat) (resolve t).1 + 9, fsL ((resolve t).2.1.count : Nat) (resolve t).1, rT (resolve t).1 (baseL ((resolve t).2.1.count : Nat) (resolve t).1) (resolve t).2.1 0 0 (behV (resolve t).1 (baseL ((resolve t).2.1.count : Nat) (resolve t).1) 0 + 2) true), 0, 0) := by
        unfold rulesM
        simp only
        rw [if_neg (by simpa using h0), if_neg hs]
      rw [e] at hin ⊢
      rw [hc] at hin hs ⊢
      exact ⟨fun h => absurd rfl h, fun _ => ⟨hin, rfl, rfl, by simp only; omega, fun G hG => (hl.2 G hG).1⟩⟩
  · have e : rulesM t = ([], (0, [], []), (resolve t).2.2.1, (resolve t).2.2.2) := by
      unfold rulesM
      simp only
      rw [if_pos h0]
    rw [e]
    exact ⟨fun _ => rfl, fun h => absurd h h0⟩
theorem varSet_at (fs : List Fn) (a : Int) (i kk : Nat) (f : Fn) (hf : fs[i]? = some f) (hk : kk < f.vars.length) (hv : f.vars.length ≤ 200) (hb : 0 ≤ baseE a (fs.take i) ∧ baseE a (fs.take i) ≤ 1000000) : varSetM fs (fsL a fs) (1000 * (i : Int) + kk) = (baseE a (fs.take i) + kk, 0) := by
 have h1 : (1000 * (i : Int) + kk).tdiv 1000 = i := by rw [Int.tdiv_eq_ediv_of_nonneg (by omega)]; omega
 have h2 : (1000 * (i : Int) + kk).tmod 1000 = kk := by rw [Int.tmod_eq_emod_of_nonneg (by omega)]; omega
 have hx := fsL_at fs a i f hf
 unfold varSetM
 rw [if_neg (by rw [fsL_len]; omega), h1, h2]
 simp only [Int.toNat_natCast, hf, hx]
 rw [if_neg (by omega)]
 have w1 := wrap64 (n := baseE a (fs.take i)) (by omega)
 have w2 := wrap64 (n := baseE a (fs.take i) + kk) (by omega)
 simp only [fsF, Int.add_sub_cancel, w1, w2]
theorem rnd17a {E : Env} {H : List ABlk} {I : List (Nat × Nat)} (hE : E.Wf ⟨H, I⟩) (S : Int) (fs : List Fn) (fv : AV) (b5 : Nat) (R : List Rule) (hRl : R.length ≤ 1000000000000) (s : List AV) (hs : s.length = 156) (e4 : lk s 4 = .sl none fs.length (encFs fs)) (e5 : lk s 5 = .ptr b5 0) (j : Nat) (e8 : lk s 8 = .int .i64 j)
  (p5 : H[b5]? = some (.cells 49 [.int .i64 S, fv, .sl none R.length (encR R)])) (r : Rule) (hg : R[j]? = some r) (hin : RIn S fs.length r) (m : List Nat) (k : Nat) (Q : Q4)
  (hQ : ∀ s' X, s'.length = 156 → (∀ q, q = 1 ∨ q = 3 ∨ q = 4 ∨ q = 5 → lk s' q = lk s q) → lk s' 8 = .int .i64 ((j + 1 : Nat) : Int) → Q .nrm s' m ⟨H ++ X, I⟩) :
  WP (aCall prog k) E k none l17a s m ⟨H, I⟩ Q := by
 have hmw := mayWrite_new hE
 have hjl := (List.getElem?_eq_some_iff.1 hg).1
 have hrd := encR_rd hg
 have hwj := wrap64 (n := (j : Int) + 1) (by omega)
 have a5 : ∀ y, (H ++ y)[b5]? = _ := fun y => getE_old p5
 simp only [Rule.enc] at hrd
 obtain ⟨⟨x1, x2⟩, ⟨y1, y2⟩, ⟨z1, z2⟩, ⟨f1, f2⟩, n1, m1⟩ := hin
 have c1 : ¬ r.x < 0 := by omega
 have c2 : ¬ S ≤ r.x := by omega
 have c3 : ¬ r.y < 0 := by omega
 have c4 : ¬ S ≤ r.y := by omega
 have c5 : ¬ r.z < -1 := by omega
 have c6 : ¬ S ≤ r.z := by omega
 have c7 : ¬ r.f < 0 := by omega
 have c8 : ¬ (fs.length : Int) ≤ r.f := by omega
 have c9 : ¬ r.n < 0 := by omega
 have c10 : ¬ r.m < 0 := by omega
 unfold l17a
 simp [hs, e5, e8, p5, hjl, hrd, storeA, hmw, wrC]
 simp [hs, e4, e5, a5, c1, c2, c3, c4, c5, c6, c7, c8, c9, c10]
 simp [hs, e8, hwj]
 refine hQ _ _ ?_ (fun q hq => ?_) ?_
 ·simp [hs]
 ·rcases hq with rfl | rfl | rfl | rfl <;> simp [hs]
 ·simp [hs]
theorem rnd17c {E : Env} {st : St} (hE : E.Wf st) (S : Int) (fs : List Fn) (a : Int) (R : List Rule) (b5 : Nat) (s : List AV) (hs : s.length = 156) (e4 : lk s 4 = .sl none fs.length (encFs fs)) (e5 : lk s 5 = .ptr b5 0) (i kk : Nat) (la : Int) (e10 : lk s 10 = .int .i64 la) (e11 : lk s 11 = .int .i64 i) (e12 : lk s 12 = .int .i64 kk)
  (p5 : st.H[b5]? = some (.cells 49 [.int .i64 S, .sl none (fsL a fs).length (encFS (fsL a fs)), .sl none R.length (encR R)])) (f : Fn) (hf : fs[i]? = some f) (hk : kk < f.vars.length) (hv : f.vars.length ≤ 200) (hfl : fs.length ≤ 500) (hb : 0 ≤ baseE a (fs.take i) ∧ baseE a (fs.take i) + f.vars.length ≤ S) (hS : S ≤ 100000) (hla : la < baseE a (fs.take i) + kk) (m : List Nat) (k : Nat) (hk5 : 10 ≤ k) (Q : Q4)
  (hQ : ∀ s', s'.length = 156 → (∀ q, q = 3 ∨ q = 4 ∨ q = 5 ∨ q = 11 → lk s' q = lk s q) → lk s' 12 = .int .i64 ((kk + 1 : Nat) : Int) → lk s' 10 = .int .i64 (baseE a (fs.take i) + kk) → Q .nrm s' m st) :
  WP (aCall prog k) E k none l17c s m st Q := by
 have hil := (List.getElem?_eq_some_iff.1 hf).1
 have a3 : (encFs fs)[i * 5 + 3]? = some (.sl none f.vars.length (f.vars.map .str)) := encFs_at hf 3 (by omega)
 have b3 := (List.getElem?_eq_some_iff.1 a3).2
 have l3 : i * 5 + 3 < fs.length * 5 := by omega
 have hwk := wrap64 (n := (kk : Int) + 1) (by omega)
 have w1 := wrap64 (n := 1000 * (i : Int)) (by omega)
 have w2 := wrap64 (n := 1000 * (i : Int) + kk) (by omega)
 have hvs := varSet_at fs a i kk f hf hk hv (by omega)
 have c38 := (f38 fs (fsL a fs) S R (1000 * (i : Int) + kk) ⟨by omega, by omega⟩ (by omega) (by rw [fsL_len]; omega) k (by omega)).full (E := E) (st := st) (by simp) hE (by simp [sysE, encFS_fin, encR_fin, encFs_fin])
 rw [hvs] at c38
 simp only [sysE] at c38
 have c1 : ¬ baseE a (fs.take i) + kk ≤ la := by omega
 have c2 : ¬ S ≤ baseE a (fs.take i) + kk := by omega
 unfold l17c
 simp [hs, e4, e11, e12, hil, a3, b3, l3, hk]
 simp [hs, e4, e5, e11, e12, p5, w1, w2, c38]
 simp [hs, e5, e10, p5, c1, c2]
 simp [hs, e12, hwk]
 refine hQ _ ?_ (fun q hq => ?_) ?_ ?_
 ·simp [hs]
 ·rcases hq with rfl | rfl | rfl | rfl <;> simp [hs]
 ·simp [hs]
 ·simp [hs]
theorem rnd17b {E : Env} {st : St} (hE : E.Wf st) (S : Int) (fs : List Fn) (a : Int) (ha : 0 ≤ a) (R : List Rule) (b5 : Nat) (s : List AV) (hs : s.length = 156) (e4 : lk s 4 = .sl none fs.length (encFs fs)) (e5 : lk s 5 = .ptr b5 0) (i : Nat) (la : Int) (e10 : lk s 10 = .int .i64 la) (e11 : lk s 11 = .int .i64 i)
  (p5 : st.H[b5]? = some (.cells 49 [.int .i64 S, .sl none (fsL a fs).length (encFS (fsL a fs)), .sl none R.length (encR R)])) (f : Fn) (hf : fs[i]? = some f) (hv : f.vars.length ≤ 200) (hfl : fs.length ≤ 500) (hSe : S = baseE a fs + 9) (hS : S ≤ 100000) (hla : la < baseE a (fs.take i)) (m : List Nat) (k : Nat) (hk5 : 1000 ≤ k) (Q : Q4)
  (hQ : ∀ s' la', s'.length = 156 → (∀ q, q = 3 ∨ q = 4 ∨ q = 5 → lk s' q = lk s q) → lk s' 11 = .int .i64 ((i + 1 : Nat) : Int) → lk s' 10 = .int .i64 la' → la' < baseE a (fs.take (i + 1)) → Q .nrm s' m st) :
  WP (aCall prog k) E k none l17b s m st Q := by
 have hil := (List.getElem?_eq_some_iff.1 hf).1
 have a3 : (encFs fs)[i * 5 + 3]? = some (.sl none f.vars.length (f.vars.map .str)) := encFs_at hf 3 (by omega)
 have b3 := (List.getElem?_eq_some_iff.1 a3).2
 have l3 : i * 5 + 3 < fs.length * 5 := by omega
 have hwi := wrap64 (n := (i : Int) + 1) (by omega)
 have hm := baseE_mono fs a i f hf
 have hg := baseE_ge fs a i
 have hsn := baseE_snoc fs a i f hf
 unfold l17b
 simp [hs, e4, e11, hil]
 refine WP_loop (fun n s' m' st' => ∃ (kk : Nat) (la' : Int), kk ≤ f.vars.length ∧ n = f.vars.length - kk ∧ m' = m ∧ st' = st ∧ s'.length = 156 ∧ (∀ q, q = 3 ∨ q = 4 ∨ q = 5 ∨ q = 11 → lk s' q = lk s q) ∧ lk s' 12 = .int .i64 kk ∧ lk s' 10 = .int .i64 la' ∧ la' < baseE a (fs.take i) + kk) f.vars.length (by omega)
  ⟨0, la, by omega, by omega, rfl, rfl, by simp [hs], fun q hq => by rcases hq with rfl | rfl | rfl | rfl <;> simp [hs], by simp [hs], by simp [hs, e10], by omega⟩ ?_
 rintro _ s' _ _ ⟨kk, la', hkk, rfl, rfl, rfl, hs', hsl, e12', e10', hla'⟩
 by_cases hc : kk < f.vars.length
 ·refine rnd17c hE S fs a R b5 s' hs' ((hsl 4 (by omega)).trans e4) ((hsl 5 (by omega)).trans e5) i kk la' e10' ((hsl 11 (by omega)).trans e11) e12' p5 f hf hc hv hfl (by omega) hS hla' _ k (by omega) _ ?_
  intro s2 r1 r2 r3 r4
  exact ⟨_, by omega, kk + 1, _, by omega, rfl, rfl, rfl, r1, fun q hq => (r2 q hq).trans (hsl q hq), r3, r4, by omega⟩
 ·have : kk = f.vars.length := by omega
  subst this
  have e4' := (hsl 4 (by omega)).trans e4
  have e11' := (hsl 11 (by omega)).trans e11
  unfold l17c
  simp [hs', e4', e11', e12', hil, a3, b3, l3]
  simp [hs', e11', hwi]
  refine hQ _ la' ?_ (fun q hq => ?_) ?_ ?_ (by omega)
  ·simp [hs']
  ·rw [← hsl q (by omega)]
   rcases hq with rfl | rfl | rfl <;> simp [hs']
  ·simp [hs']
  ·simp [hs', e10']
theorem f17 (t : T) (ht : t.ok) (hw : t.wt ≤ 1000000000) (k : Nat) (hk : 40 * t.wt + 2000000 ≤ k) (E : Env) (st : St) (hE : E.Wf st)
  (h32 : ∀ y, doCall (aCall prog k) E .full (.fn 32) [] ⟨st.H ++ [y], st.I⟩ = some (.ok (.bool true), ⟨st.H ++ [y], st.I⟩)) : CallQ (k + 1) E 17 [.agg t.enc] st (Tru st) := by
 have hmw := mayWrite_new hE
 have hcw0 := count_wt t
 have c19 := fun st3 (h : E.Wf st3) => (f19 t k (by omega)).full (E := E) (st := st3) rfl h
 have c33 := fun st3 (h : E.Wf st3) => (rules33 t ht hw k (by omega)).full (E := E) (st := st3) (rulV_refs _) h
 have c31 := fun st3 (h : E.Wf st3) => (f31 _ t (Nat.le_refl _) (by omega) k (by omega)).full (E := E) (st := st3) (by simp) h
 obtain ⟨h1, h2, h3⟩ := rulesM_lims t
 obtain ⟨d1, d2⟩ := rules_ranges t
 have hfc := flat_count t
 have hcp := T.count_pos t
 generalize hF : flatT t = Ft at c31 hfc
 have hFc : (Ft.length : Int) = t.count := by omega
 generalize t.count = tc at *
 obtain ⟨op, s0, nn, l, line⟩ := t
 rw [rulesM_sys] at c33
 generalize rulesM (.mk op s0 nn l line) = Rr at *
 obtain ⟨fs, ⟨S, F, R⟩, x, y⟩ := Rr
 simp only at c33 h1 h2 h3 d1 d2
 simp only [T.enc, sysE] at c19 c33 c31
 refine call_in1 (c0 := y17a) rfl rfl (by decide) fun s hs e0 => ?_
 have hE1 : ∀ y, E.Wf ⟨st.H ++ y, st.I⟩ := fun y => hE.of (by simp) (by simp)
 unfold y17a
 by_cases h : szT 1500 (.mk op s0 nn l line) < 0
 ·simp [hs, e0, h32, c19 _ (hE1 _), h]
  exact .of (Grow.appH _ _)
 by_cases hy : y = 0
 rotate_left
 ·have d1 := d1 hy
  subst d1
  simp [hs, e0, h32, c19 _ (hE1 _), h, c33 _ (hE1 _), storeA, hmw, wrC, hy]
  exact .of (Grow.appH _ _)
 obtain ⟨d3, rfl, d5, d6, d7⟩ := d2 hy
 subst hy
 simp [hs, e0, h32, c19 _ (hE1 _), h, c33 _ (hE1 _), storeA, hmw, wrC]
 refine WP_loop (fun n s m st' => ∃ (j : Nat) (X : List ABlk), j ≤ R.length ∧ n = R.length - j ∧ s.length = 156 ∧ m = [] ∧ lk s 1 = .ptr st.H.length 0 ∧ lk s 3 = .bool true ∧ lk s 4 = .sl none fs.length (encFs fs) ∧ lk s 5 = .ptr (st.H.length + 1) 0 ∧ lk s 8 = .int .i64 j ∧
  st' = ⟨st.H ++ ([.cells 24 [.int .i64 op, .str s0, .int .i64 nn, .sl none l.length (T.encL l), .int .i64 line], .cells 49 [.int .i64 S, .sl none (fsL (tc : Int) fs).length (encFS (fsL (tc : Int) fs)), .sl none R.length (encR R)]] ++ X), st.I⟩) R.length (by omega)
  ⟨0, [], by omega, by omega, by simp [hs], rfl, by simp [hs], by simp [hs], by simp [hs], by simp [hs], by simp [hs], by simp⟩ ?_
 clear hs e0 s
 rintro _ s m _ ⟨j, X, hj, rfl, hs, rfl, e1, e3, e4, e5, e8, rfl⟩
 have q0 : (st.H ++ ([ABlk.cells 24 [.int .i64 op, .str s0, .int .i64 nn, .sl none l.length (T.encL l), .int .i64 line], .cells 49 [.int .i64 S, .sl none (fsL (tc : Int) fs).length (encFS (fsL (tc : Int) fs)), .sl none R.length (encR R)]] ++ X))[st.H.length]? = some (.cells 24 [.int .i64 op, .str s0, .int .i64 nn, .sl none l.length (T.encL l), .int .i64 line]) := by simp
 have q1 : (st.H ++ ([ABlk.cells 24 [.int .i64 op, .str s0, .int .i64 nn, .sl none l.length (T.encL l), .int .i64 line], .cells 49 [.int .i64 S, .sl none (fsL (tc : Int) fs).length (encFS (fsL (tc : Int) fs)), .sl none R.length (encR R)]] ++ X))[st.H.length + 1]? = some (.cells 49 [.int .i64 S, .sl none (fsL (tc : Int) fs).length (encFS (fsL (tc : Int) fs)), .sl none R.length (encR R)]) := by rw [getE_app]; rfl
 by_cases hc : j < R.length
 ·obtain ⟨r, hg⟩ : ∃ r, R[j]? = some r := ⟨_, List.getElem?_eq_getElem hc⟩
  refine rnd17a (hE1 _) S fs _ (st.H.length + 1) R (by omega) s hs e4 e5 j e8 q1 r hg (d3 r (List.mem_of_getElem? hg)) [] k _ ?_
  intro s' X' a b c
  exact ⟨_, by omega, j + 1, X ++ X', by omega, rfl, a, rfl, (b 1 (by omega)).trans e1, (b 3 (by omega)).trans e3, (b 4 (by omega)).trans e4, (b 5 (by omega)).trans e5, c, by simp⟩
 have hjR : j = R.length := by omega
 subst hjR
 have hEf := hE1 ([ABlk.cells 24 [.int .i64 op, .str s0, .int .i64 nn, .sl none l.length (T.encL l), .int .i64 line], .cells 49 [.int .i64 S, .sl none (fsL (tc : Int) fs).length (encFS (fsL (tc : Int) fs)), .sl none R.length (encR R)]] ++ X)
 have hGr : Grow st ⟨st.H ++ ([ABlk.cells 24 [.int .i64 op, .str s0, .int .i64 nn, .sl none l.length (T.encL l), .int .i64 line], .cells 49 [.int .i64 S, .sl none (fsL (tc : Int) fs).length (encFS (fsL (tc : Int) fs)), .sl none R.length (encR R)]] ++ X), st.I⟩ := Grow.appH _ _
 generalize st.H ++ ([ABlk.cells 24 [.int .i64 op, .str s0, .int .i64 nn, .sl none l.length (T.encL l), .int .i64 line], .cells 49 [.int .i64 S, .sl none (fsL (tc : Int) fs).length (encFS (fsL (tc : Int) fs)), .sl none R.length (encR R)]] ++ X) = HH at q0 q1 hEf hGr ⊢
 have hw1 := wrap64 (n := (Ft.length : Int) - 1) (by omega)
 unfold l17a
 simp [hs, e5, e8, q1]
 simp [hs, e1, q0, c31 _ hEf, hw1]
 refine WP_loop (fun n s m st' => ∃ (i : Nat) (la : Int), i ≤ fs.length ∧ n = fs.length - i ∧ m = [] ∧ st' = ⟨HH, st.I⟩ ∧ s.length = 156 ∧ lk s 3 = .bool true ∧ lk s 4 = .sl none fs.length (encFs fs) ∧ lk s 5 = .ptr (st.H.length + 1) 0 ∧ lk s 11 = .int .i64 i ∧ lk s 10 = .int .i64 la ∧ la < baseE (tc : Int) (fs.take i)) fs.length (by omega)
  ⟨0, _, by omega, by omega, rfl, rfl, by simp [hs], by simp [hs, e3], by simp [hs, e4], by simp [hs, e5], by simp [hs], by simp [hs]; rfl, by simp [baseE]; omega⟩ ?_
 clear hs e1 e3 e4 e5 e8 hc hj s
 rintro _ s _ _ ⟨i, la, hi, rfl, rfl, rfl, hs, e3, e4, e5, e11, e10, hla⟩
 by_cases hc : i < fs.length
 ·obtain ⟨f, hf⟩ : ∃ f, fs[i]? = some f := ⟨_, List.getElem?_eq_getElem hc⟩
  refine rnd17b hEf S fs tc (by omega) R (st.H.length + 1) s hs e4 e5 i la e10 e11 q1 f hf (d7 f (List.mem_of_getElem? hf)) h1 d5 d6 hla [] k (by omega) _ ?_
  intro s' la' a b c d e
  exact ⟨_, by omega, i + 1, la', by omega, rfl, rfl, rfl, a, (b 3 (by omega)).trans e3, (b 4 (by omega)).trans e4, (b 5 (by omega)).trans e5, c, d, e⟩
 have : i = fs.length := by omega
 subst this
 have hfl := fsL_len (tc : Int) fs
 unfold l17b
 simp [hs, e4, e11]
 simp [hs, e3, e4, e5, q1, hfl]
 exact .of hGr
theorem says17 (t : T) (ht : t.ok) (hw : t.wt ≤ 1048576) : Says 17 [.agg t.enc] :=
 says_of (f17 t ht (by omega) (40 * t.wt + 2000000) (Nat.le_refl _) E0 ⟨[], []⟩ wf0 (fun y => k32at (by omega) y))
end Go.Proofs.YP
