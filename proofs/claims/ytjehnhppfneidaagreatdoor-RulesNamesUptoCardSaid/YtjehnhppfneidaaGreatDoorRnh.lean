/- Texts that the laws of the seat rest on: an abstract machine, what the functions answer in it, plain laws. -/
import Derived.Test.YtjehnhppfneidaaGreatDoorRng
set_option linter.unusedVariables false
set_option linter.unusedSimpArgs false
set_option linter.unusedSectionVars false
set_option maxHeartbeats 8000000
set_option maxRecDepth 20000
namespace Go.Proofs.YP
open Go
theorem MkS.at' {E mb fs bs o o' rs rv st st1} (h : MkS E mb fs bs o o' rs rv st) (hm : st1.H[mb]? = st.H[mb]?) (hl : st.H.length ≤ st1.H.length) (hi : st1.I = st.I) : MkS E mb fs bs o o' rs rv st1 := by
 obtain ⟨h1, h2, h3, ⟨h4, h5⟩, h6⟩ := h
 exact ⟨h1.of (H := st1.H) (I := st1.I) hl (by rw [hi]; exact Nat.le_refl _), h2, h3, ⟨hm.trans h4, by rw [hi]; exact h5⟩, h6⟩
theorem MkTo.round {E mb F B rs1 rv rv1 st st1 st2 rs2} {l : Nat} {lp busy : ABlk} {X : List ABlk} (h : MkTo E mb F B rv st st1 rs1) (hm : MkR E mb F B rs1 rv1 st1) (hl : l < st.H.length) (hlm : l ≠ mb) (h1 : st1.H[l]? = some lp)
  (k : MkTo E mb F B rv1 ⟨(st1.H ++ X).set l busy, st1.I⟩ st2 rs2) : MkTo E mb F B rv st ⟨st2.H.set l lp, st2.I⟩ rs2 := by
 obtain ⟨⟨rv', ⟨a1, a2⟩, a3⟩, h3, h4, h5⟩ := h
 have e : rv' = rv1 := by
  have := a1.symm.trans hm.1
  simpa using this
 subst e
 obtain ⟨⟨rv2, ⟨b1, b2⟩, b3⟩, k3, k4, k5⟩ := k
 simp only [List.length_set, List.length_append] at k3 k4 k5
 refine ⟨⟨rv2, ⟨by show (List.set _ _ _)[_]? = _; rw [List.getElem?_set_ne hlm]; exact b1, b2⟩, a3.next h5.len b3⟩, fun j hj hn => ?_, by show _ ≤ (List.set _ _ _).length; simp; omega, h5.next a3 k5⟩
 show (List.set _ _ _)[_]? = _
 by_cases hjl : j = l
 ·subst hjl
  rw [List.getElem?_set_self (by omega), ← h1]
  exact h3 j hj hn
 ·rw [List.getElem?_set_ne (Ne.symm hjl), k3 j (by omega) hn, List.getElem?_set_ne (Ne.symm hjl), List.getElem?_append_left (by omega)]
  exact h3 j hj hn
theorem rB_snoc (fs : List Fn) (bs : List Int) (g : Nat) : ∀ (l : List T) (a : Int) (j : Nat) (t : T), l[j]? = some t →
  rB fs bs g a (l.take (j + 1)) = rB fs bs g a (l.take j) ++ (if t.op = 32 then rT fs bs t (a + (T.countL (l.take j) : Nat)) g (behV fs bs g + 2) true else [])
 | [], a, j, t, h => by simp at h
 | u :: r, a, 0, t, h => by
  simp at h; subst h
  simp [rB, T.countL]
 | u :: r, a, j + 1, t, h => by
  have ih := rB_snoc fs bs g r (a + u.count) j t (by simpa using h)
  simp only [List.take_succ_cons, rB, T.countL, ih, List.append_assoc]
  rw [show a + (u.count : Int) + (T.countL (r.take j) : Nat) = a + ((u.count + T.countL (r.take j) : Nat) : Int) by push_cast; omega]
theorem rnd79 {E mb fs bs o o' rs rv st} (h : MkS E mb fs bs o o' rs rv st) (n : Nat) (ih : Spec52 n) (s4 : List AV) (hs4 : s4.length = 118) (b0 b3 b12 g L d : Nat) (th : Int) (e3 : lk s4 3 = .ptr b0 0) (e6 : lk s4 6 = .ptr b3 0) (e12 : lk s4 12 = .ptr b12 0)
  (p0 : st.H[b0]? = some (.cells 78 [.ptr mb 0])) (p3 : st.H[b3]? = some (.cells 3 [.int .i64 g])) (p12 : st.H[b12]? = some (.cells 3 [.int .i64 th])) (hL : st.H[L]? = some (.loop .ready none 0 s4 [106, 107] asg79 body79 d)) (hLm : L ≠ mb) (hLr : E.rob ≤ L)
  (x : T) (hx : x.wt ≤ n) (hxw : x.wt ≤ 10000000000) (kx : Int) (hk0 : 0 ≤ kx) (hk1 : kx + (x.count : Nat) ≤ 1000000000) (hrl : rs.length + 3 * x.count ≤ 10000000000) (hRW : x.op = 32 → RW fs bs g x) (hvs : ∀ G ∈ fs, G.vars.length ≤ 500) (k : Nat) (hk : 20 * x.wt + 1101 ≤ k) :
  CallY k E L [.int .i64 kx, .agg x.enc] st fun r st' => r = .ok (.bool true) ∧ MkTo E mb (.sl o' fs.length (encFs fs)) (.sl o bs.length (bs.map (.int .i64))) rv st st' (rs ++ if x.op = 32 then rT fs bs x kx g th true else []) := by
 obtain ⟨k, rfl⟩ : ∃ k', k = k' + 1 := ⟨k - 1, by omega⟩
 have hmw := mayWrite_new h.wf
 have hll : L < st.H.length := (List.getElem?_eq_some_iff.1 hL).1
 generalize hlp : ABlk.loop .ready none 0 s4 [106, 107] asg79 body79 d = lp at hL
 have hL' := hL
 rw [← hlp] at hL'
 refine round_in hL' rfl hLr ?_
 have hxe := T.enc_eq x
 rw [hxe]
 unfold asg79
 simp [hs4, storeA, hmw, wrC]
 rw [← hxe]
 refine asgQ_in (getE_old hL') ?_
 generalize hbz : ABlk.loop LState.busy none 0 s4 [106, 107] _ body79 d = bz
 have w : ∀ b y, b < st.H.length → b ≠ L → st.H[b]? = some y → ((st.H ++ [ABlk.cells 24 x.enc]).set L bz)[b]? = some y := fun b y hb hn e => by
  rw [List.getElem?_set_ne (Ne.symm hn), List.getElem?_append_left hb]; exact e
 have hne : ∀ b y, st.H[b]? = some y → (∀ z, y = .cells 78 z → b ≠ L) := fun b y e z hz hb => by subst hb; rw [hL] at e; subst hz; rw [← hlp] at e; cases e
 have q0 := w b0 _ (List.getElem?_eq_some_iff.1 p0).1 (fun e => by rw [e, hL, ← hlp] at p0; cases p0) p0
 have q3 := w b3 _ (List.getElem?_eq_some_iff.1 p3).1 (fun e => by rw [e, hL, ← hlp] at p3; cases p3) p3
 have q12 := w b12 _ (List.getElem?_eq_some_iff.1 p12).1 (fun e => by rw [e, hL, ← hlp] at p12; cases p12) p12
 have qx : ((st.H ++ [ABlk.cells 24 x.enc]).set L bz)[st.H.length]? = some (.cells 24 x.enc) := by rw [List.getElem?_set_ne (by omega)]; simp
 have hS : MkS E mb fs bs o o' rs rv ⟨(st.H ++ [ABlk.cells 24 x.enc]).set L bz, st.I⟩ := h.at' (by
  show (List.set _ _ _)[_]? = _
  rw [List.getElem?_set_ne hLm, List.getElem?_append_left (List.getElem?_eq_some_iff.1 h.now.1).1]) (by simp) rfl
 have hR : MkTo E mb (.sl o' fs.length (encFs fs)) (.sl o bs.length (bs.map (.int .i64))) rv st st rs := MkTo.refl h.now
 have c52 := fun h32 => ih x hx hxw hS hvs kx th g true hk0 hk1 hrl (hRW h32) k (by omega)
 generalize hst2 : (⟨(st.H ++ [ABlk.cells 24 x.enc]).set L bz, st.I⟩ : St) = st2 at hS c52
 have hH2 : st2.H = (st.H ++ [ABlk.cells 24 x.enc]).set L bz := by rw [← hst2]
 have hI2 : st2.I = st.I := by rw [← hst2]
 rw [← hH2] at q0 q3 q12 qx
 have hz : st2.H[L]? = some bz := by rw [hH2]; exact List.getElem?_set_self (by simp; omega)
 rw [hxe] at qx c52
 by_cases h32 : x.op = 32
 ·have c := c52 h32
  unfold body79
  simp [hs4, e3, e6, e12, q0, q3, q12, qx, h32, fillA, wrC] at c ⊢
  refine obP_intro c fun p hp => ?_
  obtain ⟨r, s6⟩ := p
  obtain ⟨r1, r2⟩ := hp
  simp only at r1
  subst r1
  simp [hs4]
  have h6 := r2.old L (List.getElem?_eq_some_iff.1 hz).1 hLm
  rw [hz, ← hbz] at h6
  refine endP_in h6 ⟨rfl, ?_⟩
  rw [← hst2] at r2
  have := hR.round h.now hll hLm hL r2
  rw [← hlp] at this
  rw [if_pos h32]
  exact this
 ·unfold body79
  simp [hs4, e3, e6, e12, q0, q3, q12, qx, h32]
  have h6 := hz
  rw [← hbz] at h6
  refine endP_in h6 ⟨rfl, ?_⟩
  have := hR.round h.now hll hLm hL (rs2 := rs) (X := [ABlk.cells 24 x.enc]) (busy := bz) (st2 := st2) (by rw [hst2]; exact MkTo.refl hS.now)
  rw [← hlp] at this
  rw [if_neg h32, List.append_nil]
  exact this
theorem rf79 {E mb fs bs o o' rs rv st} (h : MkS E mb fs bs o o' rs rv st) (n : Nat) (ih : Spec52 n) (t : T) (htw : t.wt ≤ n + 1) (hw : t.wt ≤ 10000000000) (s4 : List AV) (hs4 : s4.length = 118) (b0 b3 g : Nat) (e3 : lk s4 3 = .ptr b0 0) (e6 : lk s4 6 = .ptr b3 0) (e12 : lk s4 12 = .ptr st.H.length 0)
  (p0 : st.H[b0]? = some (.cells 78 [.ptr mb 0])) (p3 : st.H[b3]? = some (.cells 3 [.int .i64 g])) (k0 : Int) (hk0 : 0 ≤ k0) (hk1 : k0 + (t.count : Nat) ≤ 1000000000) (hrl : rs.length + 3 * T.countL t.l ≤ 10000000000) (hRW : RWB fs bs g t.l) (hvs : ∀ G ∈ fs, G.vars.length ≤ 500) (k : Nat) (hk : 20 * t.wt + 1090 ≤ k)
  (enc : List AV) (henc : enc = t.enc) (Q : Q4) (hQ : ∀ st', MkTo E mb (.sl o' fs.length (encFs fs)) (.sl o bs.length (bs.map (.int .i64))) rv st st' (rs ++ rB fs bs g (k0 + 1) t.l) → st.H.length + 5 ≤ st'.H.length → st'.H[st.H.length + 3]? = some .dfr → Q .nrm s4 [st.H.length + 3] st') :
  obP (aCall prog k E (.fn 118) [.yld (st.H.length + 4), .ptr (st.H.length + 2) 0, .ptr (st.H.length + 1) 0] ⟨st.H ++ [.cells 3 [.int .i64 (behV fs bs g + 2)], .cells 24 enc, .cells 3 [.int .i64 k0], .dfr, .loop .ready none 0 s4 [106, 107] asg79 body79 (st.H.length + 3)], st.I⟩)
   (rfQ (st.H.length + 4) s4 [st.H.length + 3] Q) := by
 subst henc
 have hml : mb < st.H.length := (List.getElem?_eq_some_iff.1 h.now.1).1
 have hcw := count_wt t
 have hbl := List.getElem?_eq_some_iff.1 p0
 have hbl3 := List.getElem?_eq_some_iff.1 p3
 have hS3 := h.more [.cells 3 [.int .i64 (behV fs bs g + 2)], .cells 24 t.enc, .cells 3 [.int .i64 k0], .dfr, .loop .ready none 0 s4 [106, 107] asg79 body79 (st.H.length + 3)]
 generalize hst3 : (⟨st.H ++ [.cells 3 [.int .i64 (behV fs bs g + 2)], .cells 24 t.enc, .cells 3 [.int .i64 k0], .dfr, .loop .ready none 0 s4 [106, 107] asg79 body79 (st.H.length + 3)], st.I⟩ : St) = st3 at hS3 ⊢
 have hH3 : st3.H = st.H ++ [.cells 3 [.int .i64 (behV fs bs g + 2)], .cells 24 t.enc, .cells 3 [.int .i64 k0], .dfr, .loop .ready none 0 s4 [106, 107] asg79 body79 (st.H.length + 3)] := by rw [← hst3]
 have hI3 : st3.I = st.I := by rw [← hst3]
 have hl3 : st3.H.length = st.H.length + 5 := by rw [hH3]; simp
 have z0 : st3.H[b0]? = some (.cells 78 [.ptr mb 0]) := by rw [hH3]; exact getE_old p0
 have z3 : st3.H[b3]? = some (.cells 3 [.int .i64 g]) := by rw [hH3]; exact getE_old p3
 have z12 : st3.H[st.H.length]? = some (.cells 3 [.int .i64 (behV fs bs g + 2)]) := by rw [hH3]; simp
 have z1 : st3.H[st.H.length + 1]? = some (.cells 24 t.enc) := by rw [hH3]; simp
 have z2 : st3.H[st.H.length + 2]? = some (.cells 3 [.int .i64 k0]) := by rw [hH3]; simp
 have zd : st3.H[st.H.length + 3]? = some .dfr := by rw [hH3]; simp
 have zl : st3.H[st.H.length + 4]? = some (.loop .ready none 0 s4 [106, 107] asg79 body79 (st.H.length + 3)) := by rw [hH3]; simp
 have hlm : st.H.length + 4 ≠ mb := by omega
 have hb0 : b0 ≠ mb := fun e => by have := h.now.1; rw [← e, p0] at this; cases this
 have hb3 : b3 ≠ mb := fun e => by have := h.now.1; rw [← e, p3] at this; cases this
 clear hst3
 have hwt : T.wtL t.l + 1 ≤ t.wt := by obtain ⟨op, s0, nn, l, x⟩ := t; simp only [T.wt, T.l_mk]; omega
 have hct : T.countL t.l + 1 = t.count := by obtain ⟨op, s0, nn, l, x⟩ := t; simp only [T.count, T.l_mk]; omega
 have hyi : YOKP E (st.H.length + 4) (st.H.length + 5) (20 * T.wtL t.l + 1101) t.l k0 (fun i s' => MkTo E mb (.sl o' fs.length (encFs fs)) (.sl o bs.length (bs.map (.int .i64))) rv st3 s' (rs ++ rB fs bs g (k0 + 1) (t.l.take i))) := by
  intro k2 hk2 i s' x hg hv hE' hB'
  have hct2 := countL_take_succ hg
  have hct3 := countL_take_le t.l (i + 1)
  have hxw := wtL_split hg
  have hrb := rB_len fs bs g (k0 + 1) (t.l.take i)
  obtain ⟨rv', hS'⟩ := hS3.next hv (by simp; omega)
  have hkeep : ∀ q z, q ≠ mb → st3.H[q]? = some z → s'.H[q]? = some z := fun q z hq e => by rw [hv.old q (List.getElem?_eq_some_iff.1 e).1 hq]; exact e
  have c := rnd79 hS' n ih s4 hs4 b0 b3 st.H.length g (st.H.length + 4) (st.H.length + 3) (behV fs bs g + 2) e3 e6 e12 (hkeep _ _ hb0 z0) (hkeep _ _ hb3 z3) (hkeep _ _ (by omega) z12) (hkeep _ _ hlm zl) hlm (by have := h.wf.rob; omega)
   x (by omega) (by omega) (pos k0 t.l i) (by simp only [pos]; omega) (by simp only [pos]; omega) (by simp; omega) (fun ho => RWB_get hRW hg ho) hvs k2 (by omega)
  refine obP_intro c fun p hp => ?_
  obtain ⟨r, s6⟩ := p
  obtain ⟨r1, r2⟩ := hp
  have hsn := rB_snoc fs bs g t.l (k0 + 1) i x hg
  refine ⟨r1, ?_, r2.len, r2.ifr.len, fun q z hq e => ?_⟩
  ·show MkTo _ _ _ _ _ _ _ (rs ++ rB fs bs g (k0 + 1) (t.l.take (i + 1)))
   rw [hsn, ← List.append_assoc]
   exact hv.andThen hS'.now r2
  ·rw [r2.old q (List.getElem?_eq_some_iff.1 e).1 (by omega)]; exact e
 have cI := f118 t hw k0 hk0 (by omega) (E := E) (l := st.H.length + 4) (B := st.H.length + 5) (K := 20 * T.wtL t.l + 1101) (Inv := _) ⟨fun i s1 s2 hv hx hxi => ?_⟩ hyi (by omega) (st := st3) (b1 := st.H.length + 2) (b2 := st.H.length + 1)
  (by simpa [rB] using MkTo.refl hS3.now) hS3.wf (by omega) (fun i s' hv => ⟨by rw [hv.old _ (by omega) (by omega)]; exact z2, by rw [hv.old _ (by omega) (by omega)]; exact z1⟩) k (by omega) (by omega)
 ·refine obP_intro cI fun p hp => ?_
  obtain ⟨r, s7⟩ := p
  obtain ⟨r1, r2, r3, r4, r5⟩ := hp
  simp only at r1 r2 r3
  subst r1
  rw [List.take_of_length_le (Nat.le_refl _)] at r2
  have h7 : s7.H[st.H.length + 4]? = some (.loop .ready none 0 s4 [106, 107] asg79 body79 (st.H.length + 3)) := by rw [r2.old _ (by omega) hlm]; exact zl
  refine ⟨_, _, _, _, _, _, _, _, h7, nofun, ?_⟩
  show Q .nrm s4 _ _
  have r2' := r2.pre (st := st) (fun j hj => by rw [hH3]; exact List.getElem?_append_left hj) (by omega) (by rw [hI3]; exact List.prefix_rfl)
  refine hQ _ (r2'.upd hml (fun j hj => List.getElem?_set_ne (by omega)) (by simp)) (by simp; omega) ?_
  show (List.set _ _ _)[_]? = _
  rw [List.getElem?_set_ne (by omega), r2.old _ (by omega) (by omega)]; exact zd
 ·obtain ⟨⟨rv', ⟨a1, a2⟩, a3⟩, a4, a5, a6⟩ := hv
  have hll : st3.H.length ≤ s2.H.length := by
   have e : s2.H[st.H.length + 4]? = some (.loop .ready none 0 s4 [106, 107] asg79 body79 (st.H.length + 3)) := by rw [hx _ (by omega), a4 _ (by omega) hlm]; exact zl
   have := (List.getElem?_eq_some_iff.1 e).1
   omega
  exact ⟨⟨rv', ⟨by rw [hx _ (by omega)]; exact a1, by rw [hxi]; exact a2⟩, a3⟩, fun j hj hn => by rw [hx j (by omega)]; exact a4 j hj hn, hll, by rw [hxi]; exact a6⟩
theorem f79c {E mb fs bs o o' rs rv st} (h : MkS E mb fs bs o o' rs rv st) (n : Nat) (ih : Spec52 n) (t : T) (htw : t.wt ≤ n + 1) (hw : t.wt ≤ 10000000000) (s : List AV) (hs : s.length = 118) (b0 b1 b2 b3 g : Nat) (k0 : Int) (fv tv : AV) (e3 : lk s 3 = .ptr b0 0) (e4 : lk s 4 = .ptr b1 0) (e5 : lk s 5 = .ptr b2 0) (e6 : lk s 6 = .ptr b3 0)
  (p0 : st.H[b0]? = some (.cells 78 [.ptr mb 0])) (p1 : st.H[b1]? = some (.cells 24 t.enc)) (p2 : st.H[b2]? = some (.cells 87 [.int .i64 k0, fv, tv])) (p3 : st.H[b3]? = some (.cells 3 [.int .i64 g]))
  (hg : BehA fs bs g (behV fs bs g)) (hk0 : 0 ≤ k0) (hk1 : k0 + (t.count : Nat) ≤ 1000000000) (hrl : rs.length + 3 * T.countL t.l ≤ 10000000000) (hRW : RWB fs bs g t.l) (hvs : ∀ G ∈ fs, G.vars.length ≤ 500) (k : Nat) (hk : 20 * t.wt + 1090 ≤ k) :
  WP (aCall prog k) E k none y79c s [] st (endQ [] fun r st' => r = .ok (.tup []) ∧ MkTo E mb (.sl o' fs.length (encFs fs)) (.sl o bs.length (bs.map (.int .i64))) rv st st' (rs ++ rB fs bs g (k0 + 1) t.l)) := by
 have hmw := mayWrite_new h.wf
 have hml : mb < st.H.length := (List.getElem?_eq_some_iff.1 h.now.1).1
 have c51 := h.beh hg [] k (by omega)
 rw [List.append_nil] at c51
 have c51 : aCall prog k E (.fn 51) [.ptr mb 0, .int .i64 g] st = some (.ok (.tup [.int .i64 (behV fs bs g), .int .i64 (behV fs bs g + 1), .int .i64 (behV fs bs g + 2)]), st) := c51
 have c80 := f80 t k0 k (by omega) E ⟨st.H ++ [.cells 3 [.int .i64 (behV fs bs g + 2)]], st.I⟩
 generalize hte : t.enc = enc at p1 c80
 have hel : enc.length = 5 := by rw [← hte]; simp
 obtain ⟨v1, v2, v3, v4, v5, rfl⟩ : ∃ a b c d e, enc = [a, b, c, d, e] := by
  rcases enc with _ | ⟨a, _ | ⟨b, _ | ⟨c, _ | ⟨d, _ | ⟨e, _ | ⟨f, r⟩⟩⟩⟩⟩⟩ <;> simp at hel
  exact ⟨a, b, c, d, e, rfl⟩
 unfold y79c
 simp [hs, e3, e4, e5, e6, p0, p1, p2, p3, c51, storeA, hmw, wrC, getE_old p0, getE_old p1, getE_old p2]
 refine obP_intro c80 fun p hp => ?_
 obtain ⟨r, st2⟩ := p
 obtain ⟨r1, r2⟩ := hp
 simp only at r1 r2
 subst r1 r2
 simp [hs]
 refine WP_rf0 (g := 118) (a := []) (b := [.ptr (st.H.length + 2) 0, .ptr (st.H.length + 1) 0]) (by simp [hs]) (st.H.length + 3) (st.H.length + 4) (by simp) (by simp) ?_
 simp
 refine rf79 h n ih t htw hw _ (by simp [hs]) b0 b3 g (by simp [hs, e3]) (by simp [hs, e6]) (by simp [hs]) p0 p3 k0 hk0 hk1 hrl hRW hvs k hk _ hte.symm _ ?_
 intro st' hM hl hd
 rw [blkQ_nrm]
 obtain ⟨H', et, hl', hg'⟩ := takeAll_ok [st.H.length + 3] st' (by simp) (fun d hd' => by simp only [List.mem_singleton] at hd'; subst hd'; exact hd)
 simp only [endQ, et, obP_some]
 simp
 exact hM.upd hml (fun j hj => hg' j (by simp; omega)) hl'
def rFn (x n : Int) : Rule := { kind := 2, x := x, n := n }
theorem f79b1 {E mb fs bs o o' rs rv st} (h : MkS E mb fs bs o o' rs rv st) (s0 : ByteArray) (nn line : Int) (l : List T) (s : List AV) (hs : s.length = 118) (b1 : Nat) (vg : List ByteArray) (hvl : vg.length ≤ 1000000000000000) (e4 : lk s 4 = .ptr b1 0) (e7 : lk s 7 = .sl none vg.length (vg.map .str))
  (p1 : st.H[b1]? = some (.cells 24 (T.mk 41 s0 nn l line).enc)) (k : Nat) (hk : vg.length + 3 ≤ k) (Q : Q4)
  (hQ : ∀ s', s'.length = 118 → lk s' 3 = lk s 3 → lk s' 4 = lk s 4 → lk s' 5 = lk s 5 → lk s' 6 = lk s 6 → WP (aCall prog k) E k none y79c s' [] st Q) :
  WP (aCall prog k) E k none y79b s [] st Q := by
 have c116 := (f116 none vg s0 (by omega) k (by omega)).full (E := E) (st := st) rfl h.wf
 simp only [T.enc] at p1
 simp only [i64] at c116
 unfold y79b
 simp [hs, e4, e7, p1, c116, isEff]
 simp [Nat.testBit, hs, e4, p1, isEff]
 exact hQ _ (by simp [hs]) (by simp [hs]) (by simp [hs]) (by simp [hs]) (by simp [hs])
theorem f79b2 {E mb fs bs o o' rs rv st} (h : MkS E mb fs bs o o' rs rv st) (s0 : ByteArray) (nn line : Int) (l : List T) (s : List AV) (hs : s.length = 118) (b0 b1 b3 g : Nat) (G : Fn) (hG : fs[g]? = some G) (hvl : G.vars.length ≤ 1000000000000000) (e3 : lk s 3 = .ptr b0 0) (e4 : lk s 4 = .ptr b1 0) (e6 : lk s 6 = .ptr b3 0) (e7 : lk s 7 = .sl none G.vars.length (G.vars.map .str))
  (p0 : st.H[b0]? = some (.cells 78 [.ptr mb 0])) (p1 : st.H[b1]? = some (.cells 24 (T.mk 10 s0 nn l line).enc)) (p3 : st.H[b3]? = some (.cells 3 [.int .i64 g])) (hn : ¬ (G.params : Int) ≤ oi (ixS s0 G.vars)) (k : Nat) (hk : G.vars.length + 3 ≤ k) (Q : Q4)
  (hQ : ∀ s', s'.length = 118 → lk s' 3 = lk s 3 → lk s' 4 = lk s 4 → lk s' 5 = lk s 5 → lk s' 6 = lk s 6 → WP (aCall prog k) E k none y79c s' [] st Q) :
  WP (aCall prog k) E k none y79b s [] st Q := by
 have c116 := (f116 none G.vars s0 (by omega) k (by omega)).full (E := E) (st := st) rfl h.wf
 simp only [T.enc] at p1
 simp only [i64] at c116
 have hm := h.now.1
 have hgl := (List.getElem?_eq_some_iff.1 hG).1
 have hp : (encFs fs)[g * 5 + 2]? = some (.int .i64 G.params) := encFs_at hG 2 (by omega)
 have hp2 := (List.getElem?_eq_some_iff.1 hp).2
 have hp3 : g * 5 + 2 < fs.length * 5 := by omega
 unfold y79b
 simp [hs, e4, e7, p1, c116, isEff]
 simp [Nat.testBit, hs, e3, e4, e6, p0, p1, p3, hm, hgl, hp, hp2, hp3, hn, isEff]
 exact hQ _ (by simp [hs]) (by simp [hs]) (by simp [hs]) (by simp [hs]) (by simp [hs])
theorem f79b3 {E mb fs bs o o' rs rv st} (h : MkS E mb fs bs o o' rs rv st) (s0 : ByteArray) (nn line : Int) (l : List T) (s : List AV) (hs : s.length = 118) (b0 b1 b2 b3 b4 g : Nat) (k0 f to x0 bg : Int) (G : Fn) (hG : fs[g]? = some G) (hvl : G.vars.length ≤ 1000000000000000) (hbg : bs[g]? = some bg) (hbb : 0 ≤ bg ∧ bg ≤ 1000000000000000)
  (e3 : lk s 3 = .ptr b0 0) (e4 : lk s 4 = .ptr b1 0) (e5 : lk s 5 = .ptr b2 0) (e6 : lk s 6 = .ptr b3 0) (e7 : lk s 7 = .sl none G.vars.length (G.vars.map .str)) (e8 : lk s 8 = .ptr b4 0)
  (p0 : st.H[b0]? = some (.cells 78 [.ptr mb 0])) (p1 : st.H[b1]? = some (.cells 24 (T.mk 10 s0 nn l line).enc)) (p2 : st.H[b2]? = some (.cells 87 [.int .i64 k0, .int .i64 f, .int .i64 to])) (p3 : st.H[b3]? = some (.cells 3 [.int .i64 g]))
  (p4 : st.H[b4]? = some (.cells 55 [.int .i64 2, .int .i64 0, .int .i64 x0, .int .i64 0, .int .i64 0, .int .i64 nn, .int .i64 0, .str ⟨#[]⟩, .nils])) (hb : b0 ≠ b4 ∧ b1 ≠ b4 ∧ b2 ≠ b4 ∧ b3 ≠ b4) (hmw4 : ∀ x y, mayWrite E b4 x y = true) (hmb : mb ≠ b4) (hn : (G.params : Int) ≤ oi (ixS s0 G.vars)) (k : Nat) (hk : G.vars.length + 10 ≤ k) (Q : Q4)
  (hQ : ∀ s' st', s'.length = 118 → lk s' 3 = lk s 3 → lk s' 4 = lk s 4 → lk s' 5 = lk s 5 → lk s' 6 = lk s 6 → MkTo E mb (.sl o' fs.length (encFs fs)) (.sl o bs.length (bs.map (.int .i64))) rv ⟨st.H.set b4 (.cells 55 [.int .i64 2, .int .i64 0, .int .i64 (bg + oi (ixS s0 G.vars)), .int .i64 0, .int .i64 0, .int .i64 nn, .int .i64 0, .str ⟨#[]⟩, .nils]), st.I⟩ st' (rs ++ [(rFn (bg + oi (ixS s0 G.vars)) nn).at f]) → WP (aCall prog k) E k none y79c s' [] st' Q) :
  WP (aCall prog k) E k none y79b s [] st Q := by
 have c116 := (f116 none G.vars s0 (by omega) k (by omega)).full (E := E) (st := st) rfl h.wf
 simp only [T.enc] at p1
 simp only [i64] at c116
 have hm := h.now.1
 have hgl := (List.getElem?_eq_some_iff.1 hG).1
 have hp : (encFs fs)[g * 5 + 2]? = some (.int .i64 G.params) := encFs_at hG 2 (by omega)
 have hp2 := (List.getElem?_eq_some_iff.1 hp).2
 have hp3 : g * 5 + 2 < fs.length * 5 := by omega
 have hb1 : (bs.map (AV.int IntKind.i64))[g]? = some (.int .i64 bg) := by rw [List.getElem?_map, hbg]; rfl
 have hb2 := (List.getElem?_eq_some_iff.1 hb1).2
 have hb3 := (List.getElem?_eq_some_iff.1 hbg).1
 have hb4 := (List.getElem?_eq_some_iff.1 hbg).2
 have hoi : -1 ≤ oi (ixS s0 G.vars) ∧ oi (ixS s0 G.vars) ≤ 1000000000000000 := by
  rcases hx : ixS s0 G.vars with _ | i
  ·simp [oi]
  ·have := ixS_lt s0 _ i hx; simp [oi]; omega
 have hwx := wrap64 (n := bg + oi (ixS s0 G.vars)) (by omega)
 obtain ⟨n0, n1, n2, n3⟩ := hb
 have hl4 := (List.getElem?_eq_some_iff.1 p4).1
 have w : ∀ b y z, b ≠ b4 → st.H[b]? = some y → (st.H.set b4 z)[b]? = some y := fun b y z hb e => by rw [List.getElem?_set_ne (Ne.symm hb)]; exact e
 have q0 := fun z => w b0 _ z n0 p0
 have q1 := fun z => w b1 _ z n1 p1
 have q2 := fun z => w b2 _ z n2 p2
 have q3 := fun z => w b3 _ z n3 p3
 have qm := fun z => w mb _ z hmb hm
 have q4 : ∀ z, (st.H.set b4 z)[b4]? = some z := fun z => List.getElem?_set_self hl4
 have hS : ∀ z, MkS E mb fs bs o o' rs rv ⟨st.H.set b4 z, st.I⟩ := fun z => h.at' (by show (List.set _ _ _)[_]? = _; rw [List.getElem?_set_ne (Ne.symm hmb)]) (by simp) rfl
 have c117 := fun z => (hS z).add (X := []) (Y := [(1, 9)]) [rFn (bg + oi (ixS s0 G.vars)) nn] (some st.I.length) f (by simp) k (by simp; omega)
 simp only [encR, rFn, Rule.enc, List.append_nil] at c117
 unfold y79b
 simp [hs, e4, e7, p1, c116, isEff]
 simp [Nat.testBit, hs, e3, e4, e6, p0, p1, p3, hm, hgl, hp, hp2, hp3, hn, isEff]
 simp [Nat.testBit, hs, e3, e4, e6, e8, p0, p1, p3, p4, hm, hgl, hb1, hb2, hb3, hb4, hwx, storeA, hmw4, wrC, isEff]
 simp [Nat.testBit, hs, e3, e5, e8, q0, q2, q4, fillA, wrC]
 refine obP_intro (c117 _) fun p hp => ?_
 obtain ⟨r, st2⟩ := p
 obtain ⟨r1, r2⟩ := hp
 simp only at r1
 subst r1
 simp [hs]
 exact hQ _ _ (by simp [hs]) (by simp [hs]) (by simp [hs]) (by simp [hs]) (by simp [hs]) r2
theorem endQ_mono {rs Q Q' x s m} {st : St} (h : endQ rs Q x s m st) (hq : ∀ r st, Q r st → Q' r st) : endQ rs Q' x s m st := by
 cases x with
 | exit j => exact h
 | pan v => exact obP_intro h fun _ p => hq _ _ p
 | nrm => exact obP_intro h fun _ p => obP_intro p fun _ p => hq _ _ p
 | ret => exact obP_intro h fun _ p => obP_intro p fun _ p => hq _ _ p
def orL (a b : Bool) : Bool := a || b
@[congr] theorem orL_congr {a a' b : Bool} (h : ∀ _ : Unit, lookAt a = a') : orL a b = orL a' b := by rw [← h (), lookAt_eq]
@[simp] theorem orL_true (b : Bool) : orL true b = true := rfl
@[simp] theorem orL_false (b : Bool) : orL false b = b := rfl
def andL (a b : Bool) : Bool := a && b
@[congr] theorem andL_congr {a a' b : Bool} (h : ∀ _ : Unit, lookAt a = a') : andL a b = andL a' b := by rw [← h (), lookAt_eq]
@[simp] theorem andL_true (b : Bool) : andL true b = b := rfl
@[simp] theorem andL_false (b : Bool) : andL false b = false := rfl
def sameX (x : Option (Rt AV × St)) (v : AV) : Bool := match x with
 | some (.ok u, _) => u.beq v
 | _ => false
@[congr] theorem sameX_congr {x x' : Option (Rt AV × St)} {v : AV} (h : ∀ _ : Unit, lookAt x = x') : sameX x v = sameX x' v := by rw [← h (), lookAt_eq]
@[simp] theorem sameX_ok (u : AV) (st : St) (v : AV) : sameX (some (.ok u, st)) v = u.beq v := rfl
section
variable (C : CSem) (E : Env)
def allD (m : Nat) (st : St) : List Done → Bool
 | [] => true
 | d :: r => orL (m.testBit d.i) (sameX (aExec tabs C E d.o.op d.s st) d.v) && allD m st r
end
section
variable {C : CSem} {E : Env}
@[simp] theorem allD_nil (m : Nat) (st : St) : allD C E m st [] = true := nr rfl
@[simp ↓] theorem allD_cons (m : Nat) (st : St) (i : Nat) (o : AOper) (s : List AV) (v : AV) (r : List Done) : allD C E m st (⟨i, o, s, v⟩ :: r) = andL (orL (m.testBit i) (sameX (aExec tabs C E o.op s st) v)) (allD C E m st r) := nr rfl
theorem allD_eq (m : Nat) (st : St) (ds : List Done) : (ds.all fun d => m.testBit d.i || sameAt tabs C E d.o d.s st d.v) = allD C E m st ds := by
 induction ds with
 | nil => rfl
 | cons d r ih => rw [List.all_cons, ih]; rfl
theorem nxtD_ok2L (i o m r ds sts s st) (Q : QR) (v st') : nxtD C E 2 i o m r ds sts s st Q (.ok v, st') = wG (allD C E m st' ds) (WD C E (i + 1) r ds ((some i, st') :: sts) (put s o.dst v) st' Q) := by
 rw [nxtD_ok2, allD_eq]
theorem sb_someL (o s v m e x q st r) : sameBack tabs C E o s v m ((some e, x) :: (q, st) :: r) = orL (m.testBit e) (andL (sameX (aExec tabs C E o.op s st) v) (sameBack tabs C E o s v m ((q, st) :: r))) := by
 rw [sb_some]; rfl
end
theorem f79x (n : Nat) (ih : Spec52 n) (s0 : ByteArray) (nn line : Int) (l : List T) (ht : (T.mk 41 s0 nn l line).wt ≤ n + 1) (hwb : (T.mk 41 s0 nn l line).wt ≤ 10000000000) {E mb fs bs o o' rs rv st} (h : MkS E mb fs bs o o' rs rv st) (hvs : ∀ G ∈ fs, G.vars.length ≤ 500) (k0 to : Int) (f : Nat) (hk0 : 0 ≤ k0)
  (hk1 : k0 + ((T.mk 41 s0 nn l line).count : Nat) ≤ 1000000000) (hrl : rs.length + 3 * (T.mk 41 s0 nn l line).count ≤ 10000000000) (hRW : RW fs bs f (T.mk 41 s0 nn l line)) (k : Nat) (hk : 20 * (T.mk 41 s0 nn l line).wt + 1099 ≤ k) :
  CallQ k E 79 [.ptr mb 0, .agg (T.mk 41 s0 nn l line).enc, .agg [.int .i64 k0, .int .i64 f, .int .i64 to]] st (Made E mb fs bs o o' rv st (rs ++ rT fs bs (T.mk 41 s0 nn l line) k0 f to true)) := by
 obtain ⟨k, rfl⟩ : ∃ k', k = k' + 1 := ⟨k - 1, by omega⟩
 simp only [RW, isFn, decide_true, Bool.or_true, Bool.true_or, if_true] at hRW
 obtain ⟨hbf, ⟨g, rfl, hbg⟩, hRWB⟩ := hRW
 rw [Int.toNat_natCast] at hRWB
 have hrT : rT fs bs (T.mk 41 s0 (g : Int) l line) k0 f to true = hdR fs bs 41 s0 g k0 f ++ rB fs bs g (k0 + 1) l := by simp [rT, isFn]
 rw [hrT]
 obtain ⟨F, bf, hF, hbf1, hbf2, hbf3, hbf4⟩ := hbf.ex
 obtain ⟨G, bg, hG, hbg1, hbg2, hbg3, hbg4⟩ := hbg.ex
 have hvF := hvs F (List.mem_of_getElem? hF)
 have hvG := hvs G (List.mem_of_getElem? hG)
 have hm := h.now.1
 have hml := (List.getElem?_eq_some_iff.1 hm).1
 have hmw := mayWrite_new h.wf
 have hmw1 : ∀ j x y, mayWrite E (st.H.length + j) x y = true := fun j x y => hmw _ _ _ (by omega)
 have hgl := (List.getElem?_eq_some_iff.1 hG).1
 have hv : (encFs fs)[g * 5 + 3]? = some (.sl none G.vars.length (G.vars.map .str)) := encFs_at hG 3 (by omega)
 have hv2 := (List.getElem?_eq_some_iff.1 hv).2
 have hv3 : g * 5 + 3 < fs.length * 5 := by omega
 have hfl := (List.getElem?_eq_some_iff.1 hF).1
 have hu : (encFs fs)[f * 5 + 3]? = some (.sl none F.vars.length (F.vars.map .str)) := encFs_at hF 3 (by omega)
 have hu2 := (List.getElem?_eq_some_iff.1 hu).2
 have hu3 : f * 5 + 3 < fs.length * 5 := by omega
 have hb1 : (bs.map (AV.int IntKind.i64))[f]? = some (.int .i64 bf) := by rw [List.getElem?_map, hbf1]; rfl
 have hb2 := (List.getElem?_eq_some_iff.1 hb1).2
 have hb3 := (List.getElem?_eq_some_iff.1 hbf1).1
 have hb4 := (List.getElem?_eq_some_iff.1 hbf1).2
 have hoi : -1 ≤ oi (ixS s0 F.vars) ∧ oi (ixS s0 F.vars) ≤ 1000 := by
  rcases hx : ixS s0 F.vars with _ | i
  ·simp [oi]
  ·have := ixS_lt s0 _ i hx; simp [oi]; omega
 have hwx := wrap64 (n := bf + oi (ixS s0 F.vars)) (by omega)
 have c116 := fun st3 (h3 : E.Wf st3) => (f116 none F.vars s0 (by omega) k (by omega)).full (E := E) (st := st3) rfl h3
 simp only [i64] at c116
 have hE1 : ∀ X, E.Wf ⟨st.H ++ X, st.I⟩ := fun X => h.wf.of (by simp) (by simp)
 have hS1 := h.more [.cells 78 [.ptr mb 0], .cells 24 (T.mk 41 s0 (g : Int) l line).enc, .cells 87 [.int .i64 k0, .int .i64 f, .int .i64 to], .cells 3 [.int .i64 g], .cells 55 [.int .i64 2, .int .i64 0, .int .i64 (bf + oi (ixS s0 F.vars)), .int .i64 0, .int .i64 0, .int .i64 g, .int .i64 0, .str ⟨#[]⟩, .nils]]
 have c117 := hS1.add (X := []) (Y := [(1, 9)]) [rFn (bf + oi (ixS s0 F.vars)) g] (some st.I.length) f (by simp) k (by simp; omega)
 simp only [encR, rFn, Rule.enc, List.append_nil] at c117
 refine call_in3 (c0 := y79a) rfl rfl (by decide) fun s hs e0 e1 e2 => ?_
 unfold y79a
 simp only [T.enc] at e1 c117
 simp [Nat.testBit, hs, e0, e1, e2, storeA, hmw, hmw1, wrC, fillA, isEff, getE_old hm, hgl, hv, hv2, hv3]
 simp [-nxtD_ok2, -sb_some, nxtD_ok2L, sb_someL, Nat.testBit, hs, e0, storeA, hmw, hmw1, wrC, fillA, isEff, getE_old hm, hfl, hu, hu2, hu3, hb1, hb2, hb3, hb4, c116 _ (hE1 _), hwx]
 simp [Nat.testBit, hs, fillA, wrC, isEff]
 refine obP_intro c117 fun p hp => ?_
 obtain ⟨r, st2⟩ := p
 obtain ⟨r1, r2⟩ := hp
 simp only at r1
 subst r1
 simp [hs]
 obtain ⟨rv2, hS2⟩ := hS1.next r2 (by simp only [List.length_append, List.length_map, List.length_cons, List.length_nil]; omega)
 have kp : ∀ j y, j < 5 → ([.cells 78 [.ptr mb 0], .cells 24 (T.mk 41 s0 (g : Int) l line).enc, .cells 87 [.int .i64 k0, .int .i64 f, .int .i64 to], .cells 3 [.int .i64 g], .cells 55 [.int .i64 2, .int .i64 0, .int .i64 (bf + oi (ixS s0 F.vars)), .int .i64 0, .int .i64 0, .int .i64 g, .int .i64 0, .str ⟨#[]⟩, .nils]] : List ABlk)[j]? = some y → st2.H[st.H.length + j]? = some y := fun j y hj e => by
  rw [r2.old _ (by simp; omega) (by omega)]
  show (st.H ++ _)[_]? = _
  rw [getE_app]; exact e
 have p0 := kp 0 _ (by omega) rfl
 have p1 := kp 1 _ (by omega) rfl
 have p2 := kp 2 _ (by omega) rfl
 have p3 := kp 3 _ (by omega) rfl
 have p4 := kp 4 _ (by omega) rfl
 have hlen2 := r2.len
 simp only [List.length_append, List.length_cons, List.length_nil] at hlen2
 have r2' := r2.pre (st := st) (fun j hj => List.getElem?_append_left hj) (by simp) List.prefix_rfl
 have hcn : (T.mk 41 s0 (g : Int) l line).count = 1 + T.countL l := rfl
 clear kp
 have hh : hdR fs bs 41 s0 g k0 f = [(rFn (bf + oi (ixS s0 F.vars)) g).at f] := by simp [hdR, hF, hbf1, rFn]
 rw [hh]
 refine f79b1 hS2 s0 g line l _ (by simp [hs]) (st.H.length + 1) G.vars (by omega) (by simp [hs]) (by simp [hs]) p1 k (by omega) _ ?_
 intro s' hs' n3 n4 n5 n6
 refine WP_mono (f79c hS2 n ih (.mk 41 s0 g l line) ht hwb s' hs' st.H.length (st.H.length + 1) (st.H.length + 2) (st.H.length + 3) g k0 (.int .i64 f) (.int .i64 to) (by rw [n3]; simp [hs]) (by rw [n4]; simp [hs]) (by rw [n5]; simp [hs]) (by rw [n6]; simp [hs]) p0 p1 p2 p3 hbg hk0 hk1 (by simp; omega) hRWB hvs k (by omega)) fun x s m st' hq => ?_
 refine endQ_mono hq fun r st' hq => ⟨hq.1, ?_⟩
 rw [← List.append_assoc]
 exact r2'.andThen hS2.now (by simpa [rFn] using hq.2)
theorem f79y (n : Nat) (ih : Spec52 n) (s0 : ByteArray) (nn line : Int) (l : List T) (ht : (T.mk 10 s0 nn l line).wt ≤ n + 1) (hwb : (T.mk 10 s0 nn l line).wt ≤ 10000000000) {E mb fs bs o o' rs rv st} (h : MkS E mb fs bs o o' rs rv st) (hvs : ∀ G ∈ fs, G.vars.length ≤ 500) (k0 to : Int) (f : Nat) (hk0 : 0 ≤ k0)
  (hk1 : k0 + ((T.mk 10 s0 nn l line).count : Nat) ≤ 1000000000) (hrl : rs.length + 3 * (T.mk 10 s0 nn l line).count ≤ 10000000000) (hRW : RW fs bs f (T.mk 10 s0 nn l line)) (k : Nat) (hk : 20 * (T.mk 10 s0 nn l line).wt + 1099 ≤ k) :
  CallQ k E 79 [.ptr mb 0, .agg (T.mk 10 s0 nn l line).enc, .agg [.int .i64 k0, .int .i64 f, .int .i64 to]] st (Made E mb fs bs o o' rv st (rs ++ rT fs bs (T.mk 10 s0 nn l line) k0 f to true)) := by
 obtain ⟨k, rfl⟩ : ∃ k', k = k' + 1 := ⟨k - 1, by omega⟩
 simp only [RW, isFn, decide_true, Bool.or_true, Bool.true_or, if_true] at hRW
 obtain ⟨hbf, ⟨g, rfl, hbg⟩, hRWB⟩ := hRW
 rw [Int.toNat_natCast] at hRWB
 have hrT : rT fs bs (T.mk 10 s0 (g : Int) l line) k0 f to true = hdR fs bs 10 s0 g k0 f ++ rB fs bs g (k0 + 1) l := by simp [rT, isFn]
 rw [hrT]
 obtain ⟨F, bf, hF, hbf1, hbf2, hbf3, hbf4⟩ := hbf.ex
 obtain ⟨G, bg, hG, hbg1, hbg2, hbg3, hbg4⟩ := hbg.ex
 have hvF := hvs F (List.mem_of_getElem? hF)
 have hvG := hvs G (List.mem_of_getElem? hG)
 have hm := h.now.1
 have hml := (List.getElem?_eq_some_iff.1 hm).1
 have hmw := mayWrite_new h.wf
 have hmw1 : ∀ j x y, mayWrite E (st.H.length + j) x y = true := fun j x y => hmw _ _ _ (by omega)
 have hgl := (List.getElem?_eq_some_iff.1 hG).1
 have hv : (encFs fs)[g * 5 + 3]? = some (.sl none G.vars.length (G.vars.map .str)) := encFs_at hG 3 (by omega)
 have hv2 := (List.getElem?_eq_some_iff.1 hv).2
 have hv3 : g * 5 + 3 < fs.length * 5 := by omega
 have hS1 := h.more [.cells 78 [.ptr mb 0], .cells 24 (T.mk 10 s0 (g : Int) l line).enc, .cells 87 [.int .i64 k0, .int .i64 f, .int .i64 to], .cells 3 [.int .i64 g], .cells 55 [.int .i64 2, .int .i64 0, .int .i64 k0, .int .i64 0, .int .i64 0, .int .i64 g, .int .i64 0, .str ⟨#[]⟩, .nils]]
 have c117 := hS1.add (X := []) (Y := [(1, 9)]) [rFn k0 g] (some st.I.length) f (by simp) k (by simp; omega)
 simp only [encR, rFn, Rule.enc, List.append_nil] at c117
 refine call_in3 (c0 := y79a) rfl rfl (by decide) fun s hs e0 e1 e2 => ?_
 unfold y79a
 simp only [T.enc] at e1 c117
 simp [Nat.testBit, hs, e0, e1, e2, storeA, hmw, hmw1, wrC, fillA, isEff, getE_old hm, hgl, hv, hv2, hv3]
 simp [Nat.testBit, hs, fillA, wrC, isEff]
 refine obP_intro c117 fun p hp => ?_
 obtain ⟨r, st2⟩ := p
 obtain ⟨r1, r2⟩ := hp
 simp only at r1
 subst r1
 simp [hs]
 obtain ⟨rv2, hS2⟩ := hS1.next r2 (by simp only [List.length_append, List.length_map, List.length_cons, List.length_nil]; omega)
 have kp : ∀ j y, j < 5 → ([.cells 78 [.ptr mb 0], .cells 24 (T.mk 10 s0 (g : Int) l line).enc, .cells 87 [.int .i64 k0, .int .i64 f, .int .i64 to], .cells 3 [.int .i64 g], .cells 55 [.int .i64 2, .int .i64 0, .int .i64 k0, .int .i64 0, .int .i64 0, .int .i64 g, .int .i64 0, .str ⟨#[]⟩, .nils]] : List ABlk)[j]? = some y → st2.H[st.H.length + j]? = some y := fun j y hj e => by
  rw [r2.old _ (by simp; omega) (by omega)]
  show (st.H ++ _)[_]? = _
  rw [getE_app]; exact e
 have p0 := kp 0 _ (by omega) rfl
 have p1 := kp 1 _ (by omega) rfl
 have p2 := kp 2 _ (by omega) rfl
 have p3 := kp 3 _ (by omega) rfl
 have p4 := kp 4 _ (by omega) rfl
 have hlen2 := r2.len
 simp only [List.length_append, List.length_cons, List.length_nil] at hlen2
 have r2' := r2.pre (st := st) (fun j hj => List.getElem?_append_left hj) (by simp) List.prefix_rfl
 have hcn : (T.mk 10 s0 (g : Int) l line).count = 1 + T.countL l := rfl
 clear kp
 by_cases hn : (G.params : Int) ≤ oi (ixS s0 G.vars)
 ·have hh : hdR fs bs 10 s0 g k0 f = [(rFn k0 g).at f] ++ [(rFn (bg + oi (ixS s0 G.vars)) g).at f] := by simp [hdR, hG, hbg1, rFn, hn]
  rw [hh]
  refine f79b3 hS2 s0 g line l _ (by simp [hs]) st.H.length (st.H.length + 1) (st.H.length + 2) (st.H.length + 3) (st.H.length + 4) g k0 f to k0 bg G hG (by omega) hbg1 (by omega) (by simp [hs]) (by simp [hs]) (by simp [hs]) (by simp [hs]) (by simp [hs]) (by simp [hs]) p0 p1 p2 p3 p4 (by omega) (hmw1 4) (by omega) hn k (by omega) _ ?_
  intro s' st3 hs' n3 n4 n5 n6 r3
  generalize hbk : ABlk.cells 55 _ = bk at r3
  have hS2' : MkS E mb fs bs o o' (rs ++ [(rFn k0 g).at f]) rv2 ⟨st2.H.set (st.H.length + 4) bk, st2.I⟩ := hS2.at' (by show (List.set _ _ _)[_]? = _; rw [List.getElem?_set_ne (by omega)]) (by simp) rfl
  obtain ⟨rv3, hS3⟩ := hS2'.next r3 (by simp only [List.length_append, List.length_map, List.length_cons, List.length_nil]; omega)
  have kp : ∀ j y, j < 4 → st2.H[st.H.length + j]? = some y → st3.H[st.H.length + j]? = some y := fun j y hj e => by
   rw [r3.old _ (by simp; omega) (by omega)]
   show (List.set _ _ _)[_]? = _
   rw [List.getElem?_set_ne (by omega)]; exact e
  refine WP_mono (f79c hS3 n ih (.mk 10 s0 g l line) ht hwb s' hs' st.H.length (st.H.length + 1) (st.H.length + 2) (st.H.length + 3) g k0 (.int .i64 f) (.int .i64 to) (by rw [n3]; simp [hs]) (by rw [n4]; simp [hs]) (by rw [n5]; simp [hs]) (by rw [n6]; simp [hs]) (kp 0 _ (by omega) p0) (kp 1 _ (by omega) p1) (kp 2 _ (by omega) p2) (kp 3 _ (by omega) p3) hbg hk0 hk1 (by simp; omega) hRWB hvs k (by omega)) fun x s m st' hq => ?_
  refine endQ_mono hq fun r st' hq => ⟨hq.1, ?_⟩
  have r2s : MkTo E mb (.sl o' fs.length (encFs fs)) (.sl o bs.length (bs.map (.int .i64))) rv st ⟨st2.H.set (st.H.length + 4) bk, st2.I⟩ (rs ++ [(rFn k0 g).at f]) := MkTo.upd (by simpa [rFn] using r2') hml (fun j hj => List.getElem?_set_ne (by omega)) (by simp)
  have r3' := r2s.andThen hS2'.now r3
  have := r3'.andThen hS3.now hq.2
  simpa [rFn] using this
 ·have hh : hdR fs bs 10 s0 g k0 f = [(rFn k0 g).at f] := by simp [hdR, hG, hbg1, rFn, hn]
  rw [hh]
  refine f79b2 hS2 s0 g line l _ (by simp [hs]) st.H.length (st.H.length + 1) (st.H.length + 3) g G hG (by omega) (by simp [hs]) (by simp [hs]) (by simp [hs]) (by simp [hs]) p0 p1 p3 hn k (by omega) _ ?_
  intro s' hs' n3 n4 n5 n6
  refine WP_mono (f79c hS2 n ih (.mk 10 s0 g l line) ht hwb s' hs' st.H.length (st.H.length + 1) (st.H.length + 2) (st.H.length + 3) g k0 (.int .i64 f) (.int .i64 to) (by rw [n3]; simp [hs]) (by rw [n4]; simp [hs]) (by rw [n5]; simp [hs]) (by rw [n6]; simp [hs]) p0 p1 p2 p3 hbg hk0 hk1 (by simp; omega) hRWB hvs k (by omega)) fun x s m st' hq => ?_
  refine endQ_mono hq fun r st' hq => ⟨hq.1, ?_⟩
  rw [← List.append_assoc]
  exact r2'.andThen hS2.now (by simpa [rFn] using hq.2)
theorem f79 (n : Nat) (ih : Spec52 n) : Spec79 (n + 1) := by
 intro t ht hwb hfn E mb fs bs o o' rs rv st h hvs k0 to f hk0 hk1 hrl hRW k hk
 obtain ⟨op, s0, nn, l, line⟩ := t
 have h' : (decide (op = 41) || decide (op = 10)) = true := hfn
 have ho : op = 41 ∨ op = 10 := by simpa using h'
 rcases ho with rfl | rfl
 ·exact f79x n ih s0 nn line l ht hwb h hvs k0 to f hk0 hk1 hrl hRW k hk
 ·exact f79y n ih s0 nn line l ht hwb h hvs k0 to f hk0 hk1 hrl hRW k hk
theorem spec52 : ∀ n, Spec52 n
 | 0 => fun t h => by cases t; simp [T.wt] at h
 | n + 1 => f52 n (spec52 n) (f79 n (spec52 n))
def baseL : Int → List Fn → List Int
 | _, [] => []
 | a, f :: r => a :: baseL (a + (f.vars.length + 3 : Nat)) r
def baseE : Int → List Fn → Int
 | a, [] => a
 | a, f :: r => baseE (a + (f.vars.length + 3 : Nat)) r
theorem baseL_len : ∀ (a : Int) (l : List Fn), (baseL a l).length = l.length
 | _, [] => rfl
 | a, f :: r => by simp only [baseL, List.length_cons, baseL_len _ r]
theorem baseE_snoc : ∀ (l : List Fn) (a : Int) (j : Nat) (f : Fn), l[j]? = some f → baseE a (l.take (j + 1)) = baseE a (l.take j) + (f.vars.length + 3 : Nat)
 | [], a, j, f, h => by simp at h
 | g :: r, a, 0, f, h => by simp at h; subst h; simp [baseE]
 | g :: r, a, j + 1, f, h => by
  simp only [List.take_succ_cons, baseE]
  exact baseE_snoc r _ j f (by simpa using h)
theorem baseL_snoc : ∀ (l : List Fn) (a : Int) (j : Nat) (f : Fn), l[j]? = some f → baseL a (l.take (j + 1)) = baseL a (l.take j) ++ [baseE a (l.take j)]
 | [], a, j, f, h => by simp at h
 | g :: r, a, 0, f, h => by simp at h; subst h; simp [baseL, baseE]
 | g :: r, a, j + 1, f, h => by
  simp only [List.take_succ_cons, baseL, baseE, List.cons_append]
  rw [baseL_snoc r _ j f (by simpa using h)]
theorem baseL_at : ∀ (l : List Fn) (a : Int) (j : Nat), j < l.length → (baseL a l)[j]? = some (baseE a (l.take j))
 | [], a, j, h => by simp at h
 | g :: r, a, 0, h => by simp [baseL, baseE]
 | g :: r, a, j + 1, h => by
  simp only [baseL, List.getElem?_cons_succ, List.take_succ_cons, baseE]
  exact baseL_at r _ j (by simpa using h)
theorem baseE_le : ∀ (l : List Fn) (a : Int) (j : Nat), (∀ f ∈ l, f.vars.length ≤ 500) → a ≤ baseE a (l.take j) ∧ baseE a (l.take j) ≤ a + 503 * (l.length : Int)
 | [], a, j, h => by simp [baseE]
 | g :: r, a, 0, h => by simp [baseE]; omega
 | g :: r, a, j + 1, h => by
  have h1 := h g (by simp)
  have := baseE_le r (a + (g.vars.length + 3 : Nat)) j (fun f hf => h f (by simp [hf]))
  simp only [List.take_succ_cons, baseE, List.length_cons]
  omega
theorem rnd33a {E : Env} {st : St} (hE : E.Wf st) (m0 : Nat) (hm0 : m0 ≤ st.I.length) (mb b3 : Nat) (hmw3 : ∀ x y, mayWrite E mb x y = true) (s : List AV) (hs : s.length = 129) (fs : List Fn) (at_ : Int) (xs : List Int) (bv rv : AV) (j : Nat) (f : Fn) (hg : fs[j]? = some f) (hfl : fs.length ≤ 10000000000)
  (e10 : lk s 10 = .ptr mb 0) (e11 : lk s 11 = .int .i64 at_) (e36 : lk s 36 = .sl none fs.length (encFs fs)) (e37 : lk s 37 = .int .i64 fs.length) (e38 : lk s 38 = .int .i64 j)
  (hm : st.H[mb]? = some (.cells 80 [.sl none fs.length (encFs fs), bv, rv])) (hac : AccI E st.I xs bv) (how : ∀ j, owns bv = some j → m0 ≤ j) (hxl : xs.length ≤ 100000000000) (hat : 0 ≤ at_ ∧ at_ ≤ 100000000000000) (hvl : f.vars.length ≤ 500) (m : List Nat) (k : Nat) (Q : Q4)
  (hQ : ∀ s' st' bv', s'.length = 129 → (∀ i, i = 3 ∨ i = 6 ∨ i = 7 ∨ i = 10 → lk s' i = lk s i) → lk s' 11 = .int .i64 (at_ + (f.vars.length + 3 : Nat)) → lk s' 36 = lk s 36 → lk s' 37 = lk s 37 → lk s' 38 = .int .i64 ((j + 1 : Nat) : Int) →
   st'.H[mb]? = some (.cells 80 [.sl none fs.length (encFs fs), bv', rv]) → AccI E st'.I (xs ++ [at_]) bv' → (∀ j, owns bv' = some j → m0 ≤ j) → (∀ q, q < st.H.length → q ≠ mb → st'.H[q]? = st.H[q]?) → st.H.length ≤ st'.H.length → IOld m0 st.I st'.I → Q .nrm s' m st') :
  WP (aCall prog k) E k none l33a s m st Q := by
 have hmw := mayWrite_new hE
 have hjl := (List.getElem?_eq_some_iff.1 hg).1
 have hrd := encFs_rd hg
 have hwj := wrap64 (n := (j : Int) + 1) (by omega)
 have hw1 := wrap64 (n := (f.vars.length : Int) + 3) (by omega)
 have hw2 := wrap64 (n := at_ + ((f.vars.length : Int) + 3)) (by omega)
 have hml := (List.getElem?_eq_some_iff.1 hm).1
 simp only [Fn.enc] at hrd
 obtain ⟨v', I', happ, hac', hio, how'⟩ := (hac.push (1, 1)).app (m := m0) (by have := hE.rom; simp; omega) (by simp; omega) how hxl (st.H ++ [.cells 43 f.enc]) at_ st.I.length
 simp only [Fn.enc] at happ
 have hvo := hac'.one
 have hvc := hac'.cells
 unfold l33a
 simp [hs, e10, e11, e36, e37, e38, hjl, hrd, storeA, hmw, wrC]
 simp [hs, e10, e11, getE_old hm, fillA, wrC, happ, storeA, hmw3, hvo, hvc]
 have n3 : ∀ x, ((st.H ++ [ABlk.cells 43 f.enc]).set mb x)[st.H.length]? = some (.cells 43 f.enc) := fun x => by rw [List.getElem?_set_ne (by omega)]; simp
 simp only [Fn.enc] at n3
 have n4 : mb ≠ st.H.length := by omega
 simp [hs, e11, e38, n3, n4, List.getElem_set_ne n4, hw1, hw2, hwj]
 refine hQ _ _ v' (by simp [hs]) (fun i hi => by rcases hi with rfl | rfl | rfl | rfl <;> simp [hs]) (by simp [hs]) (by simp [hs]) (by simp [hs]) (by simp [hs]) ?_ hac' how' (fun q hq hn => ?_) (by simp) ((IOld.push _ _ _).trans hio)
 ·show (List.set _ _ _)[_]? = _
  rw [List.getElem?_set_self (by simp; omega)]
 ·show (List.set _ _ _)[_]? = _
  rw [List.getElem?_set_ne (Ne.symm hn), List.getElem?_append_left hq]
structure FS where
 mark : Int
 params : List Int
 this : Int
 ret : Int
 throw : Int
def FS.enc (x : FS) : List AV := [.int .i64 x.mark, .sl none x.params.length (x.params.map (.int .i64)), .int .i64 x.this, .int .i64 x.ret, .int .i64 x.throw]
def encFS : List FS → List AV
 | [] => []
 | x :: r => x.enc ++ encFS r
theorem FS.enc_len (x : FS) : x.enc.length = 5 := rfl
theorem encFS_len : ∀ l, (encFS l).length = l.length * 5
 | [] => rfl
 | x :: l => by simp only [encFS, List.length_append, FS.enc_len, encFS_len l, List.length_cons]; omega
theorem encFS_app : ∀ a b, encFS (a ++ b) = encFS a ++ encFS b
 | [], b => rfl
 | r :: a, b => by simp only [List.cons_append, encFS, encFS_app a b, List.append_assoc]
theorem FS.enc_fin (m : Nat) (r : FS) : AV.finL m r.enc = r.enc := by simp [FS.enc, ints_fin]
theorem FS.enc_one (r : FS) : r.enc.all AV.one = true := by simp [FS.enc, AV.one]
theorem FS.enc_refs (r : FS) : AV.refsL r.enc = [] := by simp [FS.enc, ints_refs]
theorem encFS_fin (m : Nat) : ∀ l, AV.finL m (encFS l) = encFS l
 | [] => by simp [encFS]
 | r :: l => by simp only [encFS, finL_app2, FS.enc_fin, encFS_fin m l]
theorem encFS_refs : ∀ l, AV.refsL (encFS l) = []
 | [] => by simp [encFS]
 | r :: l => by simp only [encFS, refsL_append, FS.enc_refs, encFS_refs l, List.append_nil]
theorem encFS_at : ∀ {l : List FS} {i : Nat} {x : FS}, l[i]? = some x → ∀ j, j < 5 → (encFS l)[i * 5 + j]? = x.enc[j]?
 | [], i, x, h, j, hj => by simp at h
 | a :: l, 0, x, h, j, hj => by
  simp at h; subst h
  simp only [encFS, Nat.zero_mul, Nat.zero_add]
  rw [List.getElem?_append_left (by rw [FS.enc_len]; exact hj)]
 | a :: l, i + 1, x, h, j, hj => by
  have ih := encFS_at (l := l) (i := i) (by simpa using h) j hj
  simp only [encFS]
  rw [List.getElem?_append_right (by rw [FS.enc_len]; omega), FS.enc_len, ← ih]
  congr 1; omega
theorem encFS_rd : ∀ {l : List FS} {i : Nat} {r : FS}, l[i]? = some r → rdC (some 5) (encFS l) (i * 5) = some (.agg r.enc)
 | [], i, r, h => by simp at h
 | a :: l, 0, r, h => by
  simp at h; subst h
  simp [rdC, encFS, FS.enc]
 | a :: l, i + 1, r, h => by
  have ih := encFS_rd (l := l) (i := i) (by simpa using h)
  have hl := FS.enc_len a
  rw [show (i + 1) * 5 = 5 + i * 5 by omega]
  simp only [rdC, encFS] at ih ⊢
  rw [← List.drop_drop, List.drop_left' hl]
  simpa [hl, encFS_len, Nat.add_assoc, Nat.add_comm, Nat.add_left_comm] using ih
def AccX (E : Env) (I : List (Nat × Nat)) (rs : List FS) (v : AV) : Prop :=
 (rs = [] ∧ v = .nils) ∨ (rs ≠ [] ∧ ∃ i, v = .sl (some i) rs.length (encFS rs) ∧ E.rom ≤ i ∧ I[i]? = some (rs.length, 5))
theorem AccX.one {E I rs v} (h : AccX E I rs v) : v.one = true := by rcases h with ⟨-, rfl⟩ | ⟨-, j, rfl, -, -⟩ <;> rfl
theorem AccX.cells {E I rs v} (h : AccX E I rs v) : v.cells = [v] := by rcases h with ⟨-, rfl⟩ | ⟨-, j, rfl, -, -⟩ <;> rfl
theorem AccX.old {E I I' rs v} {m : Nat} (h : AccX E I rs v) (ho : ∀ j, owns v = some j → j < m) (hi : IOld m I I') : AccX E I' rs v := by
 rcases h with h | ⟨h0, j, e, hj, hx⟩
 ·exact .inl h
 ·exact .inr ⟨h0, j, e, hj, hi.get _ _ (ho j (by rw [e]; rfl)) hx⟩
theorem AccX.push {E I rs v} (h : AccX E I rs v) (x : Nat × Nat) : AccX E (I ++ [x]) rs v := by
 rcases h with h | ⟨h0, j, e, hj, hi⟩
 ·exact .inl h
 ·exact .inr ⟨h0, j, e, hj, by rw [List.getElem?_append_left (List.getElem?_eq_some_iff.1 hi).1]; exact hi⟩
theorem AccX.fin {E I rs v} (h : AccX E I rs v) (m : Nat) (ho : ∀ j, owns v = some j → m ≤ j) : v.fin m = .sl none rs.length (encFS rs) := by
 rcases h with ⟨rfl, rfl⟩ | ⟨-, j, rfl, hj, hi⟩
 ·rfl
 ·have := ho j rfl
  have : ¬ j < m := by omega
  simp [encFS_fin, this]
theorem AccX.app {E : Env} {I : List (Nat × Nat)} {rs : List FS} {v : AV} {m : Nat} (h : AccX E I rs v) (hr : E.rom ≤ I.length) (hm : m ≤ I.length) (ho : ∀ j, owns v = some j → m ≤ j) (hl : rs.length ≤ 100000000000) (H : List ABlk) (r : FS) (q : Nat) :
  ∃ v' I', appA E ⟨H, I⟩ 5 56 v (.sl (some q) 1 r.enc) = some (v', ⟨H, I'⟩) ∧ AccX E I' (rs ++ [r]) v' ∧ IOld m I I' ∧ (∀ j, owns v' = some j → m ≤ j) := by
 have h1 : r.enc.length = 1 * 5 := rfl
 have h2 := FS.enc_one r
 rcases h with ⟨rfl, rfl⟩ | ⟨h0, j, rfl, hj1, hj2⟩
 ·refine ⟨.sl (some I.length) 1 r.enc, I ++ [(1, 5)], ?_, .inr ⟨by simp, I.length, by simp [encFS], hr, by simp⟩, .push _ _ _, fun j e => by simp [owns] at e; omega⟩
  simp only [appA, srcA, h1, decide_true, h2, Bool.and_self, guardb_true, obind_some, FS.enc_fin]
  rfl
 ·have hb1 : (rs.length + 1) * 56 ≤ 70368744177664 := by omega
  have hb2 : rs.length + 1 ≤ 70368744177664 := by omega
  have hmj := ho j rfl
  refine ⟨.sl (some j) (rs.length + 1) (encFS rs ++ r.enc), I.set j (rs.length + 1, 5), ?_, .inr ⟨by simp, j, by simp [encFS_app, encFS], hj1, ?_⟩, ⟨by simp, fun q x n e => ?_⟩, fun j' e => ?_⟩
  ·simp only [appA, srcA, h1, decide_true, h2, Bool.and_self, guardb_true, obind_some, FS.enc_fin, hj1, hj2, encFS_len, hb1, hb2]
  ·rw [List.getElem?_set_self (List.getElem?_eq_some_iff.1 hj2).1]; simp
  ·rw [List.getElem?_set_ne (by omega)]; exact e
  ·simp [owns] at e; omega
def parL (b : Int) : Nat → List Int
 | 0 => []
 | n + 1 => parL b n ++ [b + n]
theorem parL_len (b : Int) : ∀ n, (parL b n).length = n
 | 0 => rfl
 | n + 1 => by simp [parL, parL_len b n]
theorem AccI.fin0 {E I xs v} (h : AccI E I xs v) : v.fin 0 = .sl none xs.length (xs.map (.int .i64)) := by
 rcases h with ⟨rfl, rfl⟩ | ⟨-, j, rfl, -, -⟩
 ·rfl
 ·simp [ints_fin]
theorem rnd33c {E : Env} {st : St} (hE : E.Wf st) (m0 : Nat) (hm0 : m0 ≤ st.I.length) (mb W j n : Nat) (hmwW : ∀ x y, mayWrite E W x y = true) (s : List AV) (hs : s.length = 129) (F rv pv z0 z2 z3 z4 : AV) (bs : List Int) (o : Option Nat) (b : Int) (hb : bs[j]? = some b) (hbb : 0 ≤ b ∧ b ≤ 100000000000000) (kk : Nat) (hkk : kk < n) (hn : n ≤ 1000)
  (e10 : lk s 10 = .ptr mb 0) (e15 : lk s 15 = .int .i64 j) (e17 : lk s 17 = .ptr W 0) (e87 : lk s 87 = .int .i64 n) (e88 : lk s 88 = .int .i64 kk)
  (hm : st.H[mb]? = some (.cells 80 [F, .sl o bs.length (bs.map (.int .i64)), rv])) (hW : st.H[W]? = some (.cells 82 [z0, pv, z2, z3, z4])) (hac : AccI E st.I (parL b kk) pv) (how : ∀ j, owns pv = some j → m0 ≤ j) (m : List Nat) (k : Nat) (Q : Q4)
  (hQ : ∀ s' st' pv', s'.length = 129 → (∀ i, i < 88 → i ≠ 18 → lk s' i = lk s i) → lk s' 88 = .int .i64 ((kk + 1 : Nat) : Int) → st'.H[W]? = some (.cells 82 [z0, pv', z2, z3, z4]) → AccI E st'.I (parL b (kk + 1)) pv' → (∀ j, owns pv' = some j → m0 ≤ j) →
   (∀ q, q ≠ W → st'.H[q]? = st.H[q]?) → st'.H.length = st.H.length → IOld m0 st.I st'.I → Q .nrm s' m st') :
  WP (aCall prog k) E k none l33c s m st Q := by
 have hwj := wrap64 (n := (kk : Int) + 1) (by omega)
 have hwb := wrap64 (n := b + (kk : Int)) (by omega)
 have hb1 : (bs.map (AV.int IntKind.i64))[j]? = some (.int .i64 b) := by rw [List.getElem?_map, hb]; rfl
 have hb2 := (List.getElem?_eq_some_iff.1 hb1).2
 have hb3 := (List.getElem?_eq_some_iff.1 hb).1
 have hb4 := (List.getElem?_eq_some_iff.1 hb).2
 obtain ⟨v', I', happ, hac', hio, how'⟩ := (hac.push (1, 1)).app (m := m0) (by have := hE.rom; simp; omega) (by simp; omega) how (by rw [parL_len]; omega) st.H (b + kk) st.I.length
 have hvo := hac'.one
 have hvc := hac'.cells
 have hpo := hac.one
 unfold l33c
 simp [hs, e87, e88, hkk]
 simp [Nat.testBit, hs, e10, e15, e17, hm, hW, hb1, hb2, hb3, hb4, hwb, fillA, wrC, happ, storeA, hmwW, hvo, hvc]
 simp [hs, e88, hwj]
 refine hQ _ _ v' (by simp [hs]) (fun i h1 h2 => ?_) (by simp [hs]) ?_ hac' how' (fun q hq => ?_) (by simp) ((IOld.push _ _ _).trans hio)
 ·simp only [lk_set, List.length_set]
  repeat' rw [if_neg (by omega)]
 ·show (List.set _ _ _)[_]? = _
  rw [List.getElem?_set_self (List.getElem?_eq_some_iff.1 hW).1]
 ·show (List.set _ _ _)[_]? = _
  rw [List.getElem?_set_ne (Ne.symm hq)]
def fsF (b : Int) (f : Fn) : FS := { mark := f.mark, params := parL b f.params, this := b + f.vars.length, ret := b + f.vars.length + 1, throw := b + f.vars.length + 2 }
theorem AccX.ownLt {E I rs v} (h : AccX E I rs v) : ∀ j, owns v = some j → j < I.length := fun j e => by
 rcases h with ⟨rfl, rfl⟩ | ⟨-, i, rfl, -, hx⟩
 ·simp [owns] at e
 ·simp [owns] at e; subst e; exact (List.getElem?_eq_some_iff.1 hx).1
theorem IOld.le {m m' : Nat} {I I' : List (Nat × Nat)} (h : IOld m I I') (hm : m' ≤ m) : IOld m' I I' := ⟨h.len, fun j x hj e => h.get j x (by omega) e⟩
theorem rnd33b {E : Env} {st : St} (hE : E.Wf st) (m0 : Nat) (hm0 : m0 ≤ st.I.length) (mb V : Nat) (hmwV : ∀ x y, mayWrite E V x y = true) (s : List AV) (hs : s.length = 129) (fs : List Fn) (bs : List Int) (o : Option Nat) (rv fv sets zz : AV) (rs : List FS) (j : Nat) (f : Fn) (hg : fs[j]? = some f) (hfl : fs.length ≤ 10000000000) (b : Int) (hb : bs[j]? = some b) (hbb : 0 ≤ b ∧ b ≤ 10000000000000)
    (hpl : f.params ≤ 1000) (hvl : f.vars.length ≤ 1000) (e10 : lk s 10 = .ptr mb 0) (e14 : lk s 14 = .ptr V 0) (e66 : lk s 66 = .sl none fs.length (encFs fs)) (e67 : lk s 67 = .int .i64 fs.length) (e68 : lk s 68 = .int .i64 j)
    (hm : st.H[mb]? = some (.cells 80 [.sl none fs.length (encFs fs), .sl o bs.length (bs.map (.int .i64)), rv])) (hV : st.H[V]? = some (.cells 49 [sets, fv, zz])) (hac : AccX E st.I rs fv) (how : ∀ j, owns fv = some j → m0 ≤ j) (hrl : rs.length ≤ 100000000000) (m : List Nat) (k : Nat) (hk : 1002 ≤ k) (Q : Q4)
    (hQ : ∀ s' st' fv', s'.length = 129 → (∀ i, i = 3 ∨ i = 6 ∨ i = 7 ∨ i = 10 ∨ i = 14 ∨ i = 66 ∨ i = 67 → lk s' i = lk s i) → lk s' 68 = .int .i64 ((j + 1 : Nat) : Int) → st'.H[V]? = some (.cells 49 [sets, fv', zz]) → AccX E st'.I (rs ++ [fsF b f]) fv' → (∀ j, owns fv' = some j → m0 ≤ j) →
      (∀ q, q < st.H.length → q ≠ V → st'.H[q]? = st.H[q]?) → st.H.length ≤ st'.H.length → IOld m0 st.I st'.I → Q .nrm s' m st') :
    WP (aCall prog k) E k none l33b s m st Q := by
  have hmw := mayWrite_new hE
  have hmw1 : ∀ x y, mayWrite E (st.H.length + 1) x y = true := fun x y => hmw _ _ _ (by omega)
  have hmw1' : ∀ q x y, mayWrite E (st.H.length + q) x y = true := fun q x y => hmw _ _ _ (by omega)
  have hjl := (List.getElem?_eq_some_iff.1 hg).1
  have hrd := encFs_rd hg
  have hwj := wrap64 (n := (j : Int) + 1) (by omega)
  have hVl := (List.getElem?_eq_some_iff.1 hV).1
  have hml := (List.getElem?_eq_some_iff.1 hm).1
  have hVm : V ≠ mb := fun e => by rw [e, hm] at hV; cases hV
  simp only [Fn.enc] at hrd
  have c51 := callQ_eq (f51 (E := E) (st := ⟨st.H ++ [.cells 43 f.enc, .cells 82 [.int .i64 f.mark, .nils, .int .i64 0, .int .i64 0, .int .i64 0]], st.I⟩) fs bs j f b (getE_old hm) hg hb hbb.1 (by omega) k (by omega))
  simp only [Fn.enc] at c51
  unfold l33b
  simp [hs, e10, e14, e66, e67, e68, hjl, hrd, storeA, hmw, hmw1, hmw1', wrC, fillA]
  simp [hs, e10, c51, storeA, hmw1, hmw1', wrC]
  refine WP_loop (fun n s' m' st' => ∃ (kk : Nat) (pv : AV), kk ≤ f.params ∧ n = f.params - kk ∧ s'.length = 129 ∧ m' = m ∧ (∀ i, i = 3 ∨ i = 6 ∨ i = 7 ∨ i = 10 ∨ i = 14 ∨ i = 66 ∨ i = 67 ∨ i = 68 → lk s' i = lk s i) ∧ lk s' 15 = .int .i64 j ∧ lk s' 17 = .ptr (st.H.length + 1) 0 ∧ lk s' 87 = .int .i64 f.params ∧ lk s' 88 = .int .i64 kk ∧
      st'.H[st.H.length + 1]? = some (.cells 82 [.int .i64 f.mark, pv, .int .i64 (b + f.vars.length), .int .i64 (b + f.vars.length + 1), .int .i64 (b + f.vars.length + 2)]) ∧ AccI E st'.I (parL b kk) pv ∧ (∀ j, owns pv = some j → st.I.length ≤ j) ∧ (∀ q, q < st.H.length → st'.H[q]? = st.H[q]?) ∧ st'.H.length = st.H.length + 2 ∧ IOld st.I.length st.I st'.I) f.params (by omega)
    ⟨0, .nils, by omega, by omega, by simp [hs], rfl, fun i hi => by rcases hi with rfl | rfl | rfl | rfl | rfl | rfl | rfl | rfl <;> simp [hs], by simp [hs], by simp [hs], by simp [hs], by simp [hs], by simp, .inl ⟨rfl, rfl⟩, fun j e => by simp [owns] at e, fun q hq => by show (_ ++ _)[_]? = _; rw [List.getElem?_append_left hq], by simp, .refl _ _⟩ ?_
  clear hs
  rintro _ s' m' st' ⟨kk, pv, hkk, rfl, hs, rfl, hsl, e15, e17, e87, e88, hW, hacp, howp, hold, hlen, hio⟩
  have hE' : E.Wf st' := hE.of (H := st'.H) (I := st'.I) (by omega) hio.len
  by_cases hc : kk < f.params
  · refine rnd33c hE' st.I.length hio.len mb (st.H.length + 1) j f.params hmw1 s' hs (.sl none fs.length (encFs fs)) rv pv _ _ _ _ bs o b hb (by omega) kk hc hpl (by rw [hsl 10 (by omega)]; exact e10) e15 e17 e87 e88 (by rw [hold mb hml]; exact hm) hW hacp howp m' k _ ?_
    intro s2 st2 pv' r1 r2 r3 r4 r5 r6 r7 r8 r9
    exact ⟨_, by omega, kk + 1, pv', by omega, rfl, r1, rfl, fun i hi => by rw [r2 i (by omega) (by omega)]; exact hsl i hi, by rw [r2 15 (by omega) (by omega)]; exact e15, by rw [r2 17 (by omega) (by omega)]; exact e17, by rw [r2 87 (by omega) (by omega)]; exact e87, r3, r4, r5, r6, fun q hq => by rw [r7 q (by omega)]; exact hold q hq, by omega, hio.trans r9⟩
  have : kk = f.params := by omega
  subst this
  have hV' : st'.H[V]? = some (.cells 49 [sets, fv, zz]) := by rw [hold V hVl]; exact hV
  have hac2 : AccX E st'.I rs fv := hac.old hac.ownLt hio
  have hfin := hacp.fin0
  have hpo := hacp.one
  have hpc := hacp.cells
  have hpl2 := parL_len b f.params
  rw [hpl2] at hfin
  obtain ⟨v', I', happ, hac', hio', how'⟩ := (hac2.push (1, 5)).app (m := m0) (by have := hE'.rom; simp; omega) (by have := hio.len; simp; omega) how hrl st'.H (fsF b f) st'.I.length
  have hvo := hac'.one
  have hvc := hac'.cells
  simp only [fsF, FS.enc, hpl2] at happ
  have e14' : lk s' 14 = .ptr V 0 := by rw [hsl 14 (by omega)]; exact e14
  have e68' : lk s' 68 = .int .i64 j := by rw [hsl 68 (by omega)]; exact e68
  unfold l33c
  simp [hs, e87, e88]
  simp [hs, e14', e17, hV', hW, fillA, wrC, hfin, happ, storeA, hmwV, hvo, hvc, hpo]
  simp [hs, e68', hwj]
  refine hQ _ _ v' (by simp [hs]) (fun i hi => ?_) (by simp [hs]) ?_ hac' how' (fun q hq hn => ?_) (by simp; omega) ((hio.le hm0).trans ((IOld.push _ _ _).trans hio'))
  · rw [← hsl i (by omega)]
    rcases hi with rfl | rfl | rfl | rfl | rfl | rfl | rfl <;> simp [hs]
  · show (List.set _ _ _)[_]? = _
    rw [List.getElem?_set_self (by omega)]
  · show (List.set _ _ _)[_]? = _
    rw [List.getElem?_set_ne (Ne.symm hn)]; exact hold q hq
def fsL : Int → List Fn → List FS
 | _, [] => []
 | a, f :: r => fsF a f :: fsL (a + (f.vars.length + 3 : Nat)) r
theorem fsL_len : ∀ (a : Int) (l : List Fn), (fsL a l).length = l.length
 | _, [] => rfl
 | a, f :: r => by simp only [fsL, List.length_cons, fsL_len _ r]
theorem fsL_snoc : ∀ (l : List Fn) (a : Int) (j : Nat) (f : Fn), l[j]? = some f → fsL a (l.take (j + 1)) = fsL a (l.take j) ++ [fsF (baseE a (l.take j)) f]
 | [], a, j, f, h => by simp at h
 | g :: r, a, 0, f, h => by simp at h; subst h; simp [fsL, baseE]
 | g :: r, a, j + 1, f, h => by
  simp only [List.take_succ_cons, fsL, baseE, List.cons_append]
  rw [fsL_snoc r _ j f (by simpa using h)]
abbrev RRes := List Fn × (Int × List FS × List Rule) × Int × Int
def rulesM (t : T) : RRes :=
 let r := resolve t
 if r.2.2.2 ≠ 0 then ([], (0, [], []), r.2.2.1, r.2.2.2)
 else
  let a : Int := (r.2.1.count : Nat)
  let n := baseE a r.1 + 9
  if 100000 < n then ([], (0, [], []), 0, 52)
  else (r.1, (n, fsL a r.1, rT r.1 (baseL a r.1) r.2.1 0 0 (behV r.1 (baseL a r.1) 0 + 2) true), 0, 0)
def rulV (r : RRes) : AV := .tup [.sl none r.1.length (encFs r.1), .agg [.int .i64 r.2.1.1, .sl none r.2.1.2.1.length (encFS r.2.1.2.1), .sl none r.2.1.2.2.length (encR r.2.1.2.2)], .int .i64 r.2.2.1, .int .i64 r.2.2.2]
abbrev res33 : List ARes := [.tmp 2, .cell 3 (some 3), .tmp 4, .tmp 5]
def Pur (st : St) (w : AV) (r : Rt AV) (st' : St) : Prop := ∃ v, r = .ok v ∧ Grow st st' ∧ v.fin st.I.length = w
structure C33 (st0 : St) (q : T) (fs : List Fn) (bv : AV) (s : List AV) (st : St) : Prop where
 sl : s.length = 129
 e3 : lk s 3 = .ptr (st0.H.length + 1) 0
 e6 : lk s 6 = .sl none fs.length (encFs fs)
 e7 : lk s 7 = .ptr (st0.H.length + 2) 0
 e10 : lk s 10 = .ptr (st0.H.length + 3) 0
 h1 : st.H[st0.H.length + 1]? = some (.cells 49 [.int .i64 0, .nils, .nils])
 h2 : st.H[st0.H.length + 2]? = some (.cells 24 q.enc)
 h3 : st.H[st0.H.length + 3]? = some (.cells 80 [.sl none fs.length (encFs fs), bv, .nils])
 old : ∀ j, j < st0.H.length → st.H[j]? = st0.H[j]?
 io : IOld st0.I.length st0.I st.I
theorem C33.len {st0 q fs bv s st} (h : C33 st0 q fs bv s st) : st0.H.length + 4 ≤ st.H.length := by have := (List.getElem?_eq_some_iff.1 h.h3).1; omega
theorem C33.next {st0 q fs bv s st s' st'} (h : C33 st0 q fs bv s st) (hs : s'.length = 129) (hsl : ∀ i, i = 3 ∨ i = 6 ∨ i = 7 ∨ i = 10 → lk s' i = lk s i) (hH : ∀ j, j < st0.H.length + 4 → st'.H[j]? = st.H[j]?) (hI : IOld st0.I.length st.I st'.I) : C33 st0 q fs bv s' st' :=
 ⟨hs, (hsl 3 (by omega)).trans h.e3, (hsl 6 (by omega)).trans h.e6, (hsl 7 (by omega)).trans h.e7, (hsl 10 (by omega)).trans h.e10, (hH _ (by omega)).trans h.h1, (hH _ (by omega)).trans h.h2, (hH _ (by omega)).trans h.h3, fun j hj => (hH j (by omega)).trans (h.old j hj), h.io.trans hI⟩
theorem C33.wf {E : Env} {st0 q fs bv s st} (hE : E.Wf st0) (h : C33 st0 q fs bv s st) : E.Wf st := hE.of (H := st.H) (I := st.I) (by have := h.len; omega) h.io.len
theorem Grow.of33 {st0 : St} {st' : St} (h1 : ∀ j, j < st0.H.length → st'.H[j]? = st0.H[j]?) (hl : st0.H.length ≤ st'.H.length) (h2 : IOld st0.I.length st0.I st'.I) : Grow st0 st' :=
 ⟨pre_of hl fun j x e => by rw [h1 j (List.getElem?_eq_some_iff.1 e).1]; exact e, pre_of h2.len fun j x e => h2.get j x (List.getElem?_eq_some_iff.1 e).1 e⟩
theorem f33e {E : Env} {st0 st : St} (hE : E.Wf st0) (q : T) (fs : List Fn) (bs : List Int) (o : Option Nat) (s : List AV) (h : C33 st0 q fs (.sl o bs.length (bs.map (.int .i64))) s st) (V : Nat) (hV0 : st0.H.length + 4 ≤ V) (e14 : lk s 14 = .ptr V 0) (sets : Int) (fv : AV) (F : List FS)
    (hV : st.H[V]? = some (.cells 49 [.int .i64 sets, fv, .nils])) (hac : AccX E st.I F fv) (how : ∀ j, owns fv = some j → st0.I.length ≤ j) (x0 : FS) (hx0 : F[0]? = some x0) (hqw : q.wt ≤ 1000000000) (hvs : ∀ G ∈ fs, G.vars.length ≤ 500) (hRW : RW fs bs 0 q) (k : Nat) (hk : 20 * q.wt + 1200 ≤ k) :
    WP (aCall prog k) E k none y33e s [] st (endQ res33 (Pur st0 (rulV (fs, (sets, F, rT fs bs q 0 0 x0.throw true), 0, 0)))) := by
  obtain ⟨hs, e3, e6, e7, e10, h1, h2, h3, hold, hio⟩ := h
  have hVl := (List.getElem?_eq_some_iff.1 hV).1
  have hEs : E.Wf st := hE.of (H := st.H) (I := st.I) (by omega) hio.len
  have hmw := mayWrite_new hE
  have hmw1 : ∀ x y, mayWrite E (st0.H.length + 1) x y = true := fun x y => hmw _ _ _ (by omega)
  have hmwV : ∀ x y, mayWrite E V x y = true := fun x y => hmw _ _ _ (by omega)
  have hS : MkS E (st0.H.length + 3) fs bs o none [] .nils st := ⟨hEs, by have := hE.base; omega, by have := hE.rob; omega, ⟨h3, .inl ⟨rfl, rfl⟩⟩, by simp⟩
  have hcw := count_wt q
  have c52 := spec52 q.wt q (Nat.le_refl _) (by omega) hS hvs 0 x0.throw 0 true (Int.le_refl _) (by omega) (by simp; omega) hRW k (by omega)
  have hF0 := encFS_at hx0 4 (by omega)
  have hF0 : (encFS F)[4]? = some (.int .i64 x0.throw) := by simpa [FS.enc] using hF0
  have hF1 := (List.getElem?_eq_some_iff.1 hF0).2
  have hF2 := (List.getElem?_eq_some_iff.1 hF0).1
  have hFl : 0 < F.length := (List.getElem?_eq_some_iff.1 hx0).1
  obtain ⟨i, rfl, hi1, hi2⟩ : ∃ i, fv = .sl (some i) F.length (encFS F) ∧ E.rom ≤ i ∧ st.I[i]? = some (F.length, 5) := by
    rcases hac with ⟨e, -⟩ | ⟨-, i, x⟩
    · rw [e] at hFl; simp at hFl
    · exact ⟨i, x⟩
  have hi3 := how i rfl
  have hi4 : ¬ i < st0.I.length := by omega
  have hqe := T.enc_eq q
  rw [hqe] at h2 c52
  unfold y33e
  simp only [Int.natCast_zero] at c52
  simp [Nat.testBit, hs, e3, e6, e7, e10, e14, h2, hV, hF0, hF1, hF2, hFl, fillA, wrC, isEff]
  refine obP_intro c52 fun p hp => ?_
  obtain ⟨r, st9⟩ := p
  obtain ⟨r1, r2⟩ := hp
  simp only at r1
  subst r1
  have r2 : MkTo E (st0.H.length + 3) (.sl none fs.length (encFs fs)) (.sl o bs.length (bs.map (.int .i64))) .nils st st9 ([] ++ rT fs bs q 0 0 x0.throw true) := r2
  obtain ⟨⟨rv', ⟨z1, z2⟩, z3⟩, z4, z5, z6⟩ := r2
  have zV : st9.H[V]? = _ := (z4 V hVl (by omega)).trans hV
  have zL : st9.H[st0.H.length + 1]? = _ := (z4 _ (by omega) (by omega)).trans h1
  have hro := z2.one
  have hrc := z2.cells
  have hrf : rv'.fin st0.I.length = .sl none (rT fs bs q 0 0 x0.throw true).length (encR (rT fs bs q 0 0 x0.throw true)) := by
    rcases z2 with ⟨e, rfl⟩ | ⟨j, rfl, hj, hx⟩
    · simp only [List.nil_append] at e; rw [e]; rfl
    · have : ¬ j < st0.I.length := by
        rcases z3 with z3 | ⟨j', z3, z3'⟩
        · simp [owns] at z3
        · simp [owns] at z3; have := hio.len; omega
      simp [this, encR_fin]
  have n1 : V ≠ st0.H.length + 1 := by omega
  have hl9 : st0.H.length + 1 < st9.H.length := by omega
  have a1 : ∀ x, (st9.H.set V x)[st0.H.length + 1]? = some (.cells 49 [.int .i64 0, .nils, .nils]) := fun x => by rw [List.getElem?_set_ne n1]; exact zL
  have a2 : ∀ x, (st9.H.set V x)[V]? = some x := fun x => List.getElem?_set_self (by omega)
  have a3 : ∀ x y, ((st9.H.set V x).set (st0.H.length + 1) y)[st0.H.length + 1]? = some y := fun x y => List.getElem?_set_self (by simp; omega)
  have hg : ∀ x y, Grow st0 ⟨(st9.H.set V x).set (st0.H.length + 1) y, st9.I⟩ := fun x y => .of33 (fun j hj => by
    show (List.set _ _ _)[_]? = _
    rw [List.getElem?_set_ne (by omega), List.getElem?_set_ne (by omega), z4 j (by omega) (by omega)]; exact hold j hj) (by simp; omega) (hio.trans ⟨z6.len, fun j x _ e => z6.get j x nofun e⟩)
  simp [Nat.testBit, hs, isEff, e10, e14, z1, zV, storeA, hmwV, hro, hrc, wrC]
  simp [Nat.testBit, hs, e3, e6, e14, a1, a2, a3, storeA, hmw1, hro, hrc, wrC, isEff]
  exact ⟨_, rfl, hg _ _, by simp [rulV, encFS_fin, hrf, hi4]⟩
theorem f33d {E : Env} {st0 st : St} (hE : E.Wf st0) (q : T) (fs : List Fn) (a : Int) (ha : 0 ≤ a ∧ a ≤ 10000000000) (hfl : fs.length ≤ 1000) (hf0 : 0 < fs.length) (o : Option Nat) (s : List AV) (h : C33 st0 q fs (.sl o (baseL a fs).length ((baseL a fs).map (.int .i64))) s st) (V : Nat) (hV0 : st0.H.length + 4 ≤ V) (e14 : lk s 14 = .ptr V 0) (sets : Int)
    (hV : st.H[V]? = some (.cells 49 [.int .i64 sets, .nils, .nils])) (hqw : q.wt ≤ 1000000000) (hvs : ∀ G ∈ fs, G.vars.length ≤ 500) (hps : ∀ G ∈ fs, G.params ≤ 500) (hRW : RW fs (baseL a fs) 0 q) (k : Nat) (hk : 20 * q.wt + 2000 ≤ k) :
    WP (aCall prog k) E k none y33d s [] st (endQ res33 (Pur st0 (rulV (fs, (sets, fsL a fs, rT fs (baseL a fs) q 0 0 (behV fs (baseL a fs) 0 + 2) true), 0, 0)))) := by
  have hmwV : ∀ x y, mayWrite E V x y = true := fun x y => mayWrite_new hE _ _ _ (by omega)
  unfold y33d
  simp [h.sl, h.e6]
  refine WP_loop (fun n s' m' st' => ∃ (j : Nat) (fv : AV), j ≤ fs.length ∧ n = fs.length - j ∧ m' = [] ∧ C33 st0 q fs (.sl o (baseL a fs).length ((baseL a fs).map (.int .i64))) s' st' ∧ lk s' 14 = .ptr V 0 ∧ lk s' 66 = .sl none fs.length (encFs fs) ∧ lk s' 67 = .int .i64 fs.length ∧ lk s' 68 = .int .i64 j ∧
      st'.H[V]? = some (.cells 49 [.int .i64 sets, fv, .nils]) ∧ AccX E st'.I (fsL a (fs.take j)) fv ∧ (∀ j, owns fv = some j → st0.I.length ≤ j)) fs.length (by omega)
    ⟨0, .nils, by omega, by omega, rfl, h.next (by simp [h.sl]) (fun i hi => by rcases hi with rfl | rfl | rfl | rfl <;> simp [h.sl]) (fun _ _ => rfl) (.refl _ _), by simp [h.sl, e14], by simp [h.sl], by simp [h.sl], by simp [h.sl], hV, .inl ⟨rfl, rfl⟩, fun j e => by simp [owns] at e⟩ ?_
  rintro _ s' m' st' ⟨j, fv, hj, rfl, rfl, hC, e14, e66, e67, e68, hV, hac, how⟩
  clear h
  by_cases hc : j < fs.length
  · obtain ⟨f, hg⟩ : ∃ f, fs[j]? = some f := ⟨_, List.getElem?_eq_getElem hc⟩
    have hfm := List.mem_of_getElem? hg
    have hbe := baseE_le fs a j hvs
    refine rnd33b (hC.wf hE) st0.I.length hC.io.len (st0.H.length + 3) V hmwV s' hC.sl fs (baseL a fs) o .nils fv (.int .i64 sets) .nils _ j f hg (by omega) (baseE a (fs.take j)) (baseL_at fs a j hc) (by omega) (by have := hps f hfm; omega) (by have := hvs f hfm; omega) hC.e10 e14 e66 e67 e68 hC.h3 hV hac how (by rw [fsL_len]; simp; omega) _ k (by omega) _ ?_
    intro s2 st2 fv' r1 r2 r3 r4 r5 r6 r7 r8 r9
    have hl := hC.len
    exact ⟨_, by omega, j + 1, fv', by omega, rfl, rfl, hC.next r1 (fun i hi => r2 i (by omega)) (fun q hq => r7 q (by omega) (by omega)) r9, by rw [r2 14 (by omega)]; exact e14, by rw [r2 66 (by omega)]; exact e66, by rw [r2 67 (by omega)]; exact e67, r3, r4, by rw [fsL_snoc fs a j f hg]; exact r5, r6⟩
  have : j = fs.length := by omega
  subst this
  rw [List.take_length] at hac
  obtain ⟨G0, hG0⟩ : ∃ G, fs[0]? = some G := ⟨_, List.getElem?_eq_getElem hf0⟩
  have hx0 : (fsL a fs)[0]? = some (fsF a G0) := by
    obtain ⟨g, r, rfl⟩ := List.exists_cons_of_length_pos hf0
    simp at hG0; subst hG0
    simp [fsL]
  have hth : (fsF a G0).throw = behV fs (baseL a fs) 0 + 2 := by
    have hb0 : (baseL a fs)[0]? = some a := by rw [baseL_at fs a 0 hf0]; simp [baseE]
    simp [behV, hb0, hG0, fsF]
  have hend := f33e hE q fs (baseL a fs) o (s'.set 69 (.bool false)) (hC.next (by simp [hC.sl]) (fun i hi => by rcases hi with rfl | rfl | rfl | rfl <;> simp [hC.sl]) (fun _ _ => rfl) (.refl _ _)) V hV0 (by simp [hC.sl, e14]) sets fv (fsL a fs) hV hac how _ hx0 hqw hvs hRW k (by omega)
  rw [hth] at hend
  unfold l33b
  simp [hC.sl, e67, e68]
  exact hend
theorem f33c {E : Env} {st0 st : St} (hE : E.Wf st0) (q : T) (fs : List Fn) (a : Int) (ha : 0 ≤ a ∧ a ≤ 10000000000) (hfl : fs.length ≤ 1000) (hf0 : 0 < fs.length) (o : Option Nat) (s : List AV) (h : C33 st0 q fs (.sl o (baseL a fs).length ((baseL a fs).map (.int .i64))) s st) (e11 : lk s 11 = .int .i64 (baseE a fs))
  (hqw : q.wt ≤ 1000000000) (hvs : ∀ G ∈ fs, G.vars.length ≤ 500) (hps : ∀ G ∈ fs, G.params ≤ 500) (hRW : RW fs (baseL a fs) 0 q) (k : Nat) (hk : 20 * q.wt + 2000 ≤ k) :
  WP (aCall prog k) E k none y33c s [] st (endQ res33 (Pur st0 (rulV (if 100000 < baseE a fs + 9 then ([], (0, [], []), 0, 52) else (fs, (baseE a fs + 9, fsL a fs, rT fs (baseL a fs) q 0 0 (behV fs (baseL a fs) 0 + 2) true), 0, 0))))) := by
 have hEs := h.wf hE
 have hl := h.len
 have hmw := mayWrite_new hEs
 have hmw1 : ∀ x y, mayWrite E (st0.H.length + 1) x y = true := fun x y => mayWrite_new hE _ _ _ (by omega)
 have hbe := baseE_le fs a fs.length hvs
 rw [List.take_length] at hbe
 have hw9 := wrap64 (n := baseE a fs + 9) (by omega)
 have a1 : ∀ x, (st.H ++ x)[st0.H.length + 1]? = some (.cells 49 [.int .i64 0, .nils, .nils]) := fun x => getE_old h.h1
 by_cases hc : 100000 < baseE a fs + 9
 ·rw [if_pos hc]
  have a3 : ∀ x y, ((st.H ++ x).set (st0.H.length + 1) y)[st0.H.length + 1]? = some y := fun x y => List.getElem?_set_self (by simp; omega)
  have hg : ∀ x y, Grow st0 ⟨(st.H ++ x).set (st0.H.length + 1) y, st.I⟩ := fun x y => .of33 (fun j hj => by
   show (List.set _ _ _)[_]? = _
   rw [List.getElem?_set_ne (by omega), List.getElem?_append_left (by omega)]; exact h.old j hj) (by simp; omega) h.io
  unfold y33c
  simp [h.sl, h.e3, e11, hw9, fillA, wrC, storeA, hmw, hc, a1, hmw1, a3]
  exact ⟨_, rfl, hg _ _, by simp [rulV, encFS, encR, encFs]⟩
 ·rw [if_neg hc]
  unfold y33c
  simp [h.sl, h.e3, e11, hw9, fillA, wrC, storeA, hmw, hc]
  refine f33d hE q fs a ha hfl hf0 o _ ?_ st.H.length hl ?_ _ ?_ hqw hvs hps hRW k hk
  ·exact h.next (by simp [h.sl]) (fun i hi => by rcases hi with rfl | rfl | rfl | rfl <;> simp [h.sl]) (fun j hj => by show (_ ++ _)[_]? = _; rw [List.getElem?_append_left (by omega)]) (.refl _ _)
  ·simp [h.sl]
  ·simp
theorem f33b {E : Env} {st0 st : St} (hE : E.Wf st0) (q : T) (fs : List Fn) (a : Int) (ha : 0 ≤ a ∧ a ≤ 10000000000) (hfl : fs.length ≤ 1000) (hf0 : 0 < fs.length) (s : List AV) (h : C33 st0 q fs .nils s st) (e11 : lk s 11 = .int .i64 a)
    (hqw : q.wt ≤ 1000000000) (hvs : ∀ G ∈ fs, G.vars.length ≤ 500) (hps : ∀ G ∈ fs, G.params ≤ 500) (hRW : RW fs (baseL a fs) 0 q) (k : Nat) (hk : 20 * q.wt + 2000 ≤ k) :
    WP (aCall prog k) E k none y33b s [] st (endQ res33 (Pur st0 (rulV (if 100000 < baseE a fs + 9 then ([], (0, [], []), 0, 52) else (fs, (baseE a fs + 9, fsL a fs, rT fs (baseL a fs) q 0 0 (behV fs (baseL a fs) 0 + 2) true), 0, 0))))) := by
  have hmw3 : ∀ x y, mayWrite E (st0.H.length + 3) x y = true := fun x y => mayWrite_new hE _ _ _ (by omega)
  unfold y33b
  simp [h.sl, h.e6]
  refine WP_loop (fun n s' m' st' => ∃ (j : Nat) (bv : AV), j ≤ fs.length ∧ n = fs.length - j ∧ m' = [] ∧ C33 st0 q fs bv s' st' ∧ lk s' 11 = .int .i64 (baseE a (fs.take j)) ∧ lk s' 36 = .sl none fs.length (encFs fs) ∧ lk s' 37 = .int .i64 fs.length ∧ lk s' 38 = .int .i64 j ∧
      AccI E st'.I (baseL a (fs.take j)) bv ∧ (∀ j, owns bv = some j → st0.I.length ≤ j)) fs.length (by omega)
    ⟨0, .nils, by omega, by omega, rfl, h.next (by simp [h.sl]) (fun i hi => by rcases hi with rfl | rfl | rfl | rfl <;> simp [h.sl]) (fun _ _ => rfl) (.refl _ _), by simp [h.sl, e11, baseE], by simp [h.sl], by simp [h.sl], by simp [h.sl], .inl ⟨rfl, rfl⟩, fun j e => by simp [owns] at e⟩ ?_
  rintro _ s' m' st' ⟨j, bv, hj, rfl, rfl, hC, e11, e36, e37, e38, hac, how⟩
  clear h
  by_cases hc : j < fs.length
  · obtain ⟨f, hg⟩ : ∃ f, fs[j]? = some f := ⟨_, List.getElem?_eq_getElem hc⟩
    have hfm := List.mem_of_getElem? hg
    have hbe := baseE_le fs a j hvs
    refine rnd33a (hC.wf hE) st0.I.length hC.io.len (st0.H.length + 3) 0 hmw3 s' hC.sl fs _ _ bv .nils j f hg (by omega) hC.e10 e11 e36 e37 e38 hC.h3 hac how (by rw [baseL_len]; simp; omega) (by omega) (hvs f hfm) _ k _ ?_
    intro s2 st2 bv' r1 r2 r3 r4 r5 r6 r7 r8 r9 r10 r11 r12
    have hl := hC.len
    refine ⟨_, by omega, j + 1, bv', by omega, rfl, rfl, ?_, by rw [baseE_snoc fs a j f hg]; exact r3, r4.trans e36, r5.trans e37, r6, by rw [baseL_snoc fs a j f hg]; exact r8, r9⟩
    exact ⟨r1, (r2 3 (by omega)).trans hC.e3, (r2 6 (by omega)).trans hC.e6, (r2 7 (by omega)).trans hC.e7, (r2 10 (by omega)).trans hC.e10, by rw [r10 _ (by omega) (by omega)]; exact hC.h1, by rw [r10 _ (by omega) (by omega)]; exact hC.h2, r7, fun i hi => by rw [r10 i (by omega) (by omega)]; exact hC.old i hi, hC.io.trans r12⟩
  have : j = fs.length := by omega
  subst this
  rw [List.take_length] at hac e11
  have hbl := baseL_len a fs
  obtain ⟨i, rfl⟩ : ∃ i, bv = .sl (some i) (baseL a fs).length ((baseL a fs).map (.int .i64)) := by
    rcases hac with ⟨e, -⟩ | ⟨-, i, e, -, -⟩
    · rw [e] at hbl; simp at hbl; omega
    · exact ⟨i, e⟩
  have hend := f33c hE q fs a ha hfl hf0 (some i) (s'.set 39 (.bool false)) (hC.next (by simp [hC.sl]) (fun i hi => by rcases hi with rfl | rfl | rfl | rfl <;> simp [hC.sl]) (fun _ _ => rfl) (.refl _ _)) (by simp [hC.sl, e11]) hqw hvs hps hRW k hk
  unfold l33a
  simp [hC.sl, e37, e38]
  exact hend
theorem f33 (t : T) (ht : t.ok) (hw : t.wt ≤ 1000000000) (hqw : (resolve t).2.1.wt ≤ 1000000000) (hfl : (resolve t).1.length ≤ 1000) (hf0 : (resolve t).2.2.2 = 0 → 0 < (resolve t).1.length) (hvs : ∀ G ∈ (resolve t).1, G.vars.length ≤ 500) (hps : ∀ G ∈ (resolve t).1, G.params ≤ 500)
  (hRW : (resolve t).2.2.2 = 0 → RW (resolve t).1 (baseL ((resolve t).2.1.count : Nat) (resolve t).1) 0 (resolve t).2.1) (k : Nat) (hk : 20 * t.wt + 20 * (resolve t).2.1.wt + 10000 ≤ k) : PureC k 33 [.agg t.enc] (rulV (rulesM t)) := by
 intro E st hE
 obtain ⟨k, rfl⟩ : ∃ k', k = k' + 1 := ⟨k - 1, by omega⟩
 have hmw := mayWrite_new hE
 have hmw1 : ∀ j x y, mayWrite E (st.H.length + j) x y = true := fun j x y => hmw _ _ _ (by omega)
 have hrr : (resV (resolve t)).refs = [] := by simp [resV, encFs_refs, T.enc_refs]
 have c20 := fun st3 (h : E.Wf st3) => (f20 t ht (by omega) k (by omega)).full (E := E) (st := st3) hrr h
 have hcw := count_wt (resolve t).2.1
 unfold rulesM
 generalize resolve t = R at *
 obtain ⟨fs, q, x, y⟩ := R
 simp only at *
 have c50 := fun st3 (h : E.Wf st3) => (f50 q (by omega) k (by omega)).full (E := E) (st := st3) rfl h
 obtain ⟨op, s0, nn, l, line⟩ := t
 have hqe := T.enc_eq q
 simp only [T.enc, resV] at c20
 rw [hqe] at c20 c50
 refine call_in1 (c0 := y33a) rfl rfl (by decide) fun s hs e0 => ?_
 have hE1 : ∀ y, E.Wf ⟨st.H ++ y, st.I⟩ := fun y => hE.of (by simp) (by simp)
 unfold y33a
 by_cases hy : y = 0
 ·subst hy
  simp [hs, e0, c20 _ (hE1 _), storeA, hmw1, wrC, fillA, c50 _ (hE1 _)]
  refine f33b hE q fs (q.count : Nat) (by omega) hfl (hf0 rfl) _ ?_ ?_ hqw hvs hps (hRW rfl) k (by omega)
  ·exact ⟨by simp [hs], by simp [hs], by simp [hs], by simp [hs], by simp [hs], by simp, by simp [hqe], by simp, fun j hj => List.getElem?_append_left hj, .refl _ _⟩
  ·simp [hs]
 ·simp [hs, e0, c20 _ (hE1 _), storeA, hmw1, wrC, fillA, hy]
  exact ⟨Grow.appH _ _, by simp [rulV, encFS, encR, encFs]⟩
mutual
theorem wT_errL (at_ : Nat) (loop : Bool) : ∀ (t : T) (w : Wk), w.e ≠ 0 → wT at_ loop t w = (t, w)
 | .mk op s n l x, w, h => by simp only [wT, if_pos h]
end
theorem wL_errL (at_ : Nat) (loop : Bool) : ∀ (l : List T) (w : Wk), w.e ≠ 0 → (wL at_ loop l w).2 = w
 | [], w, _ => rfl
 | t :: r, w, h => by simp only [wL, wT_errL at_ loop t w h, wL_errL at_ loop r w h]
theorem fail_e (w : Wk) (e x : Int) (he : e ≠ 0) : (w.fail e x).e ≠ 0 := by
 unfold Wk.fail; split
 ·exact he
 ·assumption
theorem fail_fsL (w : Wk) (e x : Int) : (w.fail e x).fs = w.fs := by unfold Wk.fail; split <;> rfl
theorem fail_markL (w : Wk) (e x : Int) : (w.fail e x).mark = w.mark := by unfold Wk.fail; split <;> rfl
theorem stepN_fs (at_ : Nat) (loop : Bool) (op : Int) (s : ByteArray) (n x : Int) (w : Wk) : (stepN at_ loop op s n x w).2.2.fs = w.fs := by
 unfold stepN
 repeat' (first | split | (simp only []; split))
 all_goals first | rfl | simp [fail_fsL]
theorem stepN_mark (at_ : Nat) (loop : Bool) (op : Int) (s : ByteArray) (n x : Int) (w : Wk) : (stepN at_ loop op s n x w).2.2.mark = if op = 11 ∨ op = 16 ∨ op = 15 then w.mark + 1 else w.mark := by
 by_cases h1 : op = 1
 ·subst h1; simp only [stepN, if_true]; split <;> simp [fail_markL]
 by_cases h2 : op = 30 ∨ op = 35 ∨ op = 38
 ·have : ¬ (op = 11 ∨ op = 16 ∨ op = 15) := by omega
  simp only [stepN, if_neg h1, if_pos h2, if_neg this]
 by_cases h3 : op = 11 ∨ op = 16 ∨ op = 15
 ·simp only [stepN, if_neg h1, if_neg h2, if_pos h3]
 simp only [stepN, if_neg h1, if_neg h2, if_neg h3]
 repeat' split
 all_goals simp [fail_markL]
mutual
theorem wT_pfx (at_ : Nat) (loop : Bool) : ∀ (t : T) (w : Wk), w.fs <+: (wT at_ loop t w).2.fs
 | .mk op s n l x, w => by
  simp only [wT]
  split
  ·exact List.prefix_rfl
  ·split
   ·split
    ·rw [fail_fsL]; exact List.prefix_rfl
    ·exact (List.prefix_append w.fs [fnOf' op s l at_ w.mark]).trans (wP_pfx w.fs.length l { w with mark := w.mark + 2, fs := w.fs ++ [fnOf' op s l at_ w.mark] })
   ·have := wL_pfx at_ ((stepN at_ loop op s n x w).2.1 || decide (op = 35)) l (stepN at_ loop op s n x w).2.2
    rw [stepN_fs] at this; exact this
theorem wL_pfx (at_ : Nat) (loop : Bool) : ∀ (l : List T) (w : Wk), w.fs <+: (wL at_ loop l w).2.fs
 | [], w => List.prefix_rfl
 | t :: r, w => (wT_pfx at_ loop t w).trans (wL_pfx at_ loop r _)
theorem wP_pfx (me : Nat) : ∀ (l : List T) (w : Wk), w.fs <+: (wP me l w).2.fs
 | [], w => List.prefix_rfl
 | [t], w => by simp only [wP]; exact wT_pfx me false t w
 | t :: u :: r, w => by simp only [wP]; exact wP_pfx me (u :: r) w
end
theorem pfx_get {α : Type} {a b : List α} (h : a <+: b) {i : Nat} {x : α} (e : a[i]? = some x) : b[i]? = some x := by
 obtain ⟨t, rfl⟩ := h
 rw [List.getElem?_append_left (List.getElem?_eq_some_iff.1 e).1, e]
def isVr (op : Int) : Bool := decide (op = 1) || decide (op = 30) || decide (op = 35) || decide (op = 38)
def VarOk (fs : List Fn) (n : Int) (s : ByteArray) : Prop := 0 ≤ n ∧ ∃ f, fs[(n / 1000).toNat]? = some f ∧ f.vars[(n % 1000).toNat]? = some s
def FunOk (fs : List Fn) (n : Int) (s : ByteArray) : Prop := 1 ≤ n ∧ ∃ f, fs[n.toNat]? = some f ∧ f.name = s
mutual
def goodT (fs : List Fn) : T → Prop
 | .mk op s n l _ => (isVr op = true → VarOk fs n s) ∧ (isFn op = true → FunOk fs n s) ∧ goodL fs l
def goodL (fs : List Fn) : List T → Prop
 | [] => True
 | t :: r => goodT fs t ∧ goodL fs r
end
theorem VarOk.mono {fs fs' : List Fn} (h : fs <+: fs') {n s} (v : VarOk fs n s) : VarOk fs' n s := by
 obtain ⟨h1, f, h2, h3⟩ := v; exact ⟨h1, f, pfx_get h h2, h3⟩
theorem FunOk.mono {fs fs' : List Fn} (h : fs <+: fs') {n s} (v : FunOk fs n s) : FunOk fs' n s := by
 obtain ⟨h1, f, h2, h3⟩ := v; exact ⟨h1, f, pfx_get h h2, h3⟩
mutual
theorem goodT.mono {fs fs' : List Fn} (h : fs <+: fs') : ∀ t, goodT fs t → goodT fs' t
 | .mk op s n l x, g => ⟨fun e => (g.1 e).mono h, fun e => (g.2.1 e).mono h, goodL.mono h l g.2.2⟩
theorem goodL.mono {fs fs' : List Fn} (h : fs <+: fs') : ∀ l, goodL fs l → goodL fs' l
 | [], _ => trivial
 | t :: r, g => ⟨goodT.mono h t g.1, goodL.mono h r g.2⟩
end
structure WR (w : Wk) : Prop where
 four : 4 ≤ w.mark
 each : ∀ (i : Nat) (f : Fn), w.fs[i]? = some f → f.around < i ∧ -1 ≤ f.around ∧ (0 < i → 0 ≤ f.around ∧ 4 ≤ f.mark) ∧ f.params ≤ f.vars.length ∧ f.vars.length ≤ 200 ∧ f.mark < w.mark
 rise : ∀ (i : Nat) (f g : Fn), w.fs[i]? = some f → w.fs[i + 1]? = some g → f.mark < g.mark
theorem WR.more {w w' : Wk} (h : WR w) (h1 : w'.fs = w.fs) (h2 : w.mark ≤ w'.mark) : WR w' := by
 refine ⟨Nat.le_trans h.four h2, fun i f e => ?_, fun i f g => by rw [h1]; exact h.rise i f g⟩
 rw [h1] at e
 obtain ⟨a, b, c, d, x, y⟩ := h.each i f e
 exact ⟨a, b, c, d, x, by omega⟩
theorem ixS_get (s : ByteArray) : ∀ (l : List ByteArray) (i : Nat), ixS s l = some i → l[i]? = some s
 | [], i, h => by simp [ixS] at h
 | w :: r, i, h => by
  simp only [ixS] at h
  split at h
  ·rename_i e; cases h; simp [e]
  ·cases hr : ixS s r with
   | none => simp [hr] at h
   | some j => simp [hr] at h; subst h; simpa using ixS_get s r j hr
theorem varF_ok {fs : List Fn} (hfs : ∀ (i : Nat) (f : Fn), fs[i]? = some f → f.vars.length ≤ 200) (s : ByteArray) : ∀ (n : Nat) (at_ : Int), 0 ≤ varF fs n at_ s → VarOk fs (varF fs n at_ s) s
 | 0, at_, h => by simp [varF] at h
 | n + 1, at_, h => by
  simp only [varF] at h ⊢
  split at h
  ·omega
  ·rename_i ha
   rw [if_neg ha]
   cases hf : fs[at_.toNat]? with
   | none => simp [hf] at h
   | some f =>
    simp only [hf] at h ⊢
    cases hi : ixS s f.vars with
    | none => simp only [hi] at h ⊢; exact varF_ok hfs s n f.around h
    | some i =>
     simp only [hi] at h ⊢
     have hg := ixS_get s _ _ hi
     have hl := (List.getElem?_eq_some_iff.1 hg).1
     have := hfs _ f hf
     refine ⟨h, f, ?_, ?_⟩
     ·rw [show (1000 * at_ + (i : Int)) / 1000 = at_ by omega]; exact hf
     ·rw [show ((1000 * at_ + (i : Int)) % 1000).toNat = i by omega]; exact hg
theorem varNo_ok {w : Wk} (h : WR w) (s : ByteArray) (at_ : Int) (hv : 0 ≤ varNo w.fs at_ s) : VarOk w.fs (varNo w.fs at_ s) s :=
 varF_ok (fun i f e => (h.each i f e).2.2.2.2.1) s _ _ hv
def InV (fs : List Fn) (at_ : Nat) (s : ByteArray) : Prop := ∃ f, fs[at_]? = some f ∧ s ∈ f.vars
theorem InV.mono {fs fs' : List Fn} (h : fs <+: fs') {at_ s} (v : InV fs at_ s) : InV fs' at_ s := by
 obtain ⟨f, h1, h2⟩ := v; exact ⟨f, pfx_get h h1, h2⟩
theorem varNo_in {fs : List Fn} {at_ : Nat} {s : ByteArray} (h : InV fs at_ s) : 0 ≤ varNo fs at_ s := by
 obtain ⟨f, h1, h2⟩ := h
 have h3 := ixS_mem s f.vars
 simp only [h2, decide_true, Option.isSome_iff_exists] at h3
 obtain ⟨i, hi⟩ := h3
 have : ((at_ : Int) + 1).toNat = at_ + 1 := by omega
 simp only [varNo, this, varF, Int.toNat_natCast, h1, hi]
 rw [if_neg (by omega)]
 omega
theorem withS_sub {l : List ByteArray} {s x : ByteArray} (h : x ∈ l) : x ∈ withS l s := by
 unfold withS; split
 ·exact h
 ·simp [h]
theorem withS_self (l : List ByteArray) (s : ByteArray) : s ∈ withS l s := by
 unfold withS; split
 ·assumption
 ·simp
theorem withS_ge (l : List ByteArray) (s : ByteArray) : l.length ≤ (withS l s).length := by
 unfold withS; split <;> simp
mutual
theorem decT_sub : ∀ (t : T) (out : List ByteArray) (x : ByteArray), x ∈ out → x ∈ decT t out
 | .mk op s n l y, out, x, h => by
  simp only [decT]
  have h1 : x ∈ (if isDec op = true then withS out s else out) := by split; exact withS_sub h; exact h
  split
  ·exact h1
  ·exact decL_sub l _ x h1
theorem decL_sub : ∀ (l : List T) (out : List ByteArray) (x : ByteArray), x ∈ out → x ∈ decL l out
 | [], out, x, h => h
 | t :: r, out, x, h => decL_sub r _ x (decT_sub t out x h)
end
mutual
theorem decT_ge : ∀ (t : T) (out : List ByteArray), out.length ≤ (decT t out).length
 | .mk op s n l y, out => by
  simp only [decT]
  have h1 : out.length ≤ (if isDec op = true then withS out s else out).length := by split; exact withS_ge _ _; exact Nat.le_refl _
  split
  ·exact h1
  ·exact Nat.le_trans h1 (decL_ge l _)
theorem decL_ge : ∀ (l : List T) (out : List ByteArray), out.length ≤ (decL l out).length
 | [], out => Nat.le_refl _
 | t :: r, out => Nat.le_trans (decT_ge t out) (decL_ge r _)
end
theorem params_sub : ∀ (l : List T) (o : List ByteArray) (x : ByteArray), (x ∈ o ∨ ∃ u ∈ l, u.s = x) → x ∈ l.foldl (fun o x => withS o x.s) o
 | [], o, x, h => by simpa using h
 | t :: r, o, x, h => by
  simp only [List.foldl_cons]
  refine params_sub r _ x ?_
  rcases h with h | ⟨u, hu, rfl⟩
  ·exact .inl (withS_sub h)
  ·rcases List.mem_cons.1 hu with rfl | hu
   ·exact .inl (withS_self _ _)
   ·exact .inr ⟨u, hu, rfl⟩
theorem fn_vars (op : Int) (s : ByteArray) (l : List T) (at_ : Int) (mark : Nat) : (∀ u ∈ l.dropLast, u.s ∈ (fnOf' op s l at_ mark).vars) ∧ (∃ out, (fnOf' op s l at_ mark).vars = decT (l.getLast?.getD default) out) ∧ (fnOf' op s l at_ mark).params ≤ (fnOf' op s l at_ mark).vars.length := by
 have h1 : ∀ x, x ∈ paramsOf l → x ∈ (fnOf' op s l at_ mark).vars := fun x hx => by
  simp only [fnOf']
  refine decT_sub _ _ _ ?_
  split
  ·exact withS_sub hx
  ·exact hx
 refine ⟨fun u hu => h1 _ (params_sub _ _ _ (.inr ⟨u, hu, rfl⟩)), ⟨_, rfl⟩, ?_⟩
 simp only [fnOf']
 refine Nat.le_trans ?_ (decT_ge _ _)
 split
 ·exact withS_ge _ _
 ·exact Nat.le_refl _
theorem WR.push {w : Wk} (h : WR w) (op : Int) (s : ByteArray) (l : List T) (at_ : Nat) (ha : at_ < w.fs.length) (hv : (fnOf' op s l at_ w.mark).vars.length ≤ 200) :
  WR { w with mark := w.mark + 2, fs := w.fs ++ [fnOf' op s l at_ w.mark] } := by
 have hp := (fn_vars op s l at_ w.mark).2.2
 refine ⟨by have := h.four; simp only; omega, fun i f e => ?_, fun i f g e1 e2 => ?_⟩
 ·simp only at e ⊢
  rcases Nat.lt_trichotomy i w.fs.length with hi | hi | hi
  ·rw [List.getElem?_append_left hi] at e
   obtain ⟨a, b, c, d, x, y⟩ := h.each i f e
   exact ⟨a, b, c, d, x, by omega⟩
  ·subst hi
   simp at e
   subst e
   have := h.four
   exact ⟨by simp only [fnOf']; omega, by simp only [fnOf']; omega, fun _ => ⟨by simp only [fnOf']; omega, by simp only [fnOf']; omega⟩, hp, hv, by simp only [fnOf']; omega⟩
  ·rw [List.getElem?_eq_none (by simp; omega)] at e; cases e
 ·simp only at e1 e2
  rcases Nat.lt_trichotomy (i + 1) w.fs.length with hi | hi | hi
  ·rw [List.getElem?_append_left (by omega)] at e1
   rw [List.getElem?_append_left hi] at e2
   exact h.rise i f g e1 e2
  ·rw [List.getElem?_append_left (by omega)] at e1
   rw [hi] at e2
   simp at e2
   subst e2
   exact (h.each i f e1).2.2.2.2.2
  ·rw [List.getElem?_eq_none (by simp; omega)] at e2; cases e2
mutual
theorem wT_good (at_ : Nat) (loop : Bool) : ∀ (t : T) (w : Wk), t.wf → WR w → at_ < w.fs.length → (∃ out, ∀ s ∈ decT t out, InV w.fs at_ s) → (wT at_ loop t w).2.e = 0 →
    WR (wT at_ loop t w).2 ∧ goodT (wT at_ loop t w).2.fs (wT at_ loop t w).1
  | .mk op s n l x, w, h, hw, ha, hd, he => by
    by_cases hwe : w.e ≠ 0
    · rw [wT_errL _ _ _ _ hwe] at he; exact absurd he hwe
    simp only [wT, if_neg hwe] at he ⊢
    split at he
    · rename_i hf
      rw [if_pos hf]
      split at he
      · exact absurd he (fail_e _ _ _ (by decide))
      · rename_i hlim
        rw [if_neg hlim]
        simp only [not_or, Nat.not_lt] at hlim
        have hv := fn_vars op s l at_ w.mark
        have hbd : ∃ out, ∀ y ∈ decT (l.getLast?.getD default) out, InV (w.fs ++ [fnOf' op s l at_ w.mark]) w.fs.length y := by
          obtain ⟨out, ho⟩ := hv.2.1
          exact ⟨out, fun y hy => ⟨fnOf' op s l at_ w.mark, by simp, by rw [ho]; exact hy⟩⟩
        have hr := wP_good w.fs.length l _ h.2.2.2.2 (h.2.1 hf).2 (hw.push op s l at_ ha hlim.2) (by simp) (fun u hu => ⟨fnOf' op s l at_ w.mark, by simp, hv.1 u hu⟩) (fun b hb => by rw [hb] at hbd; exact hbd) he
        refine ⟨hr.1, ?_⟩
        have hop : isVr op = false := by
          have : op = 10 ∨ op = 41 := by simp [isFn] at hf; omega
          rcases this with rfl | rfl <;> rfl
        refine ⟨by simp [hop], fun _ => ⟨by omega, fnOf' op s l at_ w.mark, ?_, rfl⟩, hr.2⟩
        exact pfx_get (wP_pfx w.fs.length l _) (by simp)
    · rename_i hf
      rw [if_neg hf]
      simp only at he ⊢
      have hqf := stepN_fs at_ loop op s n x w
      have hqm := stepN_mark at_ loop op s n x w
      have hwq : WR (stepN at_ loop op s n x w).2.2 := hw.more hqf (by rw [hqm]; split <;> omega)
      have hqe : (stepN at_ loop op s n x w).2.2.e = 0 := by
        refine Classical.byContradiction fun hc => ?_
        rw [wL_errL _ _ _ _ hc] at he; exact hc he
      have hdl : ∃ out, ∀ y ∈ decL l out, InV (stepN at_ loop op s n x w).2.2.fs at_ y := by
        obtain ⟨out, ho⟩ := hd
        simp only [decT, if_neg hf] at ho
        exact ⟨_, fun y hy => by rw [hqf]; exact ho y hy⟩
      have hr := wL_good at_ ((stepN at_ loop op s n x w).2.1 || decide (op = 35)) l _ h.2.2.2.2 hwq (by rw [hqf]; exact ha) hdl he
      refine ⟨hr.1, fun hv => ?_, fun hf' => absurd hf' hf, hr.2⟩
      have hp : w.fs <+: (wL at_ ((stepN at_ loop op s n x w).2.1 || decide (op = 35)) l (stepN at_ loop op s n x w).2.2).2.fs := by
        have := wL_pfx at_ ((stepN at_ loop op s n x w).2.1 || decide (op = 35)) l (stepN at_ loop op s n x w).2.2
        rw [hqf] at this; exact this
      refine VarOk.mono hp ?_
      by_cases h1 : op = 1
      · subst h1
        simp only [stepN, if_true] at hqe ⊢
        refine varNo_ok hw s _ (Classical.byContradiction fun hc => ?_)
        rw [if_pos (by omega)] at hqe
        exact fail_e _ _ _ (by decide) hqe
      · have h2 : op = 30 ∨ op = 35 ∨ op = 38 := by
          simp only [isVr, Bool.or_eq_true, decide_eq_true_eq] at hv; omega
        simp only [stepN, if_neg h1, if_pos h2]
        refine varNo_ok hw s _ (varNo_in ?_)
        obtain ⟨out, ho⟩ := hd
        refine ho s ?_
        simp only [decT, if_neg hf]
        refine decL_sub _ _ _ ?_
        have hdc : isDec op = true := by rcases h2 with rfl | rfl | rfl <;> rfl
        rw [if_pos hdc]
        exact withS_self _ _
theorem wL_good (at_ : Nat) (loop : Bool) : ∀ (l : List T) (w : Wk), T.wfL l → WR w → at_ < w.fs.length → (∃ out, ∀ s ∈ decL l out, InV w.fs at_ s) → (wL at_ loop l w).2.e = 0 →
    WR (wL at_ loop l w).2 ∧ goodL (wL at_ loop l w).2.fs (wL at_ loop l w).1
  | [], w, _, hw, _, _, _ => ⟨hw, trivial⟩
  | t :: r, w, h, hw, ha, hd, he => by
    simp only [wL] at he ⊢
    obtain ⟨out, ho⟩ := hd
    simp only [decL] at ho
    have he1 : (wT at_ loop t w).2.e = 0 := by
      refine Classical.byContradiction fun hc => ?_
      rw [wL_errL _ _ _ _ hc] at he; exact hc he
    have h1 := wT_good at_ loop t w h.1 hw ha ⟨out, fun y hy => ho y (decL_sub _ _ _ hy)⟩ he1
    have hp := wT_pfx at_ loop t w
    have h2 := wL_good at_ loop r _ h.2 h1.1 (Nat.lt_of_lt_of_le ha hp.length_le) ⟨_, fun y hy => (ho y hy).mono hp⟩ he
    exact ⟨h2.1, goodT.mono (wL_pfx at_ loop r _) _ h1.2, h2.2⟩
theorem wP_good (me : Nat) : ∀ (l : List T) (w : Wk), T.wfL l → (∀ u ∈ l.dropLast, u.op = 1) → WR w → me < w.fs.length → (∀ u ∈ l.dropLast, InV w.fs me u.s) → (∀ b, l.getLast?.getD default = b → ∃ out, ∀ s ∈ decT b out, InV w.fs me s) → (wP me l w).2.e = 0 →
    WR (wP me l w).2 ∧ goodL (wP me l w).2.fs (wP me l w).1
  | [], w, _, _, hw, _, _, _, _ => ⟨hw, trivial⟩
  | [t], w, h, _, hw, ha, _, hd, he => by
    simp only [wP] at he ⊢
    have h1 := wT_good me false t w h.1 hw ha (hd t rfl) he
    exact ⟨h1.1, h1.2, trivial⟩
  | t :: u :: r, w, h, hp, hw, ha, hv, hd, he => by
    simp only [wP] at he ⊢
    have h2 := wP_good me (u :: r) w h.2 (fun v hm => hp v (by simp [hm])) hw ha (fun v hm => hv v (by simp [hm])) (fun b hb => hd b (by simpa using hb)) he
    refine ⟨h2.1, ?_, h2.2⟩
    have h1 : t.op = 1 := hp t (by simp)
    have hs := hv t (by simp)
    have hwf := h.1
    obtain ⟨op, s, n, l, x⟩ := t
    simp only [T.op_mk] at h1
    subst h1
    have hl : l = [] := hwf.2.2.2.1.2 rfl
    subst hl
    refine ⟨fun _ => ?_, fun hf => by simp [isFn] at hf, trivial⟩
    exact (varNo_ok hw s _ (varNo_in hs)).mono (wP_pfx me (u :: r) w)
end
theorem WR.init (v : List ByteArray) (hv : v.length ≤ 200) : WR { fs := [{ around := -1, name := ⟨#[]⟩, params := 0, vars := v, mark := 0 }], mark := 4, e := 0, line := 0 } := by
 refine ⟨Nat.le_refl _, fun i f e => ?_, fun i f g e1 e2 => by simp at e2⟩
 rcases i with _ | i
 ·simp at e; subst e
  exact ⟨by simp, by simp, by simp, by simp, hv, by simp⟩
 ·simp at e
theorem resolve_good (t : T) (h : (resolve t).2.2.2 = 0) : goodT (resolve t).1 (resolve t).2.1 ∧
  (∀ (i : Nat) (f : Fn), (resolve t).1[i]? = some f → f.around < i ∧ (0 < i → 0 ≤ f.around ∧ 4 ≤ f.mark) ∧ f.params ≤ f.vars.length ∧ f.vars.length ≤ 200) ∧
  (∀ (i : Nat) (f g : Fn), (resolve t).1[i]? = some f → (resolve t).1[i + 1]? = some g → f.mark < g.mark) ∧ 0 < (resolve t).1.length := by
 obtain ⟨hr, hl, w, hw, he, hres⟩ := resolve_ok t h
 have hwr : WR w := by rw [hw]; exact WR.init _ hl
 have ha : 0 < w.fs.length := by rw [hw]; simp
 have hg := wT_good 0 false t w (right_wf hr) hwr ha ⟨[], fun s hs => ⟨_, by rw [hw]; rfl, hs⟩⟩ he
 have hp := (wT_pfx 0 false t w).length_le
 rw [hres]
 refine ⟨hg.2, fun i f e => ?_, hg.1.rise, by simp only; omega⟩
 obtain ⟨a, b, c, d, x, y⟩ := hg.1.each i f e
 exact ⟨a, c, d, x⟩
def isMk (op : Int) : Bool := decide (op = 11) || decide (op = 16) || decide (op = 15)
structure Frm (op : Int) (l : List T) : Prop where
 mem : op = 13 → l.length = 1
 idx : op = 14 → l.length = 2
 set : op = 17 → l.length = 2
 two : op = 21 ∨ op = 22 → l.length = 2
 three : op = 23 → l.length = 3
 call : op = 15 ∨ op = 16 → 0 < l.length
 one : op = 30 ∨ op = 36 → l.length ≤ 1
 throw : op = 37 → l.length = 1
 fn : isFn op = true → ∀ u ∈ l, u.op = 32 ∨ (u.op = 1 ∧ u.l = [])
 lhs : op = 17 → ∀ u, l[0]? = some u → u.op = 1 ∨ u.op = 13 ∨ u.op = 14
mutual
def frm : T → Prop
 | .mk op _ _ l _ => Frm op l ∧ frmL l
def frmL : List T → Prop
 | [] => True
 | t :: r => frm t ∧ frmL r
end
theorem frmL_of : ∀ {l : List T}, (∀ t ∈ l, frm t) → frmL l
 | [], _ => trivial
 | a :: r, h => ⟨h a (by simp), frmL_of fun t ht => h t (by simp [ht])⟩
theorem fitL_part (f : T → Bool) (op : Int) (len : Nat) : ∀ (i : Nat) (l : List T), fitL f op len i l = true → ∀ (j : Nat) (u : T), l[j]? = some u → partOK op len (i + j) u.op = true ∧ f u = true
 | i, [], _, j, u, h => by simp at h
 | i, x :: r, hf, 0, u, h => by
  simp at h; subst h
  simp only [fitL, Bool.and_eq_true] at hf
  exact hf.1
 | i, x :: r, hf, j + 1, u, h => by
  simp only [fitL, Bool.and_eq_true] at hf
  have := fitL_part f op len (i + 1) r hf.2 j u (by simpa using h)
  rwa [show i + 1 + j = i + (j + 1) by omega] at this
theorem fit_leaf (h : Nat) (u : T) (e : fit h u = true) (h1 : u.op = 1) : u.l = [] := by
 obtain ⟨op, s, n, l, x⟩ := u
 simp only [T.op_mk] at h1
 subst h1
 rcases h with _ | h
 ·simp [fit] at e
 simp only [fit, Bool.and_eq_true] at e
 rcases l with _ | ⟨a, r⟩
 ·rfl
 ·have := e.1.1
  simp [okF, formOf, forms, TX.ok] at this; omega
theorem fit_frm : ∀ (h : Nat) (t : T), fit h t = true → frm t
 | 0, _, e => by simp [fit] at e
 | h + 1, .mk op s n l x, e => by
  simp only [fit, Bool.and_eq_true] at e
  obtain ⟨⟨e1, e2⟩, e3⟩ := e
  have hsub : frmL l := frmL_of fun t ht => fit_frm h t (fitL_mem _ _ _ _ _ e3 t ht)
  have hp := fitL_part _ _ _ _ _ e3
  refine ⟨⟨?_, ?_, ?_, ?_, ?_, ?_, ?_, ?_, fun hf u hu => ?_, ?_⟩, hsub⟩
  ·rintro rfl; simp [okF, formOf, forms] at e1; omega
  ·rintro rfl; simp [okF, formOf, forms] at e1; omega
  ·rintro rfl; simp [okF, formOf, forms] at e1; omega
  ·rintro (rfl | rfl) <;> (simp [okF, formOf, forms] at e1; omega)
  ·rintro rfl; simp [okF, formOf, forms] at e1; omega
  ·rintro (rfl | rfl) <;> (simp [okF, formOf, forms] at e1; omega)
  ·rintro (rfl | rfl) <;> (simp [okF, formOf, forms] at e1; omega)
  ·rintro rfl; simp [okF, formOf, forms] at e1; omega
  ·obtain ⟨j, hj⟩ := List.mem_iff_getElem?.1 hu
   obtain ⟨h1, h2⟩ := hp j u hj
   have hop : op = 10 ∨ op = 41 := by simp [isFn] at hf; omega
   simp only [partOK, if_pos hop] at h1
   split at h1
   ·exact .inl (of_decide_eq_true h1)
   ·have h1 := of_decide_eq_true h1
    exact .inr ⟨h1, fit_leaf h u h2 h1⟩
  ·rintro rfl u hu
   obtain ⟨h1, -⟩ := hp 0 u hu
   simpa [partOK, or_assoc] using h1
theorem right_frm {t : T} (h : right t = true) : frm t := by
 simp only [right, rBlk, Bool.and_eq_true] at h
 exact fit_frm _ _ h.2
theorem bareL_map : ∀ l : List T, bareL l = l.map bareT
 | [] => rfl
 | t :: r => by simp [bareL, bareL_map r]
theorem bare_op (t : T) : (bareT t).op = t.op := by cases t; rfl
theorem bare_l (t : T) : (bareT t).l = bareL t.l := by cases t; rfl
mutual
theorem frm_bare : ∀ t : T, frm (bareT t) → frm t
 | .mk op s n l x, h => by
  simp only [bareT, frm] at h ⊢
  obtain ⟨⟨h1, h2, h3, h4, h5, h6, h7, h8, h9, h10⟩, hr⟩ := h
  rw [bareL_map] at h1 h2 h3 h4 h5 h6 h7 h8 h9 h10
  simp only [List.length_map] at h1 h2 h3 h4 h5 h6 h7 h8
  refine ⟨⟨h1, h2, h3, h4, h5, h6, h7, h8, fun hf u hu => ?_, fun ho u hu => ?_⟩, frmL_bare l hr⟩
  ·have := h9 hf (bareT u) (List.mem_map.2 ⟨u, hu, rfl⟩)
   rw [bare_op, bare_l, bareL_map] at this
   simpa using this
  ·have := h10 ho (bareT u) (by rw [List.getElem?_map, hu]; rfl)
   rwa [bare_op] at this
theorem frmL_bare : ∀ l : List T, frmL (bareL l) → frmL l
 | [], _ => trivial
 | t :: r, h => ⟨frm_bare t h.1, frmL_bare r h.2⟩
end
theorem resolve_frm (t : T) (h : (resolve t).2.2.2 = 0) : frm (resolve t).2.1 := by
 obtain ⟨hr, -⟩ := resolve_ok t h
 exact frm_bare _ (by rw [(resolve_bare t h).1]; exact right_frm hr)
theorem BehA.of {fs : List Fn} {a : Int} (ha : 0 ≤ a ∧ a ≤ 10000000000) (hfl : fs.length ≤ 1000) (hvs : ∀ G ∈ fs, G.vars.length ≤ 500) {f : Nat} (hf : f < fs.length) : BehA fs (baseL a fs) f (behV fs (baseL a fs) f) := by
 obtain ⟨G, hG⟩ : ∃ G, fs[f]? = some G := ⟨_, List.getElem?_eq_getElem hf⟩
 have hb := baseL_at fs a f hf
 have hbe := baseE_le fs a f hvs
 have hv := hvs G (List.mem_of_getElem? hG)
 exact ⟨G, _, hG, hb, by omega, by omega, by simp [behV, hb, hG]⟩
theorem VarA.of {fs : List Fn} {a : Int} (ha : 0 ≤ a ∧ a ≤ 10000000000) (hfl : fs.length ≤ 1000) (hvs : ∀ G ∈ fs, G.vars.length ≤ 500) {n : Int} {s : ByteArray} (hv : VarOk fs n s) : VarA (baseL a fs) n (vset (baseL a fs) n) := by
 obtain ⟨h0, G, hG, hs⟩ := hv
 have hf := (List.getElem?_eq_some_iff.1 hG).1
 have hb := baseL_at fs a _ hf
 have hbe := baseE_le fs a (n / 1000).toNat hvs
 have h1 : n.tdiv 1000 = ((n / 1000).toNat : Int) := by rw [Int.tdiv_eq_ediv_of_nonneg h0]; omega
 have h2 : n.tmod 1000 = n % 1000 := Int.tmod_eq_emod_of_nonneg h0
 refine ⟨(n / 1000).toNat, _, h1, hb, ?_, ?_, ?_⟩
 ·exact wrap64 (by rw [h2]; omega)
 ·exact wrap64 (by omega)
 ·simp only [vset, h1, Int.toNat_natCast, hb, Option.getD_some]
theorem goodL_get {fs} : ∀ {l : List T} {i : Nat} {t : T}, goodL fs l → l[i]? = some t → goodT fs t
 | [], i, t, _, h => by simp at h
 | a :: r, 0, t, h, e => by simp at e; subst e; exact h.1
 | a :: r, i + 1, t, h, e => goodL_get h.2 (by simpa using e)
mutual
theorem RW_of {fs : List Fn} {bs : List Int} (hB : ∀ f, f < fs.length → BehA fs bs f (behV fs bs f)) (hV : ∀ n s, VarOk fs n s → VarA bs n (vset bs n)) : ∀ (t : T) (f : Nat), f < fs.length → goodT fs t → frm t → RW fs bs f t
 | .mk op s n l x, f, hf, hg, hr => by
  simp only [RW]
  by_cases hfn : isFn op = true
  ·rw [if_pos hfn]
   obtain ⟨h1, F, h2, h3⟩ := hg.2.1 hfn
   have hgl := (List.getElem?_eq_some_iff.1 h2).1
   refine ⟨hB f hf, ⟨n.toNat, by omega, hB _ hgl⟩, RWB_of hB hV l _ hgl hg.2.2 hr.2⟩
  ·rw [if_neg hfn]
   obtain ⟨⟨r1, r2, r3, r4, r5, r6, r7, r8, -, -⟩, r9⟩ := hr
   refine ⟨⟨hB f hf, fun ho => ?_, r1, r2, fun ho => ⟨r3 ho, fun t0 ht0 h1 => ?_⟩, r4, r5, fun ho => ?_, fun ho => ?_⟩, RWL_of hB hV l f hf hg.2.2 r9⟩
   ·simp only [T.op_mk] at ho
    exact hV n s (hg.1 (by rcases ho with rfl | rfl | rfl <;> rfl))
   ·have hg0 := goodL_get hg.2.2 ht0
    obtain ⟨op0, s0, n0, l0, x0⟩ := t0
    simp only [T.op_mk] at h1
    subst h1
    exact hV n0 s0 (hg0.1 rfl)
   ·have := r6 ho
    simp only [T.l_mk]
    rintro rfl
    simp at this
   ·simp only [T.op_mk, T.l_mk] at ho ⊢
    rcases ho with ho | ho | ho
    ·exact r7 (.inl ho)
    ·exact r7 (.inr ho)
    ·rw [r8 ho]; exact Nat.le_refl _
theorem RWL_of {fs : List Fn} {bs : List Int} (hB : ∀ f, f < fs.length → BehA fs bs f (behV fs bs f)) (hV : ∀ n s, VarOk fs n s → VarA bs n (vset bs n)) : ∀ (l : List T) (f : Nat), f < fs.length → goodL fs l → frmL l → RWL fs bs f l
 | [], _, _, _, _ => trivial
 | t :: r, f, hf, hg, hr => ⟨RW_of hB hV t f hf hg.1 hr.1, RWL_of hB hV r f hf hg.2 hr.2⟩
theorem RWB_of {fs : List Fn} {bs : List Int} (hB : ∀ f, f < fs.length → BehA fs bs f (behV fs bs f)) (hV : ∀ n s, VarOk fs n s → VarA bs n (vset bs n)) : ∀ (l : List T) (g : Nat), g < fs.length → goodL fs l → frmL l → RWB fs bs g l
 | [], _, _, _, _ => trivial
 | t :: r, g, hf, hg, hr => ⟨fun _ => RW_of hB hV t g hf hg.1 hr.1, RWB_of hB hV r g hf hg.2 hr.2⟩
end
theorem resolve_lims (t : T) : (resolve t).1.length ≤ 500 ∧ (∀ G ∈ (resolve t).1, G.vars.length ≤ 200 ∧ G.params ≤ 200) := by
 refine ⟨(resolve_fs t).len, ?_⟩
 by_cases h : (resolve t).2.2.2 = 0
 ·obtain ⟨-, h2, -⟩ := resolve_good t h
  intro G hG
  obtain ⟨i, hi⟩ := List.mem_iff_getElem?.1 hG
  obtain ⟨-, -, h3, h4⟩ := h2 i G hi
  exact ⟨h4, by omega⟩
 ·rw [(resolve_err t h).1]; simp
theorem resolve_RW (t : T) (hw : t.wt ≤ 1000000000) (h : (resolve t).2.2.2 = 0) : RW (resolve t).1 (baseL ((resolve t).2.1.count : Nat) (resolve t).1) 0 (resolve t).2.1 := by
 have hwt := resolve_wt t
 have hcw := count_wt (resolve t).2.1
 obtain ⟨h1, h2⟩ := resolve_lims t
 have hvs : ∀ G ∈ (resolve t).1, G.vars.length ≤ 500 := fun G hG => by have := (h2 G hG).1; omega
 obtain ⟨hgood, -, -, h0⟩ := resolve_good t h
 exact RW_of (fun f hf => BehA.of ⟨by omega, by omega⟩ (by omega) hvs hf) (fun n s hv => VarA.of ⟨by omega, by omega⟩ (by omega) hvs hv) _ 0 h0 hgood (resolve_frm t h)
theorem rules33 (t : T) (ht : t.ok) (hw : t.wt ≤ 1000000000) (k : Nat) (hk : 40 * t.wt + 10000 ≤ k) : PureC k 33 [.agg t.enc] (rulV (rulesM t)) := by
 have hwt := resolve_wt t
 obtain ⟨h1, h2⟩ := resolve_lims t
 exact f33 t ht hw (by omega) (by omega) (fun h => (resolve_good t h).2.2.2) (fun G hG => by have := (h2 G hG).1; omega) (fun G hG => by have := (h2 G hG).2; omega) (resolve_RW t hw) k (by omega)
theorem rulV_refs (r : RRes) : (rulV r).refs = [] := by
 have h : ∀ l : List Rule, AV.refsL (encR l) = [] := fun l => by
  induction l with
  | nil => rfl
  | cons a r ih => simp only [encR, refsL_append, Rule.enc_refs, ih, List.append_nil]
 simp [rulV, encFs_refs, encFS_refs, h]
theorem f56 (l : List Int) (hl : l.length ≤ 1000000000000) (k : Nat) (hk : l.length + 3 ≤ k) : PureC k 56 [.sl none l.length (l.map (.int .i64)), .sl none l.length (l.map (.int .i64))] (.bool true) := by
 intro E st hE
 obtain ⟨k, rfl⟩ : ∃ k', k = k' + 1 := ⟨k - 1, by omega⟩
 refine call_in2 rfl rfl (by decide) fun s hs e0 e1 => ?_
 simp [hs, e0, e1]
 refine WP_loop (fun n s m st' => ∃ j : Nat, j ≤ l.length ∧ n = l.length - j ∧ s.length = 26 ∧ m = [] ∧ lk s 0 = .sl none l.length (l.map (.int .i64)) ∧ lk s 1 = .sl none l.length (l.map (.int .i64)) ∧ lk s 5 = .int .i64 j ∧ st' = st) l.length (by omega)
  ⟨0, by omega, by omega, by simp [hs], rfl, by simp [hs, e0], by simp [hs, e1], by simp [hs], rfl⟩ ?_
 clear hs e0 e1
 rintro _ s m _ ⟨j, hj, rfl, hs, rfl, e0, e1, e5, rfl⟩
 by_cases hc : j < l.length
 ·have hwj := wrap64 (n := (j : Int) + 1) (by omega)
  simp [Nat.testBit, hs, e0, e1, e5, hc]
  simp [hs, e5, hwj]
  exact ⟨_, by omega, j + 1, by omega, rfl, by simp [hs], rfl, by simp [hs, e0], by simp [hs, e1], by simp [hs], rfl⟩
 ·simp [hs, e0, e5, hc]
  exact Grow.refl _
theorem f49 (r : Rule) (hl : r.l.length ≤ 1000000000000) (k : Nat) (hk : r.l.length + 10 ≤ k) : PureC k 49 [.agg r.enc, .agg r.enc] (.bool true) := by
 intro E st hE
 obtain ⟨k, rfl⟩ : ∃ k', k = k' + 1 := ⟨k - 1, by omega⟩
 have c56 := f56 r.l hl k (by omega) E ⟨st.H ++ [.cells 55 r.enc, .cells 55 r.enc], st.I⟩ (hE.of (by simp) (by simp))
 simp only [Rule.enc] at c56 ⊢
 refine call_in2 rfl rfl (by decide) fun s hs e0 e1 => ?_
 simp [hs, e0, e1]
 refine obP_intro c56 fun p hp => ?_
 obtain ⟨q, st2⟩ := p
 obtain ⟨v, r1, r2, r3⟩ := hp
 simp only at r1 r2
 subst r1
 have r3 := fin_bool_inv r3
 subst r3
 have a0 : st2.H[st.H.length]? = some (.cells 55 [.int .i64 r.kind, .int .i64 r.f, .int .i64 r.x, .int .i64 r.y, .int .i64 r.z, .int .i64 r.n, .int .i64 r.m, .str r.s, .sl none r.l.length (r.l.map (.int .i64))]) := pfx_get r2.H (by simp)
 have a1 : st2.H[st.H.length + 1]? = some (.cells 55 [.int .i64 r.kind, .int .i64 r.f, .int .i64 r.x, .int .i64 r.y, .int .i64 r.z, .int .i64 r.n, .int .i64 r.m, .str r.s, .sl none r.l.length (r.l.map (.int .i64))]) := pfx_get r2.H (by simp)
 simp [hs, a0, a1]
 exact ⟨(List.prefix_append _ _).trans r2.H, r2.I⟩
def sysE (n : Int) (F : List FS) (R : List Rule) : List AV := [.int .i64 n, .sl none F.length (encFS F), .sl none R.length (encR R)]
theorem f35 (n : Int) (F : List FS) (R : List Rule) (hF : F.length ≤ 1000000000) (hR : R.length ≤ 1000000000) (hFp : ∀ x ∈ F, x.params.length ≤ 1000000000) (hRl : ∀ x ∈ R, x.l.length ≤ 1000000000) (k : Nat) (hk : 1000010010 ≤ k) : PureC k 35 [.agg (sysE n F R), .agg (sysE n F R)] (.bool true) := by
  intro E st hE
  obtain ⟨k, rfl⟩ : ∃ k', k = k' + 1 := ⟨k - 1, by omega⟩
  unfold sysE
  refine call_in2 rfl rfl (by decide) fun s hs e0 e1 => ?_
  simp [hs, e0, e1]
  refine WP_loop (fun n' s m st' => ∃ (j : Nat) (H : List ABlk), j ≤ F.length ∧ n' = F.length - j ∧ s.length = 104 ∧ m = [] ∧ lk s 2 = .ptr st.H.length 0 ∧ lk s 3 = .ptr (st.H.length + 1) 0 ∧ lk s 5 = .int .i64 j ∧ st.I <+: st'.I ∧
      st'.H = st.H ++ ([.cells 49 [.int .i64 n, .sl none F.length (encFS F), .sl none R.length (encR R)], .cells 49 [.int .i64 n, .sl none F.length (encFS F), .sl none R.length (encR R)]] ++ H)) F.length (by omega)
    ⟨0, [], by omega, by omega, by simp [hs], rfl, by simp [hs], by simp [hs], by simp [hs], List.prefix_rfl, by simp⟩ ?_
  clear hs e0 e1
  rintro _ s m ⟨H', I'⟩ ⟨j, H, hj, rfl, hs, rfl, e2, e3, e5, hI, hH⟩
  simp only at hH hI
  subst hH
  have b0 : ∀ x, (st.H ++ ([ABlk.cells 49 [.int .i64 n, .sl none F.length (encFS F), .sl none R.length (encR R)], .cells 49 [.int .i64 n, .sl none F.length (encFS F), .sl none R.length (encR R)]] ++ H) ++ x)[st.H.length]? = some (.cells 49 [.int .i64 n, .sl none F.length (encFS F), .sl none R.length (encR R)]) := fun x => by simp
  have b1 : ∀ x, (st.H ++ ([ABlk.cells 49 [.int .i64 n, .sl none F.length (encFS F), .sl none R.length (encR R)], .cells 49 [.int .i64 n, .sl none F.length (encFS F), .sl none R.length (encR R)]] ++ H) ++ x)[st.H.length + 1]? = some (.cells 49 [.int .i64 n, .sl none F.length (encFS F), .sl none R.length (encR R)]) := fun x => by rw [List.append_assoc, getE_app]; simp
  have hE2 : E.Wf ⟨st.H ++ ([ABlk.cells 49 [.int .i64 n, .sl none F.length (encFS F), .sl none R.length (encR R)], .cells 49 [.int .i64 n, .sl none F.length (encFS F), .sl none R.length (encR R)]] ++ H), I'⟩ := hE.of (by simp) hI.length_le
  have hGl : st.H <+: st.H ++ ([ABlk.cells 49 [.int .i64 n, .sl none F.length (encFS F), .sl none R.length (encR R)], .cells 49 [.int .i64 n, .sl none F.length (encFS F), .sl none R.length (encR R)]] ++ H) := List.prefix_append _ _
  generalize hHH : st.H ++ ([ABlk.cells 49 [.int .i64 n, .sl none F.length (encFS F), .sl none R.length (encR R)], .cells 49 [.int .i64 n, .sl none F.length (encFS F), .sl none R.length (encR R)]] ++ H) = HH at b0 b1 hE2 hGl ⊢
  have a0 := b0 []
  have a1 := b1 []
  rw [List.append_nil] at a0 a1
  have hmw := mayWrite_new hE2
  by_cases hc : j < F.length
  · obtain ⟨x, hg⟩ : ∃ x, F[j]? = some x := ⟨_, List.getElem?_eq_getElem hc⟩
    have hrd := encFS_rd hg
    have hwj := wrap64 (n := (j : Int) + 1) (by omega)
    have hxp := hFp x (List.mem_of_getElem? hg)
    have c56 := f56 x.params (by omega) k (by omega) E ⟨HH ++ [.cells 82 x.enc, .cells 82 x.enc], I'⟩ (hE2.of (by simp) (by simp))
    simp only [FS.enc] at hrd c56
    simp [hs, e2, e3, e5, a0, a1, getE_old a0, getE_old a1, hc, hrd, storeA, hmw, wrC]
    refine obP_intro c56 fun p hp => ?_
    obtain ⟨q, st2⟩ := p
    obtain ⟨v, r1, r2, r3⟩ := hp
    simp only at r1 r2
    subst r1
    have r3 := fin_bool_inv r3
    subst r3
    have d0 : st2.H[HH.length]? = some (.cells 82 x.enc) := pfx_get r2.H (by simp [FS.enc])
    have d1 : st2.H[HH.length + 1]? = some (.cells 82 x.enc) := pfx_get r2.H (by simp [FS.enc])
    simp only [FS.enc] at d0 d1
    simp [hs, d0, d1]
    simp [hs, e5, hwj]
    obtain ⟨tl, htl⟩ := r2.H
    refine ⟨_, by omega, j + 1, H ++ ([.cells 82 x.enc, .cells 82 x.enc] ++ tl), by omega, rfl, by simp [hs], rfl, by simp [hs, e2], by simp [hs, e3], by simp [hs], hI.trans r2.I, ?_⟩
    rw [← htl, ← hHH]
    simp [FS.enc]
  · have hjF : j = F.length := by omega
    have c49 := fun (i : Nat) (r : Rule) (hr : R[i]? = some r) st3 (h : E.Wf st3) => (f49 r (by have := hRl r (List.mem_of_getElem? hr); omega) k (by have := hRl r (List.mem_of_getElem? hr); omega)).full (E := E) (st := st3) (by simp) h (by simp [Rule.enc_fin])
    simp [hs, e2, e3, e5, a0, a1, hc]
    refine WP_loop (fun n' s m st' => ∃ (i : Nat), i ≤ R.length ∧ n' = R.length - i ∧ s.length = 104 ∧ m = [] ∧ lk s 2 = .ptr st.H.length 0 ∧ lk s 3 = .ptr (st.H.length + 1) 0 ∧ lk s 8 = .int .i64 i ∧ st' = ⟨HH, I'⟩) R.length (by omega)
      ⟨0, by omega, by omega, by simp [hs], rfl, by simp [hs, e2], by simp [hs, e3], by simp [hs], rfl⟩ ?_
    clear hs e2 e3 e5
    rintro _ s m _ ⟨i, hi, rfl, hs, rfl, e2, e3, e8, rfl⟩
    by_cases hd : i < R.length
    · obtain ⟨r, hg⟩ : ∃ r, R[i]? = some r := ⟨_, List.getElem?_eq_getElem hd⟩
      have hrd := encR_rd hg
      have hwi := wrap64 (n := (i : Int) + 1) (by omega)
      have c := c49 i r hg ⟨HH, I'⟩ hE2
      simp only [Rule.enc] at hrd c
      simp [Nat.testBit, hs, e2, e3, e8, a0, a1, hd, hrd, c]
      simp [hs, e8, hwi]
      exact ⟨_, by omega, i + 1, by omega, rfl, by simp [hs], rfl, by simp [hs, e2], by simp [hs, e3], by simp [hs], rfl⟩
    · simp [hs, e2, e3, e8, a0, hd]
      exact ⟨hGl, hI⟩
def tC : T := .mk 32 ⟨#[]⟩ 0 [.mk 30 ⟨#[97]⟩ 0 [.mk 11 ⟨#[]⟩ 0 [] 1] 1] 1
def tD : T := .mk 32 ⟨#[]⟩ 0 [.mk 30 ⟨#[97]⟩ 0 [] 1, .mk 31 ⟨#[]⟩ 0 [.mk 1 ⟨#[98]⟩ 0 [] 2] 2] 1
theorem rC : rulV (rulesM tC) = .tup [.sl none 1 [.int .i64 (-1), .str ⟨#[]⟩, .int .i64 0, .sl none 1 [.str ⟨#[97]⟩], .int .i64 0], .agg [.int .i64 16, .sl none 1 [.int .i64 0, .sl none 0 [], .int .i64 4, .int .i64 5, .int .i64 6], .sl none 2 [.int .i64 3, .int .i64 0, .int .i64 2, .int .i64 3, .int .i64 0, .int .i64 0, .int .i64 0, .str ⟨#[]⟩, .sl none 0 [], .int .i64 1, .int .i64 0, .int .i64 2, .int .i64 0, .int .i64 0, .int .i64 0, .int .i64 4, .str ⟨#[]⟩, .sl none 0 []]], .int .i64 0, .int .i64 0] := by kernel_rfl
theorem rD : rulV (rulesM tD) = .tup [.sl none 0 [], .agg [.int .i64 0, .sl none 0 [], .sl none 0 []], .int .i64 2, .int .i64 50] := by kernel_rfl
theorem tC_ok : tC.ok := by simp [tC, T.ok, T.okL, ok64]; decide
theorem tD_ok : tD.ok := by simp [tD, T.ok, T.okL, ok64]; decide
theorem tC_wt : tC.wt ≤ 100 := by decide
theorem tD_wt : tD.wt ≤ 100 := by decide
theorem wt_le' (k : Nat) (hk : 20000 ≤ k) (n : Nat) (h : n ≤ 100) : n ≤ 1000000000 ∧ 40 * n + 10000 ≤ k := by omega
theorem k33c (k : Nat) (hk : 20000 ≤ k) (E : Env) (st : St) (h : E.Wf st) : doCall (aCall prog k) E .full (.fn 33) [.agg tC.enc] st = some (.ok (rulV (rulesM tC)), st) := by
 obtain ⟨h1, h2⟩ := wt_le' k hk _ tC_wt
 exact (rules33 tC tC_ok h1 k h2).full (by rw [rC]; rfl) h
theorem k33d (k : Nat) (hk : 20000 ≤ k) (E : Env) (st : St) (h : E.Wf st) : doCall (aCall prog k) E .full (.fn 33) [.agg tD.enc] st = some (.ok (rulV (rulesM tD)), st) := by
 obtain ⟨h1, h2⟩ := wt_le' k hk _ tD_wt
 exact (rules33 tD tD_ok h1 k h2).full (by rw [rD]; rfl) h
theorem f32 (X : ABlk) (k : Nat) (hk : 30000 ≤ k) (b : Nat) (hb : b ≤ 1) : CallQ (k + 1) { base := b, rob := 0, rom := 0 } 32 [] ⟨[X], []⟩ fun r st' => ∃ v, r = .ok v ∧ Grow ⟨[X], []⟩ st' ∧ v = .bool true := by
 have c1 := doCall_le (aCall_mono (show 400 ≤ k by omega)) _ _ _ _ _ _ (k24e X)
 have c2 := fun Y => doCall_le (aCall_mono (show 400 ≤ k by omega)) _ _ _ _ _ _ (k24f X Y)
 have c1 : doCall (aCall prog k) { base := b, rob := 0, rom := 0 } .full (.fn 24) _ ⟨[X], []⟩ = _ := c1
 have c2 : ∀ Y, doCall (aCall prog k) { base := b, rob := 0, rom := 0 } .full (.fn 24) _ ⟨[X, Y], []⟩ = _ := c2
 have c3 := k33c k (by omega) { base := b, rob := 0, rom := 0 } ⟨[X], []⟩ ⟨hb, by simp, by simp⟩
 have c4 := fun Y => k33d k (by omega) { base := b, rob := 0, rom := 0 } ⟨[X, Y], []⟩ ⟨by simp; omega, by simp, by simp⟩
 have c5 := fun Y Z => (f49 (rSub 2 3) (by decide) k (by simp [rSub]; omega)).fullA (args' := [.agg (rSub 2 3).enc, .agg [.int .i64 3, .int .i64 0, .int .i64 2, .int .i64 3, .int .i64 0, .int .i64 0, .int .i64 0, .str ⟨#[]⟩, .nils]]) (E := { base := b, rob := 0, rom := 0 }) (st := ⟨[X, Y, Z], []⟩) rfl ⟨by simp; omega, by simp, by simp⟩ (by simp [Rule.enc_fin, Rule.enc, rSub])
 have c6 := fun Y Z => (f49 { kind := 1, x := 2, m := 4 } (by decide) k (by simp; omega)).fullA (args' := [.agg (Rule.enc { kind := 1, x := 2, m := 4 }), .agg [.int .i64 1, .int .i64 0, .int .i64 2, .int .i64 0, .int .i64 0, .int .i64 0, .int .i64 4, .str ⟨#[]⟩, .nils]]) (E := { base := b, rob := 0, rom := 0 }) (st := ⟨[X, Y, Z], []⟩) rfl ⟨by simp; omega, by simp, by simp⟩ (by simp [Rule.enc_fin, Rule.enc, rSub])
 rw [rC] at c3
 rw [rD] at c4
 simp [tC] at c3
 simp [tD] at c4
 simp only [rSub, Rule.enc, List.map_nil, List.length_nil] at c5 c6
 have hm : ∀ j x y, 1 ≤ j → mayWrite { base := b, rob := 0, rom := 0 } j x y = true := fun j x y h => by simp [mayWrite]; left; omega
 have hm1 := fun x y => hm 1 x y (by omega)
 have hm2 := fun x y => hm 2 x y (by omega)
 refine call_in0 rfl rfl (by decide) fun s hs => ?_
 simp [hs, c1, c3, storeA, hm1, wrC]
 simp [hs, c2, c4, storeA, hm2, wrC]
 simp [hs, fillA, wrC, c5, c6, rdC]
 exact Grow.appH ⟨[X], []⟩ _
theorem k32 (X : ABlk) : doCall (aCall prog 30001) { base := 0, rob := 0, rom := 0 } .full (.fn 32) [] ⟨[X], []⟩ = some (.ok (.bool true), ⟨[X], []⟩) := by
 obtain ⟨⟨r, st'⟩, e, v, e1, g, e2⟩ := f32 X 30000 (Nat.le_refl _) 1 (Nat.le_refl _)
 simp only at e1 g e2
 subst e1 e2
 have e : aCall prog 30001 { base := 1, rob := 0, rom := 0 } (.fn 32) [] ⟨[X], []⟩ = some (.ok (.bool true), st') := e
 have h1 := pfx_take g.H
 have h2 := pfx_take g.I
 simp only [List.length_cons, List.length_nil, Nat.zero_add] at h1 h2
 simp only [doCall, List.map_nil, List.length_cons, List.length_nil, Nat.zero_add, e, obind_some]
 simp only [AV.fin, AV.refs, refsLt_nil, guardb_true, okv_eq, h1, h2]
theorem k32at {k : Nat} (hk : 30001 ≤ k) (y : ABlk) : doCall (aCall prog k) E0 .full (.fn 32) [] ⟨[] ++ [y], []⟩ = some (.ok (.bool true), ⟨[] ++ [y], []⟩) :=
 doCall_le (aCall_mono hk) _ _ _ _ _ _ (k32 y)
def mks (l : List T) : List Int := (l.filter fun t => isMk t.op).map (·.n)
structure SetsOk (fs : List Fn) (bs : List Int) (a S : Int) : Prop where
 one : 1 ≤ a
 base : ∀ (f : Nat) (G : Fn), fs[f]? = some G → ∃ b, bs[f]? = some b ∧ a ≤ b ∧ b + G.vars.length + 2 < S
theorem SetsOk.var {fs bs a S} (h : SetsOk fs bs a S) {n : Int} {s : ByteArray} (hv : VarOk fs n s) : a ≤ vset bs n ∧ vset bs n < S := by
 obtain ⟨h0, G, hG, hs⟩ := hv
 obtain ⟨b, hb, h1, h2⟩ := h.base _ G hG
 have h3 : n.tdiv 1000 = ((n / 1000).toNat : Int) := by rw [Int.tdiv_eq_ediv_of_nonneg h0]; omega
 have h4 : n.tmod 1000 = n % 1000 := Int.tmod_eq_emod_of_nonneg h0
 have h5 := (List.getElem?_eq_some_iff.1 hs).1
 simp only [vset, h3, Int.toNat_natCast, hb, Option.getD_some, h4]
 omega
theorem SetsOk.beh {fs bs a S} (h : SetsOk fs bs a S) {f : Nat} (hf : f < fs.length) : a ≤ behV fs bs f ∧ behV fs bs f + 2 < S := by
 obtain ⟨G, hG⟩ : ∃ G, fs[f]? = some G := ⟨_, List.getElem?_eq_getElem hf⟩
 obtain ⟨b, hb, h1, h2⟩ := h.base _ G hG
 simp only [behV, hb, hG, Option.getD_some, Option.map_some]
 omega
theorem baseE_mono : ∀ (l : List Fn) (a : Int) (j : Nat) (f : Fn), l[j]? = some f → baseE a (l.take j) + f.vars.length + 2 < baseE a l
 | [], a, j, f, h => by simp at h
 | g :: r, a, 0, f, h => by
  simp at h; subst h
  have : ∀ (l : List Fn) (b : Int), b ≤ baseE b l := fun l => by
   induction l with
   | nil => intro b; simp [baseE]
   | cons g r ih => intro b; simp only [baseE]; have := ih (b + (g.vars.length + 3 : Nat)); omega
  have := this r (a + (g.vars.length + 3 : Nat))
  simp only [List.take_zero, baseE]; omega
 | g :: r, a, j + 1, f, h => by
  simp only [List.take_succ_cons, baseE]
  exact baseE_mono r _ j f (by simpa using h)
theorem baseE_ge : ∀ (l : List Fn) (a : Int) (j : Nat), a ≤ baseE a (l.take j)
 | [], a, j => by simp [baseE]
 | g :: r, a, 0 => by simp [baseE]
 | g :: r, a, j + 1 => by
  have := baseE_ge r (a + (g.vars.length + 3 : Nat)) j
  simp only [List.take_succ_cons, baseE]; omega
theorem SetsOk.of (fs : List Fn) (a : Int) (ha : 1 ≤ a) : SetsOk fs (baseL a fs) a (baseE a fs) :=
 ⟨ha, fun f G hG => ⟨_, baseL_at fs a f (List.getElem?_eq_some_iff.1 hG).1, baseE_ge fs a f, baseE_mono fs a f G hG⟩⟩
theorem rulesM_sys (t : T) : rulV (rulesM t) = .tup [.sl none (rulesM t).1.length (encFs (rulesM t).1), .agg (sysE (rulesM t).2.1.1 (rulesM t).2.1.2.1 (rulesM t).2.1.2.2), .int .i64 (rulesM t).2.2.1, .int .i64 (rulesM t).2.2.2] := rfl
theorem rulesM_lims (t : T) : (rulesM t).1.length ≤ 500 ∧ (rulesM t).2.1.2.1.length ≤ 500 ∧ (rulesM t).2.1.2.2.length ≤ 3 * t.wt := by
 have h1 := (resolve_lims t).1
 have h2 := rT_len (resolve t).1 (baseL ((resolve t).2.1.count : Nat) (resolve t).1) (resolve t).2.1 0 0 (behV (resolve t).1 (baseL ((resolve t).2.1.count : Nat) (resolve t).1) 0 + 2) true
 have h3 := count_wt (resolve t).2.1
 have h4 := resolve_wt t
 unfold rulesM
 simp only
 split
 ·simp
 ·split
  ·simp
  ·simp only [fsL_len]
   exact ⟨h1, h1, by omega⟩
mutual
def linT (L : Int) : T → T
 | .mk op s n l _ => .mk op s n (linL L l) L
def linL (L : Int) : List T → List T
 | [] => []
 | t :: r => linT L t :: linL L r
end
def linW (L : Int) (w : Wk) : Wk := { w with line := if w.e = 0 then 0 else L }
@[simp] theorem linW_e (L w) : (linW L w).e = w.e := rfl
@[simp] theorem linW_fs (L w) : (linW L w).fs = w.fs := rfl
@[simp] theorem linW_mark (L w) : (linW L w).mark = w.mark := rfl
theorem linW_fail (L : Int) (w : Wk) (e x : Int) (he : e ≠ 0) : linW L (w.fail e x) = (linW L w).fail e L := by
 by_cases h : w.e = 0
 ·simp [Wk.fail, linW, h, he]
 ·simp [Wk.fail, linW, h]
theorem linL_eq (L : Int) : ∀ l, linL L l = l.map (linT L)
 | [] => rfl
 | t :: r => by simp [linL, linL_eq L r]
@[simp] theorem linT_op (L t) : (linT L t).op = t.op := by cases t; rfl
@[simp] theorem linT_s (L t) : (linT L t).s = t.s := by cases t; rfl
mutual
theorem lin_decT (L : Int) : ∀ (t : T) (out : List ByteArray), decT (linT L t) out = decT t out
 | .mk op s n l x, out => by simp only [linT, decT, lin_decL L l]
theorem lin_decL (L : Int) : ∀ (l : List T) (out : List ByteArray), decL (linL L l) out = decL l out
 | [], out => rfl
 | t :: r, out => by simp only [linL, decL, lin_decT L t, lin_decL L r]
end
theorem lin_fitL (L : Int) (f : T → Bool) (op : Int) (len : Nat) : ∀ i l, (∀ t ∈ l, f (linT L t) = f t) → fitL f op len i (linL L l) = fitL f op len i l
 | i, [], _ => rfl
 | i, t :: r, h => by simp only [linL, fitL, linT_op, h t (by simp), lin_fitL L f op len (i + 1) r fun u hu => h u (by simp [hu])]
theorem lin_fit (L : Int) : ∀ (h : Nat) (t : T), fit h (linT L t) = fit h t
 | 0, t => by simp [fit]
 | h + 1, .mk op s n l x => by
  have hl : (linL L l).length = l.length := by simp [linL_eq]
  simp only [linT, fit, hl, lin_fitL L _ _ _ _ l fun t _ => lin_fit L h t]
theorem lin_right (L : Int) (t : T) : right (linT L t) = right t := by
 simp [right, rBlk, lin_fit]
theorem lin_params (L : Int) (l : List T) : paramsOf (linL L l) = paramsOf l := by
 simp only [paramsOf, linL_eq, ← List.map_dropLast, List.foldl_map, linT_s]
theorem lin_fn (L : Int) (op : Int) (s : ByteArray) (l : List T) (hl : l ≠ []) (at_ : Int) (mark : Nat) : fnOf' op s (linL L l) at_ mark = fnOf' op s l at_ mark := by
 have : (linL L l).getLast?.getD default = linT L (l.getLast?.getD default) := by
  rw [linL_eq, List.getLast?_map, List.getLast?_eq_some_getLast hl]; rfl
 simp only [fnOf', lin_params, this, lin_decT]
theorem lin_stepN (L : Int) (at_ : Nat) (loop : Bool) (op : Int) (s : ByteArray) (n x : Int) (w : Wk) :
  stepN at_ loop op s n L (linW L w) = ((stepN at_ loop op s n x w).1, (stepN at_ loop op s n x w).2.1, linW L (stepN at_ loop op s n x w).2.2) := by
 have h50 := linW_fail L w 50 x (by decide)
 have h51 := linW_fail L w 51 x (by decide)
 by_cases h1 : op = 1
 ·simp only [stepN, if_pos h1, linW_fs]
  by_cases hv : varNo w.fs at_ s < 0
  ·simp only [hv, if_true, h50]
  ·simp only [hv, if_false]
 by_cases h2 : op = 30 ∨ op = 35 ∨ op = 38
 ·simp only [stepN, if_neg h1, if_pos h2, linW_fs]
 by_cases h3 : op = 11 ∨ op = 16 ∨ op = 15
 ·simp only [stepN, if_neg h1, if_neg h2, if_pos h3, linW_mark]; rfl
 by_cases h4 : op = 36
 ·simp only [stepN, if_neg h1, if_neg h2, if_neg h3, if_pos h4]
  by_cases hv : at_ = 0
  ·simp only [hv, if_true, h51]
  ·simp only [hv, if_false]
 by_cases h5 : op = 39 ∨ op = 40
 ·simp only [stepN, if_neg h1, if_neg h2, if_neg h3, if_neg h4, if_pos h5]
  cases loop
  ·simp only [Bool.false_eq_true, if_false, h51]
  ·simp only [if_true]
 simp only [stepN, if_neg h1, if_neg h2, if_neg h3, if_neg h4, if_neg h5]
 by_cases h6 : op = 34
 ·simp only [if_pos h6]
 ·simp only [if_neg h6]
mutual
theorem lin_wT (L : Int) (at_ : Nat) (loop : Bool) : ∀ (t : T) (w : Wk), t.wf → wT at_ loop (linT L t) (linW L w) = (linT L (wT at_ loop t w).1, linW L (wT at_ loop t w).2)
 | .mk op s n l x, w, h => by
  simp only [linT, wT]
  by_cases he : w.e ≠ 0
  ·rw [if_pos (show (linW L w).e ≠ 0 from he), if_pos he]; rfl
  rw [if_neg (show ¬ (linW L w).e ≠ 0 from he), if_neg he]
  by_cases hf : isFn op = true
  ·rw [if_pos hf, if_pos hf, lin_fn L op s l (h.2.1 hf).1]
   by_cases hl : w.fs.length = 500 ∨ 200 < (fnOf' op s l at_ w.mark).vars.length
   ·rw [if_pos (show (linW L w).fs.length = 500 ∨ 200 < (fnOf' op s l at_ (linW L w).mark).vars.length from hl), if_pos hl]
    have h1 := linW_fail L { w with mark := w.mark + 2 } 52 x (by decide)
    rw [h1]; rfl
   ·rw [if_neg (show ¬ ((linW L w).fs.length = 500 ∨ 200 < (fnOf' op s l at_ (linW L w).mark).vars.length) from hl), if_neg hl]
    have h1 := lin_wP L w.fs.length l { w with mark := w.mark + 2, fs := w.fs ++ [fnOf' op s l at_ w.mark] } h.2.2.2.2
    have h2 : ({ linW L w with mark := (linW L w).mark + 2, fs := (linW L w).fs ++ [fnOf' op s l at_ (linW L w).mark] } : Wk) = linW L { w with mark := w.mark + 2, fs := w.fs ++ [fnOf' op s l at_ w.mark] } := rfl
    simp only [linW_fs, linW_mark] at h2 ⊢
    simp only [h2, h1]
    rfl
  ·rw [if_neg hf, if_neg hf, lin_stepN L at_ loop op s n x w]
   simp only [lin_wL L _ _ l _ h.2.2.2.2, linT]
theorem lin_wL (L : Int) (at_ : Nat) (loop : Bool) : ∀ (l : List T) (w : Wk), T.wfL l → wL at_ loop (linL L l) (linW L w) = (linL L (wL at_ loop l w).1, linW L (wL at_ loop l w).2)
 | [], w, _ => rfl
 | t :: r, w, h => by simp only [linL, wL, lin_wT L at_ loop t w h.1, lin_wL L at_ loop r _ h.2]
theorem lin_wP (L : Int) (me : Nat) : ∀ (l : List T) (w : Wk), T.wfL l → wP me (linL L l) (linW L w) = (linL L (wP me l w).1, linW L (wP me l w).2)
 | [], w, _ => rfl
 | [t], w, h => by simp only [linL, wP, lin_wT L me false t w h.1]
 | t :: u :: r, w, h => by
  have h2 := lin_wP L me (u :: r) w h.2
  simp only [linL] at h2
  obtain ⟨op, s, n, l, x⟩ := t
  simp only [linL, wP, h2, linW_fs, linT_s, T.s_mk]
  simp [T.setN, linT]
end
mutual
theorem linT_idem (L : Int) : ∀ t, linT L (linT L t) = linT L t
 | .mk op s n l x => by simp only [linT, linL_idem L l]
theorem linL_idem (L : Int) : ∀ l, linL L (linL L l) = linL L l
 | [] => rfl
 | t :: r => by simp only [linL, linT_idem L t, linL_idem L r]
end
theorem resolve_lin (L : Int) (t : T) : (resolve (linT L t)).1 = (resolve t).1 ∧ linT L (resolve (linT L t)).2.1 = linT L (resolve t).2.1 ∧
  (resolve (linT L t)).2.2.2 = (resolve t).2.2.2 ∧
  (((resolve (linT L t)).2.2.2 = 0 ∧ (resolve (linT L t)).2.2.1 = 0) ∨ ((resolve (linT L t)).2.2.2 = 30 ∧ (resolve (linT L t)).2.2.1 = 0) ∨ (resolve (linT L t)).2.2.1 = L) := by
 unfold resolve
 simp only [lin_right, lin_decT]
 by_cases hr : right t = true
 rotate_left
 ·simp [hr]
 simp only [hr, Bool.not_true, Bool.false_eq_true, if_false]
 split
 ·cases t; simp [linT, T.line]
 have hw : ∀ fs, ({ fs := fs, mark := 4, e := 0, line := 0 } : Wk) = linW L { fs := fs, mark := 4, e := 0, line := 0 } := fun fs => by simp [linW]
 have h1 := fun fs => lin_wT L 0 false t { fs := fs, mark := 4, e := 0, line := 0 } (right_wf hr)
 simp only [← hw, ne_eq, not_true, if_false] at h1
 simp only [h1, linW_e, linW_fs]
 split
 ·rename_i he
  refine ⟨rfl, rfl, rfl, .inr (.inr ?_)⟩
  simp [linW, he]
 ·exact ⟨rfl, linT_idem L _, rfl, .inl ⟨rfl, rfl⟩⟩
def rn (s : ByteArray) : ByteArray := s ++ ⟨#[95]⟩
theorem rn_inj {a b : ByteArray} (h : rn a = rn b) : a = b := by
 have h1 : (rn a).data.toList = (rn b).data.toList := by rw [h]
 simp [rn] at h1
 obtain ⟨⟨a⟩⟩ := a
 obtain ⟨⟨b⟩⟩ := b
 simp at h1
 rw [h1]
@[simp] theorem rn_eq (a b : ByteArray) : (rn a = rn b) = (a = b) := propext ⟨rn_inj, fun h => by rw [h]⟩
theorem rn_ne (s : ByteArray) : rn s ≠ ⟨#[]⟩ := by
 intro h
 have : (rn s).data.toList = [] := by rw [h]
 simp [rn] at this
def rnS (op : Int) (s : ByteArray) : ByteArray := if isVn op = true ∨ (op = 10 ∧ s ≠ ⟨#[]⟩) then rn s else s
mutual
def renT : T → T
 | .mk op s n l x => .mk op (rnS op s) n (renL l) x
def renL : List T → List T
 | [] => []
 | t :: r => renT t :: renL r
end
def renF (f : Fn) : Fn := { f with name := if f.name = ⟨#[]⟩ then ⟨#[]⟩ else rn f.name, vars := f.vars.map rn }
def renW (w : Wk) : Wk := { w with fs := w.fs.map renF }
@[simp] theorem renW_e (w) : (renW w).e = w.e := rfl
@[simp] theorem renW_mark (w) : (renW w).mark = w.mark := rfl
@[simp] theorem renW_fs (w) : (renW w).fs = w.fs.map renF := rfl
theorem renL_eq : ∀ l, renL l = l.map renT
 | [] => rfl
 | t :: r => by simp [renL, renL_eq r]
@[simp] theorem renT_op (t) : (renT t).op = t.op := by cases t; rfl
theorem renT_s (t) : (renT t).s = rnS t.op t.s := by cases t; rfl
theorem renW_fail (w : Wk) (e x : Int) : renW (w.fail e x) = (renW w).fail e x := by
 by_cases h : w.e = 0
 ·simp [Wk.fail, renW, h]
 ·simp [Wk.fail, renW, h]
theorem withS_ren (l : List ByteArray) (s : ByteArray) : withS (l.map rn) (rn s) = (withS l s).map rn := by
 unfold withS
 have : (rn s ∈ l.map rn) = (s ∈ l) := by simp
 simp only [this]
 split <;> simp
theorem isDec_vn {op : Int} (h : isDec op = true) : isVn op = true := by
 simp only [isDec, Bool.or_eq_true, decide_eq_true_eq] at h
 rcases h with ((rfl | rfl) | rfl) | rfl <;> rfl
mutual
theorem ren_decT : ∀ (t : T) (out : List ByteArray), decT (renT t) (out.map rn) = (decT t out).map rn
 | .mk op s n l x, out => by
  simp only [renT, decT]
  have h1 : (if isDec op = true then withS (out.map rn) (rnS op s) else out.map rn) = (if isDec op = true then withS out s else out).map rn := by
   split
   ·rename_i hd
    rw [rnS, if_pos (.inl (isDec_vn hd)), withS_ren]
   ·rfl
  simp only [h1]
  split
  ·rfl
  ·rw [ren_decL]
theorem ren_decL : ∀ (l : List T) (out : List ByteArray), decL (renL l) (out.map rn) = (decL l out).map rn
 | [], out => rfl
 | t :: r, out => by simp only [renL, decL, ren_decT t, ren_decL r]
end
theorem ixS_ren (s : ByteArray) : ∀ l : List ByteArray, ixS (rn s) (l.map rn) = ixS s l
 | [] => rfl
 | w :: r => by simp only [List.map_cons, ixS, rn_eq, ixS_ren s r]
theorem varF_ren (fs : List Fn) (s : ByteArray) : ∀ (n : Nat) (at_ : Int), varF (fs.map renF) n at_ (rn s) = varF fs n at_ s
 | 0, _ => rfl
 | n + 1, at_ => by
  simp only [varF, List.getElem?_map]
  cases fs[at_.toNat]? with
  | none => rfl
  | some f => simp only [Option.map_some, renF, ixS_ren, varF_ren fs s n]
theorem varNo_ren (fs : List Fn) (at_ : Int) (s : ByteArray) : varNo (fs.map renF) at_ (rn s) = varNo fs at_ s := varF_ren fs s _ _
theorem params_fold : ∀ (l : List T) (o : List ByteArray), (∀ u ∈ l, u.op = 1) → (l.map renT).foldl (fun o x => withS o x.s) (o.map rn) = (l.foldl (fun o x => withS o x.s) o).map rn
 | [], o, _ => rfl
 | t :: r, o, h => by
  have h1 : (renT t).s = rn t.s := by rw [renT_s, h t (by simp)]; rfl
  simp only [List.map_cons, List.foldl_cons, h1, withS_ren]
  exact params_fold r _ fun u hu => h u (by simp [hu])
theorem ren_params (l : List T) (h : ∀ u ∈ l.dropLast, u.op = 1) : paramsOf (renL l) = (paramsOf l).map rn := by
 simp only [paramsOf, renL_eq, ← List.map_dropLast]
 exact params_fold l.dropLast [] h
theorem isName_ne {s : ByteArray} (h : isName s = true) : s ≠ ⟨#[]⟩ := by
 rintro rfl
 simp [isName] at h
theorem ren_fn (op : Int) (s : ByteArray) (l : List T) (hf : isFn op = true) (hs : isVn op = true → isName s = true) (hl : l ≠ []) (hp : ∀ u ∈ l.dropLast, u.op = 1) (at_ : Int) (mark : Nat) :
  fnOf' op (rnS op s) (renL l) at_ mark = renF (fnOf' op s l at_ mark) := by
 have h1 : (renL l).getLast?.getD default = renT (l.getLast?.getD default) := by
  rw [renL_eq, List.getLast?_map, List.getLast?_eq_some_getLast hl]; rfl
 simp only [fnOf', ren_params l hp, h1, renF]
 have h2 : (if op = 10 ∧ rnS op s ≠ ⟨#[]⟩ then withS ((paramsOf l).map rn) (rnS op s) else (paramsOf l).map rn) = (if op = 10 ∧ s ≠ ⟨#[]⟩ then withS (paramsOf l) s else paramsOf l).map rn := by
  by_cases h10 : op = 10
  ·by_cases he : s = ⟨#[]⟩
   ·simp [h10, he, rnS, isVn]
   ·have : rnS op s = rn s := by rw [rnS, if_pos (.inr ⟨h10, he⟩)]
    rw [this, if_pos ⟨h10, rn_ne s⟩, if_pos ⟨h10, he⟩, withS_ren]
  ·simp [h10]
 rw [h2, ren_decT]
 simp only [List.length_map, Fn.mk.injEq, true_and, and_true]
 have hop : op = 10 ∨ op = 41 := by simp [isFn] at hf; omega
 rcases hop with rfl | rfl
 ·by_cases he : s = ⟨#[]⟩
  ·simp [he, rnS, isVn]
  ·simp [he, rnS]
 ·have hne := isName_ne (hs rfl)
  simp [hne, rnS, isVn]
theorem ren_stepN (at_ : Nat) (loop : Bool) (op : Int) (s : ByteArray) (n x : Int) (w : Wk) :
  stepN at_ loop op (rnS op s) n x (renW w) = ((stepN at_ loop op s n x w).1, (stepN at_ loop op s n x w).2.1, renW (stepN at_ loop op s n x w).2.2) := by
 have h50 := renW_fail w 50 x
 have h51 := renW_fail w 51 x
 by_cases h1 : op = 1
 ·have hr : rnS op s = rn s := by rw [h1]; rfl
  simp only [stepN, if_pos h1, renW_fs, hr, varNo_ren]
  by_cases hv : varNo w.fs at_ s < 0
  ·simp only [hv, if_true, h50]
  ·simp only [hv, if_false]
 by_cases h2 : op = 30 ∨ op = 35 ∨ op = 38
 ·have hr : rnS op s = rn s := by rw [rnS, if_pos]; rcases h2 with rfl | rfl | rfl <;> exact .inl rfl
  simp only [stepN, if_neg h1, if_pos h2, renW_fs, hr, varNo_ren]
 by_cases h3 : op = 11 ∨ op = 16 ∨ op = 15
 ·simp only [stepN, if_neg h1, if_neg h2, if_pos h3, renW_mark]; rfl
 by_cases h4 : op = 36
 ·simp only [stepN, if_neg h1, if_neg h2, if_neg h3, if_pos h4]
  by_cases hv : at_ = 0
  ·simp only [hv, if_true, h51]
  ·simp only [hv, if_false]
 by_cases h5 : op = 39 ∨ op = 40
 ·simp only [stepN, if_neg h1, if_neg h2, if_neg h3, if_neg h4, if_pos h5]
  cases loop
  ·simp only [Bool.false_eq_true, if_false, h51]
  ·simp only [if_true]
 simp only [stepN, if_neg h1, if_neg h2, if_neg h3, if_neg h4, if_neg h5]
 by_cases h6 : op = 34
 ·simp only [if_pos h6]
 ·simp only [if_neg h6]
mutual
theorem ren_wT (at_ : Nat) (loop : Bool) : ∀ (t : T) (w : Wk), t.wf → wT at_ loop (renT t) (renW w) = (renT (wT at_ loop t w).1, renW (wT at_ loop t w).2)
 | .mk op s n l x, w, h => by
  simp only [renT, wT]
  by_cases he : w.e ≠ 0
  ·rw [if_pos (show (renW w).e ≠ 0 from he), if_pos he]; rfl
  rw [if_neg (show ¬ (renW w).e ≠ 0 from he), if_neg he]
  by_cases hf : isFn op = true
  ·rw [if_pos hf, if_pos hf, ren_fn op s l hf h.2.2.1 (h.2.1 hf).1 (h.2.1 hf).2]
   have hlen : (renW w).fs.length = w.fs.length := by simp
   have hvl : (renF (fnOf' op s l at_ (renW w).mark)).vars.length = (fnOf' op s l at_ w.mark).vars.length := by simp [renF]
   by_cases hl : w.fs.length = 500 ∨ 200 < (fnOf' op s l at_ w.mark).vars.length
   ·rw [if_pos (show (renW w).fs.length = 500 ∨ 200 < (renF (fnOf' op s l at_ (renW w).mark)).vars.length by rw [hlen, hvl]; exact hl), if_pos hl]
    have h1 := renW_fail { w with mark := w.mark + 2 } 52 x
    rw [h1]; rfl
   ·rw [if_neg (show ¬ ((renW w).fs.length = 500 ∨ 200 < (renF (fnOf' op s l at_ (renW w).mark)).vars.length) by rw [hlen, hvl]; exact hl), if_neg hl]
    have h1 := ren_wP w.fs.length l { w with mark := w.mark + 2, fs := w.fs ++ [fnOf' op s l at_ w.mark] } h.2.2.2.2 (h.2.1 hf).2
    have h2 : ({ renW w with mark := (renW w).mark + 2, fs := (renW w).fs ++ [renF (fnOf' op s l at_ (renW w).mark)] } : Wk) = renW { w with mark := w.mark + 2, fs := w.fs ++ [fnOf' op s l at_ w.mark] } := by simp [renW]
    rw [hlen, h2, h1]
    rfl
  ·rw [if_neg hf, if_neg hf, ren_stepN at_ loop op s n x w]
   simp only [ren_wL _ _ l _ h.2.2.2.2, renT]
theorem ren_wL (at_ : Nat) (loop : Bool) : ∀ (l : List T) (w : Wk), T.wfL l → wL at_ loop (renL l) (renW w) = (renL (wL at_ loop l w).1, renW (wL at_ loop l w).2)
 | [], w, _ => rfl
 | t :: r, w, h => by simp only [renL, wL, ren_wT at_ loop t w h.1, ren_wL at_ loop r _ h.2]
theorem ren_wP (me : Nat) : ∀ (l : List T) (w : Wk), T.wfL l → (∀ u ∈ l.dropLast, u.op = 1) → wP me (renL l) (renW w) = (renL (wP me l w).1, renW (wP me l w).2)
 | [], w, _, _ => rfl
 | [t], w, h, _ => by simp only [renL, wP, ren_wT me false t w h.1]
 | t :: u :: r, w, h, hp => by
  have h2 := ren_wP me (u :: r) w h.2 (fun v hv => hp v (by simp [hv]))
  simp only [renL] at h2
  have h1 : t.op = 1 := hp t (by simp)
  obtain ⟨op, s, n, l, x⟩ := t
  simp only [T.op_mk] at h1
  subst h1
  have hr : rnS 1 s = rn s := rfl
  simp only [renL, wP, h2, renW_fs]
  simp [T.setN, renT, hr, varNo_ren]
end
theorem kw_last : ∀ w ∈ kwords, w.data.toList.getLast? ≠ some 95 := by decide +kernel
theorem isLD_95 : isLD 95 = true := by decide
theorem nmL_rn : ∀ l : List UInt8, nmL l = l.length → nmL (l ++ [95]) = l.length + 1
 | [], _ => by simp [nmL, isLD_95]
 | b :: r, h => by
  have hle := nmL_le r
  simp only [nmL, List.cons_append, List.length_cons] at h ⊢
  split at h
  ·rename_i hb; rw [if_pos hb, nmL_rn r (by omega)]
  ·omega
theorem isName_rn {s : ByteArray} (h : isName s = true) : isName (rn s) = true := by
 have hd : (rn s).data.toList = s.data.toList ++ [95] := by simp [rn]
 have hw : isWord (rn s) = false := by
  simp only [isWord, decide_eq_false_iff_not]
  intro hm
  have := kw_last _ hm
  rw [hd] at this
  simp at this
 unfold isName at h ⊢
 rw [hd]
 rcases hs : s.data.toList with _ | ⟨b, r⟩
 ·rw [hs] at h; simp at h
 ·rw [hs] at h
  simp only [Bool.and_eq_true, decide_eq_true_eq, Bool.not_eq_true', List.cons_append] at h ⊢
  refine ⟨⟨h.1.1, ?_⟩, hw⟩
  have := nmL_rn (b :: r) h.1.2
  simpa using this
theorem ren_okF {op : Int} {s : ByteArray} {len : Nat} (h : okF op s len = true) : okF op (rnS op s) len = true := by
 by_cases hv : isVn op = true
 ·have : rnS op s = rn s := by rw [rnS, if_pos (.inl hv)]
  rw [this]
  simp only [isVn, Bool.or_eq_true, decide_eq_true_eq] at hv
  rcases hv with (((rfl | rfl) | rfl) | rfl) | rfl <;> (simp [okF, formOf, forms, TX.ok] at h ⊢; exact ⟨isName_rn h.1, h.2⟩)
 ·by_cases h10 : op = 10 ∧ s ≠ ⟨#[]⟩
  ·have : rnS op s = rn s := by rw [rnS, if_pos (.inr h10)]
   rw [this]
   obtain ⟨rfl, hs⟩ := h10
   simp [okF, formOf, forms, TX.ok, hs] at h ⊢
   exact ⟨.inr (isName_rn h.1), h.2⟩
  ·rw [rnS, if_neg (by simp only [hv, h10, or_self, not_false_eq_true, Bool.false_eq_true])]
   exact h
theorem ren_fitL (f : T → Bool) (op : Int) (len : Nat) : ∀ i l, (∀ t ∈ l, f t = true → f (renT t) = true) → fitL f op len i l = true → fitL f op len i (renL l) = true
 | i, [], _, _ => rfl
 | i, t :: r, h, e => by
  simp only [fitL, renL, renT_op, Bool.and_eq_true] at e ⊢
  exact ⟨⟨e.1.1, h t (by simp) e.1.2⟩, ren_fitL f op len (i + 1) r (fun u hu => h u (by simp [hu])) e.2⟩
theorem ren_fit : ∀ (h : Nat) (t : T), fit h t = true → fit h (renT t) = true
 | 0, t, e => by simp [fit] at e
 | h + 1, .mk op s n l x, e => by
  have hl : (renL l).length = l.length := by simp [renL_eq]
  simp only [fit, renT, hl, Bool.and_eq_true] at e ⊢
  exact ⟨⟨ren_okF e.1.1, e.1.2⟩, ren_fitL _ _ _ _ l (fun t _ => ren_fit h t) e.2⟩
theorem ren_right {t : T} (h : right t = true) : right (renT t) = true := by
 simp only [right, rBlk, Bool.and_eq_true, renT_op] at h ⊢
 exact ⟨h.1, ren_fit _ _ h.2⟩
mutual
/-- An object's parts are pairs. -/
def obT : T → Prop
 | .mk op _ _ l _ => (op = 11 → ∀ u ∈ l, u.op = 12) ∧ obL l
def obL : List T → Prop
 | [] => True
 | t :: r => obT t ∧ obL r
end
theorem obL_of : ∀ {l : List T}, (∀ t ∈ l, obT t) → obL l
 | [], _ => trivial
 | a :: r, h => ⟨h a (by simp), obL_of fun t ht => h t (by simp [ht])⟩
theorem fit_ob : ∀ (h : Nat) (t : T), fit h t = true → obT t
 | 0, _, e => by simp [fit] at e
 | h + 1, .mk op s n l x, e => by
  simp only [fit, Bool.and_eq_true] at e
  obtain ⟨⟨e1, e2⟩, e3⟩ := e
  refine ⟨?_, obL_of fun t ht => fit_ob h t (fitL_mem _ _ _ _ _ e3 t ht)⟩
  rintro rfl u hu
  obtain ⟨j, hj⟩ := List.mem_iff_getElem?.1 hu
  have := (fitL_part _ _ _ _ _ e3 j u hj).1
  simpa [partOK] using this
mutual
theorem ob_bare : ∀ t : T, obT (bareT t) → obT t
 | .mk op s n l x, h => by
  simp only [bareT, obT] at h ⊢
  obtain ⟨h1, h2⟩ := h
  refine ⟨fun ho u hu => ?_, obL_bare l h2⟩
  rw [bareL_map] at h1
  have := h1 ho (bareT u) (List.mem_map.2 ⟨u, hu, rfl⟩)
  rwa [bare_op] at this
theorem obL_bare : ∀ l : List T, obL (bareL l) → obL l
 | [], _ => trivial
 | t :: r, h => ⟨ob_bare t h.1, obL_bare r h.2⟩
end
theorem resolve_ob (t : T) (h : (resolve t).2.2.2 = 0) : obT (resolve t).2.1 := by
 obtain ⟨hr, -⟩ := resolve_ok t h
 refine ob_bare _ ?_
 rw [(resolve_bare t h).1]
 simp only [right, rBlk, Bool.and_eq_true] at hr
 exact fit_ob _ _ hr.2
def NE (l : List ByteArray) : Prop := (⟨#[]⟩ : ByteArray) ∉ l
theorem NE.withS {l : List ByteArray} {s : ByteArray} (h : NE l) (hs : s ≠ ⟨#[]⟩) : NE (withS l s) := by
 unfold NE YP.withS at *
 split
 ·exact h
 ·simp only [List.mem_append, List.mem_singleton, not_or]
  exact ⟨h, fun e => hs e.symm⟩
mutual
theorem decT_ne : ∀ (t : T) (o : List ByteArray), t.wf → NE o → NE (decT t o)
 | .mk op s n l x, o, hw, ho => by
  simp only [decT]
  have h1 : NE (if isDec op = true then withS o s else o) := by
   split
   ·rename_i hd
    exact ho.withS (isName_ne (hw.2.2.1 (isDec_vn hd)))
   ·exact ho
  split
  ·exact h1
  ·exact decL_ne l _ hw.2.2.2.2 h1
theorem decL_ne : ∀ (l : List T) (o : List ByteArray), T.wfL l → NE o → NE (decL l o)
 | [], o, _, ho => ho
 | t :: r, o, hw, ho => decL_ne r _ hw.2 (decT_ne t o hw.1 ho)
end
theorem params_ne : ∀ (l : List T) (o : List ByteArray), (∀ u ∈ l, u.op = 1 ∧ u.wf) → NE o → NE (l.foldl (fun o x => withS o x.s) o)
 | [], o, _, ho => ho
 | t :: r, o, h, ho => by
  simp only [List.foldl_cons]
  refine params_ne r _ (fun u hu => h u (by simp [hu])) (ho.withS ?_)
  obtain ⟨h1, h2⟩ := h t (by simp)
  obtain ⟨op, s, n, l, x⟩ := t
  simp only [T.op_mk] at h1
  subst h1
  exact isName_ne (h2.2.2.1 rfl)
theorem fn_ne (op : Int) (s : ByteArray) (n : Int) (l : List T) (x at_ : Int) (mark : Nat) (hf : isFn op = true) (hw : (T.mk op s n l x).wf) : NE (fnOf' op s l at_ mark).vars := by
 obtain ⟨h1, h2, h3, ⟨h4, -⟩, h5⟩ := hw
 obtain ⟨hl, hp⟩ := h2 hf
 have hb : (l.getLast?.getD default).wf := by
  rw [List.getLast?_eq_some_getLast hl]
  exact T.wfL_mem h5 (List.getLast_mem hl)
 have hps : NE (paramsOf l) := params_ne l.dropLast [] (fun u hu => ⟨hp u hu, T.wfL_mem h5 (List.dropLast_subset l hu)⟩) (by simp [NE])
 unfold fnOf'
 refine decT_ne _ _ hb ?_
 split
 ·rename_i h10
  exact hps.withS h10.2
 ·exact hps
def NEs (fs : List Fn) : Prop := ∀ f ∈ fs, NE f.vars
theorem NEs.app {a : List Fn} {f : Fn} (h : NEs a) (hf : NE f.vars) : NEs (a ++ [f]) := fun g hg => by
 rcases List.mem_append.1 hg with hg | hg
 ·exact h g hg
 ·rw [List.mem_singleton] at hg; subst hg; exact hf
mutual
theorem wT_ne (at_ : Nat) (loop : Bool) : ∀ (t : T) (w : Wk), t.wf → NEs w.fs → NEs (wT at_ loop t w).2.fs
 | .mk op s n l x, w, hw, h => by
  by_cases hwe : w.e ≠ 0
  ·rw [wT_errL _ _ _ _ hwe]; exact h
  simp only [wT, if_neg hwe]
  split
  ·rename_i hf
   split
   ·rw [fail_fsL]; exact h
   ·exact wP_ne w.fs.length l { w with mark := w.mark + 2, fs := w.fs ++ [fnOf' op s l at_ w.mark] } hw.2.2.2.2 (h.app (fn_ne op s n l x at_ w.mark hf hw))
  ·have := wL_ne at_ ((stepN at_ loop op s n x w).2.1 || decide (op = 35)) l (stepN at_ loop op s n x w).2.2 hw.2.2.2.2 (by rw [stepN_fs]; exact h)
   exact this
theorem wL_ne (at_ : Nat) (loop : Bool) : ∀ (l : List T) (w : Wk), T.wfL l → NEs w.fs → NEs (wL at_ loop l w).2.fs
 | [], w, _, h => h
 | t :: r, w, hw, h => wL_ne at_ loop r _ hw.2 (wT_ne at_ loop t w hw.1 h)
theorem wP_ne (me : Nat) : ∀ (l : List T) (w : Wk), T.wfL l → NEs w.fs → NEs (wP me l w).2.fs
 | [], w, _, h => h
 | [t], w, hw, h => by simp only [wP]; exact wT_ne me false t w hw.1 h
 | t :: u :: r, w, hw, h => by simp only [wP]; exact wP_ne me (u :: r) w hw.2 h
end
theorem resolve_ne (t : T) (h : (resolve t).2.2.2 = 0) : NEs (resolve t).1 := by
 obtain ⟨hr, hl, w, hw, he, hres⟩ := resolve_ok t h
 rw [hres]
 refine wT_ne 0 false t w (right_wf hr) ?_
 rw [hw]
 intro f hf
 rw [List.mem_singleton] at hf
 subst hf
 exact decT_ne t [] (right_wf hr) (by simp [NE])
theorem ixS_none (s : ByteArray) (l : List ByteArray) (h : s ∉ l) : ixS s l = none := by
 have := ixS_mem s l
 simp only [h, decide_false] at this
 simpa using this
theorem rnS_self {op : Int} {s : ByteArray} (h : isVn op = false) (h10 : op ≠ 10) : rnS op s = s := by simp [rnS, h, h10]
theorem ren_count : ∀ t : T, (renT t).count = t.count := by
 have key : ∀ n, ∀ t : T, t.count ≤ n → (renT t).count = t.count := fun n => by
  induction n with
  | zero => intro t h; cases t; simp [T.count] at h
  | succ n ih =>
   intro t h
   obtain ⟨op, s, m, l, x⟩ := t
   simp only [T.count] at h
   have : ∀ l : List T, T.countL l ≤ n → T.countL (renL l) = T.countL l := fun l => by
    induction l with
    | nil => intro _; rfl
    | cons a r ihr =>
     intro h
     simp only [T.countL] at h
     simp only [renL, T.countL, ih a (by omega), ihr (by omega)]
   simp only [renT, T.count, this l (by omega)]
 exact fun t => key _ t (Nat.le_refl _)
theorem posF_ren : ∀ (l : List T) (a : Int), posF a (renL l) = posF a l
 | [], a => rfl
 | t :: r, a => by simp only [renL, posF, ren_count t, posF_ren r]
theorem zip_ren (k0 : Int) : ∀ (l : List T) (ps : List Int), (∀ u ∈ l, u.op = 12) → ((renL l).zip ps).map (fun x => ({ kind := 6, x := k0, y := x.2 + 1, s := x.1.s } : Rule)) = (l.zip ps).map fun x => { kind := 6, x := k0, y := x.2 + 1, s := x.1.s }
 | [], ps, _ => by simp [renL]
 | t :: r, [], _ => by simp [renL]
 | t :: r, p :: ps, h => by
  have h1 := h t (by simp)
  have hs : (renT t).s = t.s := by rw [renT_s, h1]; exact rnS_self rfl (by decide)
  simp only [renL, List.zip_cons_cons, List.map_cons, hs, zip_ren k0 r ps (fun u hu => h u (by simp [hu]))]
theorem behV_ren (fs : List Fn) (bs : List Int) (f : Nat) : behV (fs.map renF) bs f = behV fs bs f := by
 simp only [behV, List.getElem?_map, Option.map_map]
 congr 2
 cases fs[f]? with
 | none => rfl
 | some g => simp [renF]
theorem own_ren (fs : List Fn) (bs : List Int) (op : Int) (s : ByteArray) (n : Int) (l : List T) (x : Int) (k0 : Int) (f : Nat) (to : Int) (ho : op = 11 → ∀ u ∈ l, u.op = 12) :
  ownR (fs.map renF) bs (.mk op (rnS op s) n (renL l) x) k0 f to = ownR fs bs (.mk op s n l x) k0 f to := by
 have hl0 : (renL l)[0]? = (l[0]?).map renT := by rw [renL_eq, List.getElem?_map]
 unfold ownR ownS
 simp only [T.op_mk, T.n_mk, T.s_mk, T.l_mk, posF_ren, behV_ren, hl0]
 by_cases o11 : op = 11
 ·subst o11
  simp only [show ¬ (11 : Int) = 1 by decide, show ¬ (11 : Int) = 8 by decide, if_false, if_true]
  rw [zip_ren k0 l _ (ho rfl)]
 by_cases o13 : op = 13
 ·subst o13; rfl
 by_cases o17 : op = 17
 ·subst o17
  rcases l with _ | ⟨t0, r⟩
  ·rfl
  ·by_cases u2 : t0.op = 13
   ·have hs : (renT t0).s = t0.s := by rw [renT_s, u2]; exact rnS_self rfl (by decide)
    have hn : (renT t0).n = t0.n := by cases t0; rfl
    simp [renT_op, hs, hn]
   ·have hn : (renT t0).n = t0.n := by cases t0; rfl
    simp [renT_op, hn, u2]
 by_cases o15 : op = 15
 ·subst o15
  rcases l with _ | ⟨t0, r⟩
  ·rfl
  ·simp [renT_op]
 simp only [o11, o13, o17, o15, if_false]
 rfl
theorem hd_ren (fs : List Fn) (bs : List Int) (op : Int) (s : ByteArray) (n k0 : Int) (f : Nat) (hf : isFn op = true) (hne : NEs fs) : hdR (fs.map renF) bs op (rnS op s) n k0 f = hdR fs bs op s n k0 f := by
 have hop : op = 10 ∨ op = 41 := by simp [isFn] at hf; omega
 have hv : ∀ i : Nat, (((fs.map renF)[i]?.map (·.vars)).getD [] : List ByteArray) = (((fs[i]?.map (·.vars)).getD [])).map rn := fun i => by
  rw [List.getElem?_map]
  cases fs[i]? with
  | none => rfl
  | some g => simp [renF]
 have hp : ∀ i : Nat, ((((fs.map renF)[i]?.map (·.params)).getD 0 : Nat)) = ((fs[i]?.map (·.params)).getD 0) := fun i => by
  rw [List.getElem?_map]
  cases fs[i]? with
  | none => rfl
  | some g => rfl
 have hix : ∀ i : Nat, ixS (rnS op s) ((((fs.map renF)[i]?.map (·.vars)).getD [])) = ixS s ((fs[i]?.map (·.vars)).getD []) := fun i => by
  rw [hv]
  rcases hop with rfl | rfl
  ·by_cases hs : s = ⟨#[]⟩
   ·subst hs
    have h1 : rnS 10 (⟨#[]⟩ : ByteArray) = ⟨#[]⟩ := by simp [rnS, isVn]
    rw [h1, ixS_none, ixS_none]
    ·cases hg : fs[i]? with
     | none => simp
     | some g => exact hne g (List.mem_of_getElem? hg)
    ·intro hm
     obtain ⟨y, -, hy⟩ := List.mem_map.1 hm
     exact rn_ne y hy
   ·have h1 : rnS 10 s = rn s := by simp [rnS, hs]
    rw [h1, ixS_ren]
  ·have h1 : rnS 41 s = rn s := by simp [rnS, isVn]
   rw [h1, ixS_ren]
 unfold hdR
 simp only [hix, hp]
mutual
theorem rT_ren (fs : List Fn) (bs : List Int) (hne : NEs fs) : ∀ (t : T) (k0 : Int) (f : Nat) (to : Int) (rd : Bool), obT t → rT (fs.map renF) bs (renT t) k0 f to rd = rT fs bs t k0 f to rd
 | .mk op s n l x, k0, f, to, rd, ho => by
  simp only [renT, rT]
  split
  ·rename_i hf
   rw [hd_ren fs bs op s n k0 f hf hne, rB_ren fs bs hne n.toNat (k0 + 1) l ho.2]
  ·rw [rL_ren fs bs hne op n f to 0 (k0 + 1) l ho.2]
   congr 1
   have hvs : ∀ r : Bool, (if r = true then ownR (fs.map renF) bs (.mk op (rnS op s) n (renL l) x) k0 f to else []) = if r = true then ownR fs bs (.mk op s n l x) k0 f to else [] := fun r => by rw [own_ren fs bs op s n l x k0 f to ho.1]
   exact hvs rd
theorem rL_ren (fs : List Fn) (bs : List Int) (hne : NEs fs) (op n : Int) (f : Nat) (to : Int) : ∀ (i : Nat) (a : Int) (l : List T), obL l → rL (fs.map renF) bs op n f to i a (renL l) = rL fs bs op n f to i a l
 | _, _, [], _ => rfl
 | i, a, t :: r, ho => by
  simp only [renL, rL, ren_count]
  rw [rT_ren fs bs hne t a f _ _ ho.1, rL_ren fs bs hne op n f to (i + 1) (a + t.count) r ho.2]
theorem rB_ren (fs : List Fn) (bs : List Int) (hne : NEs fs) (g : Nat) : ∀ (a : Int) (l : List T), obL l → rB (fs.map renF) bs g a (renL l) = rB fs bs g a l
 | _, [], _ => rfl
 | a, t :: r, ho => by
  simp only [renL, rB, ren_count, renT_op, behV_ren]
  rw [rT_ren fs bs hne t a g _ true ho.1, rB_ren fs bs hne g (a + t.count) r ho.2]
end
theorem baseL_ren : ∀ (fs : List Fn) (a : Int), baseL a (fs.map renF) = baseL a fs
 | [], a => rfl
 | g :: r, a => by
  have : (renF g).vars.length = g.vars.length := by simp [renF]
  simp only [List.map_cons, baseL, this, baseL_ren r]
theorem baseE_ren : ∀ (fs : List Fn) (a : Int), baseE a (fs.map renF) = baseE a fs
 | [], a => rfl
 | g :: r, a => by
  have : (renF g).vars.length = g.vars.length := by simp [renF]
  simp only [List.map_cons, baseE, this, baseE_ren r]
theorem fsL_ren : ∀ (fs : List Fn) (a : Int), fsL a (fs.map renF) = fsL a fs
 | [], a => rfl
 | g :: r, a => by
  have : (renF g).vars.length = g.vars.length := by simp [renF]
  have h2 : fsF a (renF g) = fsF a g := by simp [fsF, renF]
  simp only [List.map_cons, fsL, this, h2, fsL_ren r]
mutual
theorem lin_count (L : Int) : ∀ t : T, (linT L t).count = t.count
 | .mk op s n l x => by simp only [linT, T.count, lin_countL L l]
theorem lin_countL (L : Int) : ∀ l : List T, T.countL (linL L l) = T.countL l
 | [] => rfl
 | t :: r => by simp only [linL, T.countL, lin_count L t, lin_countL L r]
end
theorem posF_lin (L : Int) : ∀ (l : List T) (a : Int), posF a (linL L l) = posF a l
 | [], a => rfl
 | t :: r, a => by simp only [linL, posF, lin_count L t, posF_lin L r]
theorem zip_lin (L k0 : Int) : ∀ (l : List T) (ps : List Int), ((linL L l).zip ps).map (fun x => ({ kind := 6, x := k0, y := x.2 + 1, s := x.1.s } : Rule)) = (l.zip ps).map fun x => { kind := 6, x := k0, y := x.2 + 1, s := x.1.s }
 | [], ps => by simp [linL]
 | t :: r, [] => by simp [linL]
 | t :: r, p :: ps => by
  have hs : (linT L t).s = t.s := by cases t; rfl
  simp only [linL, List.zip_cons_cons, List.map_cons, hs, zip_lin L k0 r ps]
theorem own_lin (L : Int) (fs : List Fn) (bs : List Int) (op : Int) (s : ByteArray) (n : Int) (l : List T) (x : Int) (k0 : Int) (f : Nat) (to : Int) : ownR fs bs (.mk op s n (linL L l) L) k0 f to = ownR fs bs (.mk op s n l x) k0 f to := by
 have hl0 : (linL L l)[0]? = (l[0]?).map (linT L) := by rw [linL_eq, List.getElem?_map]
 have ho : ∀ t, (linT L t).op = t.op := fun t => by cases t; rfl
 have hs : ∀ t, (linT L t).s = t.s := fun t => by cases t; rfl
 have hn : ∀ t, (linT L t).n = t.n := fun t => by cases t; rfl
 unfold ownR ownS
 simp only [T.op_mk, T.n_mk, T.s_mk, T.l_mk, posF_lin, hl0, zip_lin]
 rcases l with _ | ⟨t0, r⟩
 ·rfl
 ·simp only [List.getElem?_cons_zero, Option.map_some, ho, hs, hn]
  rfl
mutual
theorem rT_lin (L : Int) (fs : List Fn) (bs : List Int) : ∀ (t : T) (k0 : Int) (f : Nat) (to : Int) (rd : Bool), rT fs bs (linT L t) k0 f to rd = rT fs bs t k0 f to rd
 | .mk op s n l x, k0, f, to, rd => by
  simp only [linT, rT]
  split
  ·rw [rB_lin L fs bs n.toNat (k0 + 1) l]
  ·rw [rL_lin L fs bs op n f to 0 (k0 + 1) l]
   congr 1
   split
   ·exact own_lin L fs bs op s n l x k0 f to
   ·rfl
theorem rL_lin (L : Int) (fs : List Fn) (bs : List Int) (op n : Int) (f : Nat) (to : Int) : ∀ (i : Nat) (a : Int) (l : List T), rL fs bs op n f to i a (linL L l) = rL fs bs op n f to i a l
 | _, _, [] => rfl
 | i, a, t :: r => by
  simp only [linL, rL, lin_count]
  rw [rT_lin L fs bs t a f, rL_lin L fs bs op n f to (i + 1) (a + t.count) r]
theorem rB_lin (L : Int) (fs : List Fn) (bs : List Int) (g : Nat) : ∀ (a : Int) (l : List T), rB fs bs g a (linL L l) = rB fs bs g a l
 | _, [] => rfl
 | a, t :: r => by
  have ho : (linT L t).op = t.op := by cases t; rfl
  simp only [linL, rB, lin_count, ho]
  rw [rT_lin L fs bs t a g, rB_lin L fs bs g (a + t.count) r]
end
theorem resolve_ren2 (t : T) (h : right t = true) : (resolve (renT t)).1 = (resolve t).1.map renF ∧ (resolve (renT t)).2.1 = renT (resolve t).2.1 ∧ (resolve (renT t)).2.2 = (resolve t).2.2 := by
 have hz : (T.mk 0 ⟨#[]⟩ 0 [] 0) = renT (T.mk 0 ⟨#[]⟩ 0 [] 0) := by simp [renT, rnS, isVn, renL]
 unfold resolve
 have hd : decT (renT t) [] = (decT t []).map rn := ren_decT t []
 have h0 : ∀ v : List ByteArray, ({ fs := [{ around := -1, name := ⟨#[]⟩, params := 0, vars := v.map rn, mark := 0 }], mark := 4, e := 0, line := 0 } : Wk) = renW { fs := [{ around := -1, name := ⟨#[]⟩, params := 0, vars := v, mark := 0 }], mark := 4, e := 0, line := 0 } := fun v => by simp [renW, renF]
 have hli : (renT t).line = t.line := by cases t; rfl
 have hw := fun w => ren_wT 0 false t w (right_wf h)
 simp only [h, ren_right h, Bool.not_true, Bool.false_eq_true, if_false, hd, List.length_map, h0, hw, renW_e, hli]
 split
 ·exact ⟨rfl, hz, rfl⟩
 ·split
  ·exact ⟨rfl, hz, rfl⟩
  ·exact ⟨rfl, rfl, rfl⟩
theorem rules_names (t : T) (L : Int) (h : right t = true) : (rulesM (linT L (renT t))).2.2.2 = (rulesM t).2.2.2 ∧ (rulesM (linT L (renT t))).2.1 = (rulesM t).2.1 := by
 obtain ⟨a1, a2, a3⟩ := resolve_ren2 t h
 obtain ⟨b1, b2, b3, -⟩ := resolve_lin L (renT t)
 have e : (resolve (linT L (renT t))).2.2.2 = (resolve t).2.2.2 := by rw [b3, a3]
 have hf : (resolve (linT L (renT t))).1 = (resolve t).1.map renF := by rw [b1, a1]
 have hc : (resolve (linT L (renT t))).2.1.count = (resolve t).2.1.count := by
  have h1 := lin_count L (resolve (linT L (renT t))).2.1
  have h2 := lin_count L (resolve (renT t)).2.1
  rw [b2] at h1
  rw [← h1, h2, a2, ren_count]
 by_cases h0 : (resolve t).2.2.2 = 0
 ·have hne := resolve_ne t h0
  have hob := resolve_ob t h0
  have hr : ∀ k0 f to rd bs, rT ((resolve t).1.map renF) bs (resolve (linT L (renT t))).2.1 k0 f to rd = rT (resolve t).1 bs (resolve t).2.1 k0 f to rd := fun k0 f to rd bs => by
   rw [← rT_lin L, b2, rT_lin, a2, rT_ren _ _ hne _ _ _ _ _ hob]
  unfold rulesM
  simp only [e, h0, hf, hc, baseE_ren, baseL_ren, fsL_ren, behV_ren, hr, ne_eq, not_true, if_false]
  split <;> exact ⟨rfl, rfl⟩
 ·unfold rulesM
  simp only [e]
  rw [if_pos h0, if_pos h0]
  exact ⟨rfl, rfl⟩
mutual
theorem lin_wt (L : Int) : ∀ t : T, (linT L t).wt = t.wt
 | .mk op s n l x => by simp only [linT, T.wt, lin_wtL L l]
theorem lin_wtL (L : Int) : ∀ l : List T, T.wtL (linL L l) = T.wtL l
 | [] => rfl
 | t :: r => by simp only [linL, T.wtL, lin_wt L t, lin_wtL L r]
end
mutual
theorem lin_ok {L : Int} (hL : ok64 L) : ∀ t : T, t.ok → (linT L t).ok
 | .mk op s n l x, h => ⟨h.1, by have := h.2.1; simp only [linL_eq, List.length_map]; exact this, h.2.2.1, h.2.2.2.1, hL, lin_okL hL l h.2.2.2.2.2⟩
theorem lin_okL {L : Int} (hL : ok64 L) : ∀ l : List T, T.okL l → T.okL (linL L l)
 | [], _ => trivial
 | t :: r, h => ⟨lin_ok hL t h.1, lin_okL hL r h.2⟩
end
mutual
theorem ren_wt : ∀ t : T, (renT t).wt ≤ 2 * t.wt
 | .mk op s n l x => by
  have h1 := ren_wtL l
  have h2 : (rnS op s).size ≤ s.size + 1 := by
   unfold rnS; split
   ·simp [rn, ByteArray.size_append]; exact Nat.le_refl _
   ·omega
  simp only [renT, T.wt]; omega
theorem ren_wtL : ∀ l : List T, T.wtL (renL l) ≤ 2 * T.wtL l
 | [] => by simp [renL, T.wtL]
 | t :: r => by
  have h1 := ren_wt t
  have h2 := ren_wtL r
  simp only [renL, T.wtL]; omega
end
mutual
theorem ren_ok : ∀ t : T, t.wt ≤ 1000000000000 → t.ok → (renT t).ok
 | .mk op s n l x, hw, h => by
  simp only [T.wt] at hw
  have h2 : (rnS op s).size ≤ s.size + 1 := by
   unfold rnS; split
   ·simp [rn, ByteArray.size_append]; exact Nat.le_refl _
   ·omega
  exact ⟨by omega, by have := h.2.1; simp only [renL_eq, List.length_map]; exact this, h.2.2.1, h.2.2.2.1, h.2.2.2.2.1, ren_okL l (by omega) h.2.2.2.2.2⟩
theorem ren_okL : ∀ l : List T, T.wtL l ≤ 1000000000000 → T.okL l → T.okL (renL l)
 | [], _, _ => trivial
 | t :: r, hw, h => by
  simp only [T.wtL] at hw
  exact ⟨ren_ok t (by omega) h.1, ren_okL r (by omega) h.2⟩
end
theorem f36 (L : Int) (n : Nat) : ∀ t : T, t.wt ≤ n → t.wt ≤ 100000000000 → ∀ k, n + 2 ≤ k → PureC k 36 [.agg t.enc, .int .i64 L] (.agg (linT L (renT t)).enc) := by
 induction n with
 | zero => intro t h; cases t; simp [T.wt] at h
 | succ n ih =>
  intro t ht htm k hk E st hE
  obtain ⟨k, rfl⟩ : ∃ k', k = k' + 1 := ⟨k - 1, by omega⟩
  obtain ⟨op, s0, nn, l, line⟩ := t
  simp only [T.wt] at ht htm
  have hlw := T.len_wtL l
  have hmw := mayWrite_new hE
  have hmw0 : ∀ j x y, mayWrite E (st.H.length + j) x y = true := fun j x y => hmw _ _ _ (by omega)
  have hrom := hE.rom
  generalize hs1 : rnS op s0 = s1
  have hgoal : linT L (renT (.mk op s0 nn l line)) = .mk op s1 nn (l.map fun t => linT L (renT t)) L := by simp only [renT, linT, linL_eq, renL_eq, hs1, List.map_map, Function.comp_def]
  rw [hgoal]
  have hsz : s0.size + (⟨#[95]⟩ : ByteArray).size ≤ 9223372036854775807 := by
   have : (⟨#[95]⟩ : ByteArray).size = 1 := rfl
   omega
  have hadd : s0 ++ (⟨#[95]⟩ : ByteArray) = rn s0 := rfl
  refine call_in2 rfl rfl (by decide) fun s hs e0 e1 => ?_
  rw [WP_assoc]
  refine WP_seqM (fun s' m' st' => m' = [] ∧ s'.length = 50 ∧ lk s' 1 = .int .i64 L ∧ lk s' 2 = .ptr st.H.length 0 ∧ lk s' 4 = .ptr (st.H.length + 1) 0 ∧ st' = ⟨st.H ++ [.cells 24 [.int .i64 op, .str s1, .int .i64 nn, .sl none l.length (T.encL l), .int .i64 line], .cells 24 [.int .i64 0, .str ⟨#[]⟩, .int .i64 0, .nils, .int .i64 0]], st.I⟩) ?_ ?_
  ·by_cases o1 : op = 1
   ·subst o1
    have : s1 = rn s0 := by rw [← hs1]; rfl
    subst this
    simp [hs, e0, storeA, hmw, hmw0, wrC, hsz, hadd]
    exact ⟨rfl, rfl, by simp [hs], by simp [hs, e1], by simp [hs], by simp [hs], rfl⟩
   by_cases o30 : op = 30
   ·subst o30
    have : s1 = rn s0 := by rw [← hs1]; rfl
    subst this
    simp [hs, e0, storeA, hmw, hmw0, wrC, hsz, hadd]
    exact ⟨rfl, rfl, by simp [hs], by simp [hs, e1], by simp [hs], by simp [hs], rfl⟩
   by_cases o35 : op = 35
   ·subst o35
    have : s1 = rn s0 := by rw [← hs1]; rfl
    subst this
    simp [hs, e0, storeA, hmw, hmw0, wrC, hsz, hadd]
    exact ⟨rfl, rfl, by simp [hs], by simp [hs, e1], by simp [hs], by simp [hs], rfl⟩
   by_cases o38 : op = 38
   ·subst o38
    have : s1 = rn s0 := by rw [← hs1]; rfl
    subst this
    simp [hs, e0, storeA, hmw, hmw0, wrC, hsz, hadd]
    exact ⟨rfl, rfl, by simp [hs], by simp [hs, e1], by simp [hs], by simp [hs], rfl⟩
   by_cases o41 : op = 41
   ·subst o41
    have : s1 = rn s0 := by rw [← hs1]; rfl
    subst this
    simp [hs, e0, storeA, hmw, hmw0, wrC, hsz, hadd]
    exact ⟨rfl, rfl, by simp [hs], by simp [hs, e1], by simp [hs], by simp [hs], rfl⟩
   have hvn : isVn op = false := by simp [isVn, o1, o30, o35, o38, o41]
   by_cases o10 : op = 10
   ·subst o10
    by_cases hse : s0 = ⟨#[]⟩
    ·have : s1 = s0 := by rw [← hs1]; simp [rnS, hvn, hse]
     subst this
     simp [hs, e0, hse]
     exact ⟨rfl, rfl, by simp [hs], by simp [hs, e1], by simp [hs], by simp [hs], by rw [hse]⟩
    ·have : s1 = rn s0 := by rw [← hs1]; simp [rnS, hse]
     subst this
     simp [hs, e0, storeA, hmw, hmw0, wrC, hsz, hadd, hse]
     exact ⟨rfl, rfl, by simp [hs], by simp [hs, e1], by simp [hs], by simp [hs], rfl⟩
   ·have : s1 = s0 := by rw [← hs1]; simp [rnS, hvn, o10]
    subst this
    simp [hs, e0, o1, o30, o35, o38, o41, o10]
    exact ⟨rfl, rfl, by simp [hs], by simp [hs, e1], by simp [hs], by simp [hs], rfl⟩
  clear hs e0 e1 s
  rintro s _ _ ⟨rfl, hs, e1, e2, e4, rfl⟩
  simp [hs, e1, e2, e4, storeA, hmw, hmw0, wrC]
  refine WP_loop (fun n s m st' => ∃ (j : Nat) (v : AV) (I' : List (Nat × Nat)), j ≤ l.length ∧ n = l.length - j ∧ s.length = 50 ∧ m = [] ∧ lk s 1 = .int .i64 L ∧ lk s 2 = .ptr st.H.length 0 ∧ lk s 4 = .ptr (st.H.length + 1) 0 ∧ lk s 5 = v ∧ lk s 6 = .int .i64 j ∧
   st' = ⟨st.H ++ [.cells 24 [.int .i64 op, .str s1, .int .i64 nn, .sl none l.length (T.encL l), .int .i64 L], .cells 24 [.int .i64 0, .str ⟨#[]⟩, .int .i64 0, .nils, .int .i64 0]], I'⟩ ∧ AccT st.I.length I' ((l.take j).map fun t => linT L (renT t)) v ∧ IOld st.I.length st.I I') l.length (by omega)
   ⟨0, .nils, st.I, by omega, by omega, by simp [hs], rfl, by simp [hs, e1], by simp [hs, e2], by simp [hs, e4], by simp [hs], by simp [hs], rfl, .inl ⟨rfl, rfl⟩, .refl _ _⟩ ?_
  clear hs e1 e2 e4 s
  rintro _ s m _ ⟨j, v, I', hj, rfl, hs, rfl, e1, e2, e4, e5, e6, rfl, hac, hio⟩
  have hil := hio.len
  by_cases hc : j < l.length
  ·obtain ⟨t, hg⟩ : ∃ t, l[j]? = some t := ⟨_, List.getElem?_eq_getElem hc⟩
   have hrd := T.rd hg
   have hwj := wrap64 (n := (j : Int) + 1) (by omega)
   have hwt := T.wtL_get hg
   have c36 := (ih t (by omega) (by omega) k (by omega)).full (E := E) (st := ⟨st.H ++ [.cells 24 [.int .i64 op, .str s1, .int .i64 nn, .sl none l.length (T.encL l), .int .i64 L], .cells 24 [.int .i64 0, .str ⟨#[]⟩, .int .i64 0, .nils, .int .i64 0]], I'⟩) (by simp) (hE.of (by simp) hil)
   obtain ⟨v', I2, happ, hac2, hio2⟩ := (hac.push (1, 5)).app (E := E) (H := st.H ++ [.cells 24 [.int .i64 op, .str s1, .int .i64 nn, .sl none l.length (T.encL l), .int .i64 L], .cells 24 [.int .i64 0, .str ⟨#[]⟩, .int .i64 0, .nils, .int .i64 0]]) (by simp; omega) hrom (by simp; omega) (linT L (renT t)) I'.length
   have hnew : ((l.take j).map fun t => linT L (renT t)) ++ [linT L (renT t)] = (l.take (j + 1)).map fun t => linT L (renT t) := by rw [List.take_add_one, hg]; simp
   rw [hnew] at hac2
   rw [T.enc_eq] at hrd
   rw [T.enc_eq t, T.enc_eq (linT L (renT t))] at c36
   rw [T.enc_eq] at happ
   simp only [linT_op, linT_s, renT_op] at happ c36
   simp [hs, e1, e2, e4, e5, e6, hc, hrd, c36, fillA, wrC]
   simp [hs, e5, e6, happ, hwj]
   exact ⟨_, by omega, j + 1, v', I2, by omega, rfl, by simp [hs], rfl, by simp [hs, e1], by simp [hs, e2], by simp [hs, e4], by simp [hs], by simp [hs], rfl, hac2, hio.trans ((IOld.push _ _ _).trans hio2)⟩
  ·have hjl : l.take j = l := List.take_of_length_le (by omega)
   rw [hjl] at hac
   have hvc := hac.cells
   have hvo := hac.one
   have hvf := hac.fin st.I.length (Nat.le_refl _)
   simp [hs, e1, e2, e4, e5, e6, hc, storeA, hmw, hmw0, wrC, hvc, hvo]
   simp [hs, e4, hvf]
   exact ⟨List.prefix_append _ _, hio.pfx⟩
theorem own_ll (fs : List Fn) (bs : List Int) (op : Int) (s : ByteArray) (n : Int) (l : List T) (x : Int) (k0 : Int) (f : Nat) (to : Int) : ∀ r ∈ ownR fs bs (.mk op s n l x) k0 f to, r.l.length ≤ l.length := by
 intro r hr
 have hpl := posF_len (k0 + 1) l
 unfold ownR ownS at hr
 simp only [T.op_mk, T.n_mk, T.s_mk, T.l_mk] at hr
 generalize posF (k0 + 1) l = ps at hpl hr
 obtain ⟨r0, h0, rfl⟩ := List.mem_map.1 hr
 have hz : r0.l = [] ∨ r0.l = ps.tail := by
  by_cases o1 : op = 1
  ·subst o1; simp at h0; subst h0; exact .inl rfl
  by_cases o8 : op = 8
  ·subst o8; simp at h0; subst h0; exact .inl rfl
  by_cases o13 : op = 13
  ·subst o13; simp at h0; subst h0; exact .inl rfl
  by_cases o14 : op = 14
  ·subst o14; simp at h0; subst h0; exact .inl rfl
  by_cases o21 : op = 21
  ·subst o21; simp at h0; subst h0; exact .inl rfl
  by_cases o22 : op = 22
  ·subst o22; simp at h0; rcases h0 with rfl | rfl <;> exact .inl rfl
  by_cases o23 : op = 23
  ·subst o23; simp at h0; rcases h0 with rfl | rfl <;> exact .inl rfl
  by_cases o16 : op = 16
  ·subst o16; simp at h0; subst h0; exact .inr rfl
  by_cases o11 : op = 11
  ·subst o11
   simp at h0
   rcases h0 with rfl | ⟨a, b, -, rfl⟩ <;> exact .inl rfl
  by_cases o17 : op = 17
  ·subst o17
   rcases l with _ | ⟨t0, q⟩
   ·simp at h0
   ·simp at h0
    rcases h0 with rfl | rfl
    ·split
     ·exact .inl rfl
     ·split <;> exact .inl rfl
    ·exact .inl rfl
  by_cases o15 : op = 15
  ·subst o15
   rcases l with _ | ⟨t0, q⟩
   ·simp at h0
   ·simp at h0; subst h0; exact .inr rfl
  by_cases o30 : op = 30
  ·subst o30
   rcases ps with _ | ⟨p, q⟩
   ·simp at h0
   ·simp at h0; subst h0; exact .inl rfl
  by_cases o36 : op = 36
  ·subst o36
   rcases ps with _ | ⟨p, q⟩
   ·simp at h0
   ·simp at h0; subst h0; exact .inl rfl
  by_cases o37 : op = 37
  ·subst o37
   rcases ps with _ | ⟨p, q⟩
   ·simp at h0
   ·simp at h0; subst h0; exact .inl rfl
  simp [o1, o8, o11, o13, o14, o17, o21, o22, o23, o15, o16, o30, o36, o37] at h0
 show r0.l.length ≤ _
 rcases hz with h | h <;> rw [h]
 ·exact Nat.zero_le _
 ·rw [List.length_tail]; omega
mutual
theorem rT_ll (fs : List Fn) (bs : List Int) : ∀ (t : T) (k0 : Int) (f : Nat) (to : Int) (rd : Bool), ∀ r ∈ rT fs bs t k0 f to rd, r.l.length ≤ t.count
 | .mk op s n l x, k0, f, to, rd, r, hr => by
  have hl := T.len_le l
  simp only [T.count]
  simp only [rT] at hr
  split at hr
  ·rcases List.mem_append.1 hr with hr | hr
   ·unfold hdR at hr
    simp only [List.mem_cons] at hr
    rcases hr with rfl | hr
    ·exact Nat.zero_le _
    ·split at hr
     ·simp only [List.mem_cons, List.not_mem_nil, or_false] at hr; subst hr; exact Nat.zero_le _
     ·simp at hr
   ·have := rB_ll fs bs n.toNat (k0 + 1) l r hr; omega
  ·rcases List.mem_append.1 hr with hr | hr
   ·split at hr
    ·have := own_ll fs bs op s n l x k0 f to r hr; omega
    ·simp at hr
   ·have := rL_ll fs bs op n f to 0 (k0 + 1) l r hr; omega
theorem rL_ll (fs : List Fn) (bs : List Int) (op n : Int) (f : Nat) (to : Int) : ∀ (i : Nat) (a : Int) (l : List T), ∀ r ∈ rL fs bs op n f to i a l, r.l.length ≤ T.countL l
 | _, _, [], r, hr => by simp [rL] at hr
 | i, a, t :: q, r, hr => by
  simp only [T.countL]
  simp only [rL] at hr
  rcases List.mem_append.1 hr with hr | hr
  ·have := rT_ll fs bs t _ _ _ _ r hr; omega
  ·have := rL_ll fs bs op n f to (i + 1) _ q r hr; omega
theorem rB_ll (fs : List Fn) (bs : List Int) (g : Nat) : ∀ (a : Int) (l : List T), ∀ r ∈ rB fs bs g a l, r.l.length ≤ T.countL l
 | _, [], r, hr => by simp [rB] at hr
 | a, t :: q, r, hr => by
  simp only [T.countL]
  simp only [rB] at hr
  rcases List.mem_append.1 hr with hr | hr
  ·split at hr
   ·have := rT_ll fs bs t _ _ _ _ r hr; omega
   ·simp at hr
  ·have := rB_ll fs bs g _ q r hr; omega
end
theorem fsL_par : ∀ (l : List Fn) (a : Int), (∀ G ∈ l, G.params ≤ 200) → ∀ x ∈ fsL a l, x.params.length ≤ 200
 | [], a, _, x, h => by simp [fsL] at h
 | g :: r, a, hp, x, h => by
  simp only [fsL, List.mem_cons] at h
  rcases h with rfl | h
  ·simp only [fsF, parL_len]; exact hp g (by simp)
  ·exact fsL_par r _ (fun G hG => hp G (by simp [hG])) x h
theorem rulesM_big (t : T) (hw : t.wt ≤ 100000000) : (∀ x ∈ (rulesM t).2.1.2.1, x.params.length ≤ 1000000000) ∧ ∀ x ∈ (rulesM t).2.1.2.2, x.l.length ≤ 1000000000 := by
 have h1 := resolve_lims t
 have h3 := count_wt (resolve t).2.1
 have h4 := resolve_wt t
 unfold rulesM
 simp only
 split
 ·simp
 ·split
  ·simp
  ·refine ⟨fun x hx => ?_, fun x hx => ?_⟩
   ·have := fsL_par _ _ (fun G hG => (h1.2 G hG).2) x hx; omega
   ·have := rT_ll _ _ _ _ _ _ _ x hx; omega
theorem f13 (L : Int) (hL : ok64 L) (t : T) (ht : t.ok) (hw : t.wt ≤ 100000000) (k : Nat) (hk : 80 * t.wt + 2000000000 ≤ k) (E : Env) (st : St) (hE : E.Wf st)
  (h32 : ∀ y, doCall (aCall prog k) E .full (.fn 32) [] ⟨st.H ++ [y], st.I⟩ = some (.ok (.bool true), ⟨st.H ++ [y], st.I⟩)) : CallQ (k + 1) E 13 [.agg t.enc, .int .i64 L] st (Tru st) := by
 have hmw := mayWrite_new hE
 have hmw1 : ∀ j x y, mayWrite E (st.H.length + j) x y = true := fun j x y => hmw _ _ _ (by omega)
 have hcw0 := count_wt t
 have hrw := ren_wt t
 have hlw := lin_wt L (renT t)
 have c19 := fun st3 (h : E.Wf st3) => (f19 t k (by omega)).full (E := E) (st := st3) rfl h
 have c27 := fun st3 (h : E.Wf st3) => (f27 t ht k (by omega)).full (E := E) (st := st3) rfl h
 have c33 := fun st3 (h : E.Wf st3) => (rules33 t ht (by omega) k (by omega)).full (E := E) (st := st3) (rulV_refs _) h
 have c33b := fun st3 (h : E.Wf st3) => (rules33 (linT L (renT t)) (lin_ok hL _ (ren_ok t (by omega) ht)) (by omega) k (by omega)).full (E := E) (st := st3) (rulV_refs _) h
 have c36 := fun st3 (h : E.Wf st3) => (f36 L _ t (Nat.le_refl _) (by omega) k (by omega)).full (E := E) (st := st3) (by simp) h
 obtain ⟨h1, h2, h3⟩ := rulesM_lims t
 obtain ⟨b1, b2⟩ := rulesM_big t hw
 have c35 := fun st3 (h : E.Wf st3) => (f35 (rulesM t).2.1.1 (rulesM t).2.1.2.1 (rulesM t).2.1.2.2 (by omega) (by omega) b1 b2 k (by omega)).full (E := E) (st := st3) rfl h (by simp [sysE, encFS_fin, encR_fin])
 have hnm := rules_names t L
 generalize hrt : right t = rt at c27 hnm
 obtain ⟨op, s0, nn, l, line⟩ := t
 rw [rulesM_sys] at c33 c33b
 have hlt : (linT L (renT (.mk op s0 nn l line))).enc = [.int .i64 op, .str (rnS op s0), .int .i64 nn, .sl none (linL L (renL l)).length (T.encL (linL L (renL l))), .int .i64 L] := rfl
 rw [hlt] at c33b c36
 generalize rulesM (linT L (renT (.mk op s0 nn l line))) = R' at *
 generalize rulesM (.mk op s0 nn l line) = R at *
 obtain ⟨fs, ⟨S, F, Rs⟩, x, y⟩ := R
 obtain ⟨fs', S', x', y'⟩ := R'
 simp only at c33 c33b c35 h1 h2 h3 hnm
 simp only [T.enc, sysE] at c19 c27 c33 c33b c35 c36
 refine call_in2 rfl rfl (by decide) fun s hs e0 e1 => ?_
 have hE1 : ∀ y, E.Wf ⟨st.H ++ y, st.I⟩ := fun y => hE.of (by simp) (by simp)
 by_cases h : szT 1500 (.mk op s0 nn l line) < 0
 ·simp [hs, e0, h32, c27 _ (hE1 _), c19 _ (hE1 _), h]
  exact .of (Grow.appH _ _)
 cases rt
 ·simp [hs, e0, h32, c27 _ (hE1 _), c19 _ (hE1 _), h]
  exact .of (Grow.appH _ _)
 obtain ⟨n1, n2⟩ := hnm rfl
 subst n1 n2
 simp [hs, e0, e1, h32, c27 _ (hE1 _), c19 _ (hE1 _), h, c33 _ (hE1 _), storeA, hmw, hmw1, wrC]
 simp [hs, e0, e1, c36 _ (hE1 _), c33b _ (hE1 _), storeA, hmw1, wrC]
 simp [hs, c35 _ (hE1 _)]
 exact .of (Grow.appH _ _)
theorem says13 (L : Int) (hL : ok64 L) (t : T) (ht : t.ok) (hw : t.wt ≤ 1048576) : Says 13 [.agg t.enc, .int .i64 L] :=
 says_of (f13 L hL t ht (by omega) (80 * t.wt + 2000000000) (Nat.le_refl _) E0 ⟨[], []⟩ wf0 (fun y => k32at (by omega) y))
end Go.Proofs.YP
