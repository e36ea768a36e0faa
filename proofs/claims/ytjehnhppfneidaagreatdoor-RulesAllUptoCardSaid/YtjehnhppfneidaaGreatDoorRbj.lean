/- Texts that the laws of the seat rest on: an abstract machine, what the functions answer in it, plain laws. -/
import Derived.Test.YtjehnhppfneidaaGreatDoorRbi
set_option linter.unusedVariables false
set_option linter.unusedSimpArgs false
set_option linter.unusedSectionVars false
set_option maxHeartbeats 8000000
set_option maxRecDepth 20000
namespace Go.Proofs.YP
open Go
def l55 : ACode := (.seq (.seq (.reg [oV 50 12, oF 51 3 6, oL 52 51, oO 53 (.len false (.t 52)), oO 54 (.bin .num .lss (.t 50) (.t 53))])
 (.cond (.t 54) (.skip) (.exit 0)))
 (.seq (.block 1 (.seq (.reg [oV 57 3, oV 13 57])
 (.seq (.seq (.reg [oF 58 0 6, oL 59 58, oO 60 (.bin .num .eql (.t 59) (.c (.int .i64 38))), oV 61 60, oG 62 (.mv (.t 12)) 61 true, oG 63 (.bin .num .eql (.t 62) (.c (.int .i64 0))) 61 true, oO 64 (.pick (.t 61) (.t 63) (.c (.bool false)))])
 (.cond (.t 64) (.reg [oV 65 0, oF 66 2 6, oL 67 66, oO 68 (.call .no 86 [(.t 65), (.t 67)]), oV 13 68]) (.skip)))
 (.dreg [(oV 69 0, 0), (oF 70 3 6, 0), (oL 71 70, 2), (oV 72 12, 0), (oO 73 (.ia 5 (.t 71) (.t 72)), 14), (oO 74 (.ld (some 5) (.t 73)), 30), (oV 75 2, 0), (oV 76 13, 0), (oF 77 0 6, 0), (oL 78 77, 256), (oO 79 (.bin .num .eql (.t 78) (.c (.int .i64 17))), 768), (oV 80 79, 1792), (oG 81 (.mv (.t 12)) 80 true, 3840), (oG 82 (.bin .num .eql (.t 81) (.c (.int .i64 0))) 80 true, 7936), (oO 83 (.pick (.t 80) (.t 82) (.c (.bool false))), 16128), (oO 84 (.call .no 55 [(.t 69), (.t 74), (.t 75), (.t 76), (.t 83)]), 32767)]))))
 (.reg [oV 55 12, oO 56 (.bin .num .add (.t 55) (.c (.int .i64 1))), oV 12 56])))
def d55 : ACode := (.seq (.seq (.reg [oV 41 4, oO 42 (.un .not (.t 41))])
 (.cond (.t 42) (.reg [oV 43 0, oO 44 (.ld (some 5) (.t 6)), oV 45 10, oV 46 11, oV 47 2, oV 48 3, oO 49 (.call .no 85 [(.t 43), (.t 44), (.t 45), (.t 46), (.t 47), (.t 48)])]) (.skip)))
 (.seq (.reg [oO 12 (.mv (.c (.int .i64 0)))])
 (.block 0 (.loop l55))))
def y55a : ACode := .seq (.reg [oO 6 (.box 24 (.t 1))])
 (.seq (.reg [oV 14 0, oN 15 14, oF 16 2 15, oL 17 16, oV 10 17])
 (.seq (.reg [oV 18 0, oN 19 18, oF 20 2 19, oL 21 20, oO 22 (.bin .num .add (.t 21) (.c (.int .i64 1))), oN 23 18, oF 24 2 23, oS (.st 1 (.t 24) (.t 22))])
 (.seq (.seq (.reg [oF 25 0 6, oL 26 25, oO 27 (.bin .num .eql (.t 26) (.c (.int .i64 41))), oV 28 27, oG 29 (.fa 0 (.t 6)) 28 false, oG 30 (.ld none (.t 29)) 28 false, oG 31 (.bin .num .eql (.t 30) (.c (.int .i64 10))) 28 false, oO 32 (.pick (.t 28) (.c (.bool true)) (.t 31))])
 (.cond (.t 32) (.seq (.reg [oV 33 0, oO 34 (.ld (some 5) (.t 6)), oV 35 10, oV 36 2, oO 37 (.call .no 83 [(.t 33), (.t 34), (.t 35), (.t 36)])])
 (.ret)) (.skip)))
 (.seq (.reg [oO 38 (.ld (some 5) (.t 6)), oV 39 10, oO 40 (.call .no 84 [(.t 38), (.t 39)]), oV 11 40])
 d55))))
def Spec55 (n : Nat) : Prop := ∀ (t : T), t.wt ≤ n → t.wt ≤ 10000000000 → ∀ {E mb fs bs o o' nx rs rv st}, DkS E mb fs bs o o' nx rs rv st → (∀ G ∈ fs, G.vars.length ≤ 500) → ∀ (to : Int) (f : Nat) (rd : Bool), 0 ≤ nx → nx + (t.count : Nat) ≤ 1000000000 → rs.length + 3 * t.count ≤ 5000000000 → RD fs bs f t →
 ∀ k, 20 * t.wt + 1100 ≤ k → CallQ k E 55 [.ptr mb 0, .agg t.enc, .int .i64 f, .int .i64 to, .bool (!rd)] st fun r st' => r = .ok (.tup []) ∧ DkTo E mb (.sl o' fs.length (encFs fs)) (.sl o bs.length (bs.map (.int .i64))) rv st st' (nx + (t.count : Nat)) (rs ++ rT fs bs t nx f to rd)
theorem rT_fn {fs bs} {t : T} (h : isFn t.op = true) (k0 : Int) (f : Nat) (to : Int) (rd : Bool) : rT fs bs t k0 f to rd = hdR fs bs t.op t.s t.n k0 f ++ rB fs bs t.n.toNat (k0 + 1) t.l := by
 obtain ⟨op, s, n, l, x⟩ := t
 simp only [T.op_mk] at h
 simp only [rT, h, if_true, T.op_mk, T.s_mk, T.n_mk, T.l_mk]
def Spec83 (n : Nat) : Prop := ∀ (t : T), t.wt ≤ n → t.wt ≤ 10000000000 → isFn t.op = true → ∀ {E mb fs bs o o' k0 rs rv st}, DkS E mb fs bs o o' (k0 + 1) rs rv st → (∀ G ∈ fs, G.vars.length ≤ 500) → ∀ (f : Nat), 0 ≤ k0 → k0 + (t.count : Nat) ≤ 1000000000 → rs.length + 3 * t.count ≤ 5000000000 → RD fs bs f t →
 ∀ k, 20 * t.wt + 1099 ≤ k → CallQ k E 83 [.ptr mb 0, .agg t.enc, .int .i64 k0, .int .i64 f] st fun r st' => r = .ok (.tup []) ∧ DkTo E mb (.sl o' fs.length (encFs fs)) (.sl o bs.length (bs.map (.int .i64))) rv st st' (k0 + (t.count : Nat)) (rs ++ rT fs bs t k0 f 0 true)
theorem f83 (n : Nat) (ih : Spec55 n) : Spec83 (n + 1) := by
  intro t ht hwb hfn E mb fs bs o o' k0 rs rv st h hvs f hk0 hk1 hrl hRD k hk
  obtain ⟨k, rfl⟩ := uK (k := k) (by omega)
  rw [rT_fn hfn]
  obtain ⟨op, s0, nn, l, line⟩ := t
  simp only [T.op_mk, T.s_mk, T.n_mk, T.l_mk] at *
  have hRD' : BehA fs bs f (behV fs bs f) ∧ (∃ g : Nat, nn = g ∧ BehA fs bs g (behV fs bs g)) ∧ FnD fs op s0 nn f ∧ RDB fs bs nn.toNat l := by
    simpa only [RD, hfn, if_true] using hRD
  obtain ⟨hbf, ⟨g, hg, hbg⟩, hfd, hb⟩ := hRD'
  obtain ⟨tb, q1, q2, q3, q4, q5, q6⟩ := RDB_last (k0 + 1) hb
  rw [q6]
  have hgn : nn.toNat = g := by omega
  rw [hgn] at q3 ⊢
  have hcn : (T.mk op s0 nn l line).count = 1 + T.countL l := rfl
  rw [hcn] at hk1 hrl ⊢
  have hlw := T.len_wtL l
  simp only [T.wt] at ht hwb hk
  have hwt := T.wtL_get q1
  have hhl := hdR_len fs bs op s0 nn k0 f
  have h1 := h.more [.cells 24 [.int .i64 op, .str s0, .int .i64 nn, .sl none l.length (T.encL l), .int .i64 line]]
  have hml := (List.getElem?_eq_some_iff.1 h.now.1).1
  have hmw1 : ∀ x y, mayWrite E mb x y = true := fun x y => by simp [mayWrite, h.base, h.rob]
  have ho : op = 41 ∨ op = 10 := by simpa [isFn] using hfn
  have key : ∀ (s : List AV) (st2 : St), s.length = 81 → lk s 0 = .ptr mb 0 → lk s 5 = .ptr st.H.length 0 → lk s 8 = .int .i64 nn →
      DkTo E mb (.sl o' fs.length (encFs fs)) (.sl o bs.length (bs.map (.int .i64))) rv ⟨st.H ++ [.cells 24 [.int .i64 op, .str s0, .int .i64 nn, .sl none l.length (T.encL l), .int .i64 line]], st.I⟩ st2 (k0 + 1) (rs ++ hdR fs bs op s0 nn k0 f) →
      WP (aCall prog k) E k none d83 s [] st2 (endQ [] fun r st' => r = .ok (.tup []) ∧ DkTo E mb (.sl o' fs.length (encFs fs)) (.sl o bs.length (bs.map (.int .i64))) rv st st' (k0 + ((1 + T.countL l : Nat) : Int)) (rs ++ (hdR fs bs op s0 nn k0 f ++ rT fs bs tb (k0 + 1 + ((l.length - 1 : Nat) : Int)) g (behV fs bs g + 2) true))) := by
    intro s st2 hs e0 e5 e8 hto
    obtain ⟨rv2, h2⟩ := h1.next hto (by simp; omega)
    have p5 : st2.H[st.H.length]? = some (.cells 24 [.int .i64 op, .str s0, .int .i64 nn, .sl none l.length (T.encL l), .int .i64 line]) := by
      rw [hto.old _ (by simp) (by omega)]; simp
    have hm2 := h2.now.1
    have hml2 := uB hm2
    have hb2 := DkTo.bump h2.now [] (k0 + 1 + ((l.length - 1 : Nat) : Int))
    rw [List.append_nil] at hb2
    obtain ⟨rv3, h3⟩ := h2.next hb2 (by simp; omega)
    have hw1 := wrap64 (n := k0 + 1 + (l.length : Int)) (by omega)
    have hw2 := wrap64 (n := k0 + 1 + (l.length : Int) - 1) (by omega)
    have hw3 := wrap64 (n := (l.length : Int) - 1) (by omega)
    have he1 : k0 + 1 + (l.length : Int) - 1 = k0 + 1 + ((l.length - 1 : Nat) : Int) := by omega
    have he2 : (l.length : Int) - 1 = ((l.length - 1 : Nat) : Int) := by omega
    rw [he1] at hw2
    rw [he2] at hw3
    have hrd := T.rd q1
    have p5' : ((st2.H.set mb (.cells 90 [.sl o' fs.length (encFs fs), .sl o bs.length (bs.map (.int .i64)), .int .i64 (k0 + 1 + ((l.length - 1 : Nat) : Int)), rv2])))[st.H.length]? = some (.cells 24 [.int .i64 op, .str s0, .int .i64 nn, .sl none l.length (T.encL l), .int .i64 line]) := by
      rw [List.getElem?_set_ne (by omega)]; exact p5
    have c54 := (d54 (E := E) h3.now.1 hbg 2 (by omega) k (by omega)).2
    have c55 := ih tb (by omega) (by omega) h3 hvs (behV fs bs g + 2) g true (by omega) (by omega) (by simp; omega) q3 k (by omega)
    have hlt : l.length - 1 < l.length := by omega
    subst hg
    rw [T.enc_eq] at hrd c55
    unfold d83
    simp [-nxtD_ok2, -sb_some, nxtD_ok2L, sb_someL, Nat.testBit, hs, e0, e5, e8, p5, hm2, storeA, hmw1, hw1, he1, hw2, fillA, wrC, isEff]
    simp only [Bool.not_true] at c55
    simp [-nxtD_ok2, -sb_some, nxtD_ok2L, sb_someL, Nat.testBit, hs, e0, e5, e8, p5', he2, hw3, hlt, hrd, c54, isEff]
    refine obP_intro c55 fun p hp => ?_
    obtain ⟨r, st3⟩ := p
    obtain ⟨r1, r2⟩ := hp
    simp only at r1
    subst r1
    simp [-nxtD_ok2, -sb_some, nxtD_ok2L, sb_someL, Nat.testBit, hs, endQ, isEff]
    have hfin := (hto.andThen h2.now (hb2.andThen h3.now r2)).pre (st := st) (fun j hj => List.getElem?_append_left hj) (by simp) List.prefix_rfl
    have hnx : k0 + 1 + ((l.length - 1 : Nat) : Int) + (tb.count : Nat) = k0 + ((1 + T.countL l : Nat) : Int) := by omega
    rw [hnx, List.append_assoc] at hfin
    exact hfin
  refine call_in4 (c0 := y83a) rfl rfl (by decide) fun s hs e0 e1 e2 e3 => ?_
  unfold y83a
  rcases ho with rfl | rfl
  · simp [hs, e0, e1]
    refine hd83a h1 s0 nn line l k0 f hbf hfd hvs (by omega) st.H.length (by simp) _ (by simp [hs]) (by simp [hs, e0]) (by simp [hs, e2]) (by simp [hs, e3]) (by simp [hs]) (by simp [hs]) k (by omega) _ ?_
    intro s' st' a1 a2 a3
    exact key s' st' a1 ((a2 0 (by omega)).trans (by simp [hs, e0])) ((a2 5 (by omega)).trans (by simp [hs])) ((a2 8 (by omega)).trans (by simp [hs])) a3
  · simp [hs, e0, e1]
    refine hd83b h1 s0 nn line l k0 f g hg hbg hfd hvs (by omega) st.H.length (by simp) _ (by simp [hs]) (by simp [hs, e0]) (by simp [hs, e2]) (by simp [hs, e3]) (by simp [hs]) (by simp [hs]) k (by omega) _ ?_
    intro s' st' a1 a2 a3
    exact key s' st' a1 ((a2 0 (by omega)).trans (by simp [hs, e0])) ((a2 5 (by omega)).trans (by simp [hs])) ((a2 8 (by omega)).trans (by simp [hs])) a3
theorem rnd55 {E mb fs bs o o' nx rs rv st} (h : DkS E mb fs bs o o' nx rs rv st) (op : Int) (s0 : ByteArray) (nn line : Int) (l : List T) (to : Int) (f B6 j : Nat) (t : T) (ht : l[j]? = some t) (hjb : j ≤ 10000000000) (h38 : op = 38 → VarA bs nn (vset bs nn))
  (p6 : st.H[B6]? = some (.cells 24 [.int .i64 op, .str s0, .int .i64 nn, .sl none l.length (T.encL l), .int .i64 line])) (s : List AV) (hs : s.length = 85) (e0 : lk s 0 = .ptr mb 0) (e2 : lk s 2 = .int .i64 f) (e3 : lk s 3 = .int .i64 to) (e6 : lk s 6 = .ptr B6 0) (e12 : lk s 12 = .int .i64 (j : Nat)) (m : List Nat) (k : Nat) (hk : 2 ≤ k) (Q : Q4) (P : St → Prop)
  (c : CallQ k E 55 [.ptr mb 0, .agg t.enc, .int .i64 f, .int .i64 (if op = 38 ∧ j = 0 then vset bs nn else to), .bool (!(decide (op ≠ 17) || decide (0 < j)))] st fun r st' => r = .ok (.tup []) ∧ P st')
  (hQ : ∀ s' st', s'.length = 85 → (∀ i, i = 0 ∨ i = 2 ∨ i = 3 ∨ i = 6 → lk s' i = lk s i) → lk s' 12 = .int .i64 ((j + 1 : Nat) : Int) → P st' → Q .nrm s' m st') :
  WP (aCall prog k) E k none l55 s m st Q := by
 have hjl := uB ht
 have hrd := T.rd ht
 have hwj := wrap64 (n := (j : Int) + 1) (by omega)
 have hm := h.now.1
 have hw1 : IntKind.i64.wrap 1 = 1 := rfl
 rw [T.enc_eq] at hrd c
 unfold l55
 simp [hs, e12, e6, p6, hjl]
 by_cases o38 : op = 38
 ·subst o38
  by_cases hj0 : j = 0
  ·subst hj0
   have c86 := f86 (E := E) hm (h38 rfl) k (by omega)
   simp at c
   simp [-nxtD_ok2, -sb_some, nxtD_ok2L, sb_someL, Nat.testBit, hs, e0, e2, e3, e6, e12, p6, hjl, hrd, c86, isEff]
   refine obP_intro c fun p hp => ?_
   obtain ⟨r, st2⟩ := p
   obtain ⟨r1, r2⟩ := hp
   simp only at r1
   subst r1
   simp [-nxtD_ok2, -sb_some, nxtD_ok2L, sb_someL, Nat.testBit, hs, e12, hwj, isEff]
   refine hQ _ _ (by simp [hs]) (fun i hi => ?_) (by simp [hs, hw1]) r2
   rcases hi with rfl | rfl | rfl | rfl <;> simp [hs]
  ·have hj1 : ¬ (j : Int) = 0 := by omega
   have hj2 : 0 < j := by omega
   simp [hj0, hj2] at c
   simp [-nxtD_ok2, -sb_some, nxtD_ok2L, sb_someL, Nat.testBit, hs, e0, e2, e3, e6, e12, p6, hjl, hrd, hj0, hj1, isEff]
   refine obP_intro c fun p hp => ?_
   obtain ⟨r, st2⟩ := p
   obtain ⟨r1, r2⟩ := hp
   simp only at r1
   subst r1
   simp [-nxtD_ok2, -sb_some, nxtD_ok2L, sb_someL, Nat.testBit, hs, e12, hwj, isEff]
   refine hQ _ _ (by simp [hs]) (fun i hi => ?_) (by simp [hs, hw1]) r2
   rcases hi with rfl | rfl | rfl | rfl <;> simp [hs]
 by_cases o17 : op = 17
 ·subst o17
  by_cases hj0 : j = 0
  ·subst hj0
   simp at c
   simp [-nxtD_ok2, -sb_some, nxtD_ok2L, sb_someL, Nat.testBit, hs, e0, e2, e3, e6, e12, p6, hjl, hrd, isEff, isEff]
   refine obP_intro c fun p hp => ?_
   obtain ⟨r, st2⟩ := p
   obtain ⟨r1, r2⟩ := hp
   simp only at r1
   subst r1
   simp [-nxtD_ok2, -sb_some, nxtD_ok2L, sb_someL, Nat.testBit, hs, e12, hwj, isEff]
   refine hQ _ _ (by simp [hs]) (fun i hi => ?_) (by simp [hs, hw1]) r2
   rcases hi with rfl | rfl | rfl | rfl <;> simp [hs]
  ·have hj1 : ¬ (j : Int) = 0 := by omega
   have hj2 : 0 < j := by omega
   simp [hj0, hj2] at c
   simp [-nxtD_ok2, -sb_some, nxtD_ok2L, sb_someL, Nat.testBit, hs, e0, e2, e3, e6, e12, p6, hjl, hrd, hj0, hj1, isEff]
   refine obP_intro c fun p hp => ?_
   obtain ⟨r, st2⟩ := p
   obtain ⟨r1, r2⟩ := hp
   simp only at r1
   subst r1
   simp [-nxtD_ok2, -sb_some, nxtD_ok2L, sb_someL, Nat.testBit, hs, e12, hwj, isEff]
   refine hQ _ _ (by simp [hs]) (fun i hi => ?_) (by simp [hs, hw1]) r2
   rcases hi with rfl | rfl | rfl | rfl <;> simp [hs]
 simp [o38, o17] at c
 simp [-nxtD_ok2, -sb_some, nxtD_ok2L, sb_someL, Nat.testBit, hs, e0, e2, e3, e6, e12, p6, hjl, hrd, o38, o17, isEff]
 refine obP_intro c fun p hp => ?_
 obtain ⟨r, st2⟩ := p
 obtain ⟨r1, r2⟩ := hp
 simp only at r1
 subst r1
 simp [-nxtD_ok2, -sb_some, nxtD_ok2L, sb_someL, Nat.testBit, hs, e12, hwj, isEff]
 refine hQ _ _ (by simp [hs]) (fun i hi => ?_) (by simp [hs, hw1]) r2
 rcases hi with rfl | rfl | rfl | rfl <;> simp [hs]
theorem f55 (n : Nat) (ih : Spec55 n) (h83 : Spec83 (n + 1)) : Spec55 (n + 1) := by
  intro t ht hwb E mb fs bs o o' nx rs rv st h hvs to f rd hk0 hk1 hrl hRD k hk
  obtain ⟨k, rfl⟩ := uK (k := k) (by omega)
  have hml := (List.getElem?_eq_some_iff.1 h.now.1).1
  have hm := h.now.1
  have hmw1 : ∀ x y, mayWrite E mb x y = true := fun x y => by simp [mayWrite, h.base, h.rob]
  have hw1 := wrap64 (n := nx + 1) (by omega)
  have hb1 := DkTo.bump h.now [.cells 24 t.enc] (nx + 1)
  obtain ⟨rv1, h1⟩ := h.next hb1 (by have := h.len; omega)
  have hcw := count_wt t
  have p6 : ((st.H ++ [ABlk.cells 24 t.enc]).set mb (ABlk.cells 90 [.sl o' fs.length (encFs fs), .sl o bs.length (bs.map (.int .i64)), .int .i64 (nx + 1), rv]))[st.H.length]? = some (.cells 24 t.enc) := by
    rw [List.getElem?_set_ne (by omega)]; simp
  have p6b := uV p6
  by_cases hfn : isFn t.op
  · have c83 := h83 t ht hwb hfn h1 hvs f hk0 hk1 hrl hRD k (by omega)
    have hrT : rT fs bs t nx f 0 true = rT fs bs t nx f to rd := by rw [rT_fn hfn, rT_fn hfn]
    rw [hrT] at c83
    obtain ⟨op, s0, nn, l, line⟩ := t
    simp only [T.op_mk, T.enc] at *
    have ho : op = 41 ∨ op = 10 := by simpa [isFn] using hfn
    refine call_in5 (c0 := y55a) rfl rfl (by decide) fun s hs e0 e1 e2 e3 e4 => ?_
    unfold y55a
    rcases ho with rfl | rfl
    · simp [hs, e0, e1, e2, getE_old hm, storeA, hmw1, hw1, wrC, p6, p6b, isEff]
      refine obP_intro c83 fun p hp => ?_
      obtain ⟨r, st2⟩ := p
      obtain ⟨r1, r2⟩ := hp
      simp only at r1
      subst r1
      simp [hs]
      exact hb1.andThen h1.now r2
    · simp [hs, e0, e1, e2, getE_old hm, storeA, hmw1, hw1, wrC, p6, p6b, isEff]
      refine obP_intro c83 fun p hp => ?_
      obtain ⟨r, st2⟩ := p
      obtain ⟨r1, r2⟩ := hp
      simp only at r1
      subst r1
      simp [hs]
      exact hb1.andThen h1.now r2
  have c84 := f84 t hwb nx hk0 (by omega) E ⟨(st.H ++ [ABlk.cells 24 t.enc]).set mb (ABlk.cells 90 [.sl o' fs.length (encFs fs), .sl o bs.length (bs.map (.int .i64)), .int .i64 (nx + 1), rv]), st.I⟩ k h1.wf (by omega)
  have hct : t.count = 1 + T.countL t.l := by cases t; rfl
  have g85' := fun {rv2 st2} (h2 : DkS E mb fs bs o o' (nx + 1) rs rv2 st2) hloc h37 pv hpv => g85 h2 t nx to f hk0 (by omega) hloc h37 pv hpv (by have := T.len_le t.l; omega) k (by obtain ⟨op, s0, nn, l, line⟩ := t; have := T.len_wtL l; simp only [T.wt] at hk; simp only [T.l_mk]; omega)
  obtain ⟨op, s0, nn, l, line⟩ := t
  have hfo : op ≠ 41 ∧ op ≠ 10 := by
    have h' : ¬ (decide (op = 41) || decide (op = 10)) = true := hfn
    simpa using h'
  obtain ⟨ho1, ho2⟩ := hfo
  obtain ⟨hloc, h37, hRDL⟩ : LocOK fs bs (.mk op s0 nn l line) f ∧ (op = 37 → 0 < l.length) ∧ RDL fs bs f l := by
    simp only [RD, isFn, ho1, ho2, decide_false, Bool.or_self, Bool.false_eq_true, if_false] at hRD
    exact hRD
  have hrT : rT fs bs (T.mk op s0 nn l line) nx f to rd = (if rd = true then ownR fs bs (T.mk op s0 nn l line) nx f to else []) ++ rL fs bs op nn f to 0 (nx + 1) l := by
    simp only [rT, isFn, ho1, ho2, decide_false, Bool.or_self, Bool.false_eq_true, if_false]
  have hcn : (T.mk op s0 nn l line).count = 1 + T.countL l := rfl
  rw [hcn] at hk1 hrl ⊢
  rw [hrT]
  simp only [T.op_mk, T.enc, T.l_mk] at *
  have hlw := T.len_wtL l
  have hll := T.len_le l
  refine call_in5 (c0 := y55a) rfl rfl (by decide) fun s hs e0 e1 e2 e3 e4 => ?_
  unfold y55a
  simp [hs, e0, e1, e2, getE_old hm, storeA, hmw1, hw1, wrC, p6, p6b, isEff, ho1, ho2]
  refine obP_intro c84 fun p hp => ?_
  obtain ⟨r, st2⟩ := p
  obtain ⟨v, r1, r2, r3, r4, r5⟩ := hp
  simp only at r1 r2 r3 r4 r5
  subst r1
  have hto2 : DkTo E mb (.sl o' fs.length (encFs fs)) (.sl o bs.length (bs.map (.int .i64))) rv1 ⟨(st.H ++ [ABlk.cells 24 [.int .i64 op, .str s0, .int .i64 nn, .sl none l.length (T.encL l), .int .i64 line]]).set mb (ABlk.cells 90 [.sl o' fs.length (encFs fs), .sl o bs.length (bs.map (.int .i64)), .int .i64 (nx + 1), rv]), st.I⟩ st2 (nx + 1) rs := by
    refine ⟨⟨rv1, ⟨pfx_get r4 h1.now.1, ?_⟩, .inl rfl⟩, fun j hj _ => ?_, r4.length_le, r5.len, fun j x _ e => r5.get j x (uB e) e⟩
    · rcases h1.now.2 with h2 | ⟨j, e, hj, hi⟩
      · exact .inl h2
      · exact .inr ⟨j, e, hj, r5.get _ _ (uB hi) hi⟩
    · obtain ⟨y, hy⟩ := r4
      rw [← hy, List.getElem?_append_left hj]
  obtain ⟨rv2, h2⟩ := h1.next hto2 (by have := h.len; omega)
  have hl2 := h2.now.1
  have p62 : st2.H[st.H.length]? = some (.cells 24 [.int .i64 op, .str s0, .int .i64 nn, .sl none l.length (T.encL l), .int .i64 line]) := pfx_get r4 p6
  have hll2 := uB p62
  have c85 := g85' h2 hloc h37 v r2.val
  have hol : (ownR fs bs (T.mk op s0 nn l line) nx f to).length ≤ 2 + l.length := by
    have := ownS_len fs bs (.mk op s0 nn l line) nx f to (posF (nx + 1) l)
    simpa [ownR] using this
  generalize ownR fs bs (T.mk op s0 nn l line) nx f to = own at c85 hol ⊢
  simp [hs]
  unfold d55
  refine WP_seqM (fun s m st' => m = [] ∧ s.length = 85 ∧ lk s 0 = .ptr mb 0 ∧ lk s 2 = .int .i64 f ∧ lk s 3 = .int .i64 to ∧ lk s 6 = .ptr st.H.length 0 ∧ DkTo E mb (.sl o' fs.length (encFs fs)) (.sl o bs.length (bs.map (.int .i64))) rv2 st2 st' (nx + 1) (rs ++ if rd = true then own else [])) ?_ ?_
  · cases rd
    · simp [hs, e4]
      exact ⟨rfl, rfl, by simp [hs], by simp [hs, e0], by simp [hs, e2], by simp [hs, e3], by simp [hs], by simpa using DkTo.refl h2.now⟩
    · simp [hs, e0, e2, e3, e4, p62, isEff]
      refine obP_intro c85 fun p hp => ?_
      obtain ⟨r, st3⟩ := p
      obtain ⟨r1, r2⟩ := hp
      simp only at r1
      subst r1
      simp [hs]
      exact ⟨rfl, rfl, by simp [hs], by simp [hs, e0], by simp [hs, e2], by simp [hs, e3], by simp [hs], by simpa using r2⟩
  clear hs e0 e1 e2 e3 e4 s
  rintro s _ st3 ⟨rfl, hs, e0, e2, e3, e6, hto3⟩
  generalize hown : (if rd = true then own else []) = ow at hto3 ⊢
  have hownl : ow.length ≤ 2 + l.length := by
    rw [← hown]
    split
    · exact hol
    · simp
  obtain ⟨rv3, h3⟩ := h2.next hto3 (by simp; omega)
  simp [hs]
  refine WP_loop (fun n s m st' => ∃ (j : Nat), j ≤ l.length ∧ n = l.length - j ∧ m = [] ∧ s.length = 85 ∧ lk s 0 = .ptr mb 0 ∧ lk s 2 = .int .i64 f ∧ lk s 3 = .int .i64 to ∧ lk s 6 = .ptr st.H.length 0 ∧ lk s 12 = .int .i64 (j : Nat) ∧
      DkTo E mb (.sl o' fs.length (encFs fs)) (.sl o bs.length (bs.map (.int .i64))) rv3 st3 st' (nx + 1 + (T.countL (l.take j) : Nat)) (rs ++ ow ++ rL fs bs op nn f to 0 (nx + 1) (l.take j))) l.length (by simp only [T.wt] at hk; omega)
      ⟨0, by omega, by omega, rfl, by simp [hs], by simp [hs, e0], by simp [hs, e2], by simp [hs, e3], by simp [hs, e6], by simp [hs], by simpa [rL, T.countL] using DkTo.refl h3.now⟩ ?_
  clear hs e0 e2 e3 e6 s
  rintro _ s _ st4 ⟨j, hj, rfl, rfl, hs, e0, e2, e3, e6, e12, hto⟩
  have p64 : st4.H[st.H.length]? = some (.cells 24 [.int .i64 op, .str s0, .int .i64 nn, .sl none l.length (T.encL l), .int .i64 line]) := by
    rw [hto.old _ (by have := hto3.len; omega) (by omega), hto3.old _ hll2 (by omega)]; exact p62
  by_cases hc : j < l.length
  · obtain ⟨t, hg⟩ : ∃ t, l[j]? = some t := ⟨_, List.getElem?_eq_getElem hc⟩
    have hwt := wtL_split hg
    have hct := countL_take_succ hg
    have hcr := countL_rest l (j + 1) (by omega)
    have hrLl := rL_len fs bs op nn f to 0 (nx + 1) (l.take j)
    have hsn := rL_snoc fs bs op nn f to l 0 (nx + 1) j t hg
    rw [Nat.zero_add] at hsn
    have hlt : (l.take j).length = j := by simp; omega
    obtain ⟨rvj, hj'⟩ := h3.next hto (by simp; omega)
    have c := ih t (by simp only [T.wt] at ht; omega) (by simp only [T.wt] at hwb; omega) hj' hvs (if op = 38 ∧ j = 0 then vset bs nn else to) f (decide (op ≠ 17) || decide (0 < j)) (by omega) (by omega) (by simp; omega) (RDL_get hRDL hg) k (by simp only [T.wt] at hk; omega)
    refine rnd55 hj' op s0 nn line l to f st.H.length j t hg (by omega) (fun h38 => hloc.var (.inr (.inr h38))) p64 s hs e0 e2 e3 e6 e12 [] k (by omega) _ _ c ?_
    intro s' st5 a1 a2 a3 a4
    refine ⟨_, by omega, j + 1, by omega, rfl, rfl, a1, (a2 0 (by omega)).trans e0, (a2 2 (by omega)).trans e2, (a2 3 (by omega)).trans e3, (a2 6 (by omega)).trans e6, a3, ?_⟩
    have hfin := hto.andThen hj'.now a4
    have hnn : nx + 1 + (T.countL (l.take j) : Nat) + (t.count : Nat) = nx + 1 + (T.countL (l.take (j + 1)) : Nat) := by rw [hct]; push_cast; omega
    rw [hnn, List.append_assoc, ← hsn] at hfin
    exact hfin
  · have : j = l.length := by omega
    subst this
    rw [List.take_length] at hto
    unfold l55
    simp [hs, e6, e12, p64]
    have hfin := hb1.andThen h1.now (hto2.andThen h2.now (hto3.andThen h3.now hto))
    have hnn : nx + 1 + (T.countL l : Nat) = nx + ((1 + T.countL l : Nat) : Int) := by push_cast; omega
    rw [hnn, List.append_assoc] at hfin
    exact hfin
theorem spec55 : ∀ n, Spec55 n
 | 0 => fun t h => by cases t; simp only [T.wt] at h; omega
 | n + 1 => f55 n (spec55 n) (f83 n (spec55 n))
def l34c : ACode := (.seq (.seq (.reg [oV 87 16, oV 88 6, oV 89 14, oO 90 (.ia 5 (.t 88) (.t 89)), oF 91 2 90, oL 92 91, oO 93 (.bin .num .lss (.t 87) (.t 92))])
 (.cond (.t 93) (.skip) (.exit 4)))
 (.seq (.block 5 (.dreg [(oF 96 1 15, 0), (oL 97 96, 1), (oV 98 10, 0), (oN 99 98, 4), (oF 100 1 99, 12), (oL 101 100, 28), (oV 102 14, 0), (oO 103 (.ia 1 (.t 101) (.t 102)), 124), (oL 104 103, 252), (oV 105 16, 0), (oO 106 (.bin .num .add (.t 104) (.t 105)), 1020), (oO 107 (.bsl false 1 1 [(.int .i64 0)] [(0, 1, (.t 106))]), 2044), (oO 108 (.app 1 8 (.t 97) (.t 107)), 4095), (oF 109 1 15, 8191), (oS (.st 1 (.t 109) (.t 108)), 16383)]))
 (.reg [oV 94 16, oO 95 (.bin .num .add (.t 94) (.c (.int .i64 1))), oV 16 95])))
def l34b : ACode := (.seq (.seq (.reg [oV 66 14, oV 67 6, oO 68 (.len false (.t 67)), oO 69 (.bin .num .lss (.t 66) (.t 68))])
 (.cond (.t 69) (.skip) (.exit 2)))
 (.seq (.block 3 (.seq (.dreg [(oV 72 6, 0), (oV 73 14, 0), (oO 74 (.ia 5 (.t 72) (.t 73)), 3), (oF 75 4 74, 7), (oL 76 75, 15), (oV 77 10, 0), (oV 78 14, 0), (oO 79 (.call .quiet 54 [(.t 77), (.t 78), (.c (.int .i64 0))]), 96), (oV 80 10, 0), (oV 81 14, 0), (oO 82 (.call .quiet 54 [(.t 80), (.t 81), (.c (.int .i64 1))]), 992), (oV 83 10, 0), (oV 84 14, 0), (oO 85 (.call .quiet 54 [(.t 83), (.t 84), (.c (.int .i64 2))]), 8160), (oO 86 (.build [(.int .i64 0), .nils, (.int .i64 0), (.int .i64 0), (.int .i64 0)] [(0, 1, (.t 76)), (2, 1, (.t 79)), (3, 1, (.t 82)), (4, 1, (.t 85))]), 16383), (oO 15 (.alloc 82 [(.int .i64 0), .nils, (.int .i64 0), (.int .i64 0), (.int .i64 0)]), 0), (oS (.st 5 (.t 15) (.t 86)), 65535)])
 (.seq (.seq (.reg [oO 16 (.mv (.c (.int .i64 0)))])
 (.block 4 (.loop l34c)))
 (.reg [oF 110 1 13, oL 111 110, oO 112 (.ld (some 5) (.t 15)), oO 113 (.bsl false 5 1 [(.int .i64 0), .nils, (.int .i64 0), (.int .i64 0), (.int .i64 0)] [(0, 5, (.t 112))]), oO 114 (.app 5 56 (.t 111) (.t 113)), oF 115 1 13, oS (.st 1 (.t 115) (.t 114))]))))
 (.reg [oV 70 14, oO 71 (.bin .num .add (.t 70) (.c (.int .i64 1))), oV 14 71])))
def l34a : ACode := (.seq (.seq (.reg [oV 34 12, oV 35 6, oO 36 (.len false (.t 35)), oO 37 (.bin .num .lss (.t 34) (.t 36))])
 (.cond (.t 37) (.skip) (.exit 0)))
 (.seq (.block 1 (.seq (.reg [oV 40 10, oV 41 10, oN 42 41, oF 43 1 42, oL 44 43, oV 45 11, oO 46 (.bsl false 1 1 [(.int .i64 0)] [(0, 1, (.t 45))]), oO 47 (.app 1 8 (.t 44) (.t 46)), oN 48 40, oF 49 1 48, oS (.st 1 (.t 49) (.t 47))])
 (.reg [oV 50 11, oV 51 6, oV 52 12, oO 53 (.ia 5 (.t 51) (.t 52)), oF 54 3 53, oL 55 54, oO 56 (.len false (.t 55)), oO 57 (.bin .num .add (.t 50) (.t 56)), oO 58 (.bin .num .add (.t 57) (.c (.int .i64 3))), oV 11 58])))
 (.reg [oV 38 12, oO 39 (.bin .num .add (.t 38) (.c (.int .i64 1))), oV 12 39])))
def y34e : ACode := (.seq (.dreg [(oV 116 10, 0), (oO 117 (.ld (some 5) (.t 7)), 0), (oV 118 10, 0), (oO 119 (.call .quiet 54 [(.t 118), (.c (.int .i64 0)), (.c (.int .i64 2))]), 4), (oO 120 (.call .no 55 [(.t 116), (.t 117), (.c (.int .i64 0)), (.t 119), (.c (.bool false))]), 15)])
 (.seq (.reg [oV 121 10, oN 122 121, oF 123 3 122, oL 124 123, oF 125 2 13, oS (.st 1 (.t 125) (.t 124))])
 (.seq (.dreg [(oV 126 6, 0), (oO 127 (.ld (some 3) (.t 13)), 0), (oV 2 126, 1), (oS (.st 3 (.t 3) (.t 127)), 7), (oO 4 (.mv (.c (.int .i64 0))), 15), (oO 5 (.mv (.c (.int .i64 0))), 31)])
 (.ret))))
def y34d : ACode := (.seq (.seq (.reg [oO 14 (.mv (.c (.int .i64 0)))])
 (.block 2 (.loop l34b)))
 y34e)
def y34c : ACode := (.seq (.seq (.reg [oV 59 11, oO 60 (.bin .num .add (.t 59) (.c (.int .i64 9))), oO 61 (.bin .num .gtr (.t 60) (.c (.int .i64 100000)))])
 (.cond (.t 61) (.seq (.reg [oO 62 (.build [(.int .i64 0), .nils, .nils] []), oO 2 (.mv (.c .nils)), oS (.st 3 (.t 3) (.t 62)), oO 4 (.mv (.c (.int .i64 0))), oO 5 (.mv (.c (.int .i64 52)))])
 (.ret)) (.skip)))
 (.seq (.reg [oV 63 11, oO 64 (.bin .num .add (.t 63) (.c (.int .i64 9))), oO 65 (.build [(.int .i64 0), .nils, .nils] [(0, 1, (.t 64))]), oO 13 (.alloc 49 [(.int .i64 0), .nils, .nils]), oS (.st 3 (.t 13) (.t 65))])
 y34d))
def y34b : ACode := (.seq (.seq (.reg [oO 12 (.mv (.c (.int .i64 0)))])
 (.block 0 (.loop l34a)))
 y34c)
def y34a : ACode := .seq (.reg [oO 1 (.box 24 (.t 0)), oO 2 (.mv (.c .nils)), oO 3 (.alloc 49 [(.int .i64 0), .nils, .nils]), oO 4 (.mv (.c (.int .i64 0))), oO 5 (.mv (.c (.int .i64 0)))])
 (.seq (.reg [oO 18 (.ld (some 5) (.t 1)), oO 19 (.call .full 21 [(.t 18)]), oV 17 19, oO 20 (.ext 0 (.t 17)), oO 21 (.ext 1 (.t 17)), oO 22 (.ext 2 (.t 17)), oO 23 (.ext 3 (.t 17)), oO 7 (.alloc 24 [(.int .i64 0), (.str ⟨#[]⟩), (.int .i64 0), .nils, (.int .i64 0)]), oV 6 20, oS (.st 5 (.t 7) (.t 21)), oV 8 22, oV 9 23])
 (.seq (.seq (.reg [oV 24 9, oO 25 (.bin .num .neq (.t 24) (.c (.int .i64 0)))])
 (.cond (.t 25) (.seq (.reg [oO 26 (.build [(.int .i64 0), .nils, .nils] []), oV 27 8, oV 28 9, oO 2 (.mv (.c .nils)), oS (.st 3 (.t 3) (.t 26)), oV 4 27, oV 5 28])
 (.ret)) (.skip)))
 (.seq (.reg [oV 29 6, oO 30 (.build [.nils, .nils, (.int .i64 0), .nils] [(0, 1, (.t 29))]), oO 31 (.box 90 (.t 30)), oV 10 31])
 (.seq (.reg [oO 32 (.ld (some 5) (.t 7)), oO 33 (.call .no 53 [(.t 32)]), oV 11 33])
 y34b))))
theorem rnd34a {E : Env} {st : St} (hE : E.Wf st) (m0 : Nat) (hm0 : m0 ≤ st.I.length) (mb : Nat) (hmw3 : ∀ x y, mayWrite E mb x y = true) (s : List AV) (hs : s.length = 128) (fs : List Fn) (at_ : Int) (xs : List Int) (bv nx rv : AV) (j : Nat) (f : Fn) (hg : fs[j]? = some f) (hfl : fs.length ≤ 10000000000)
  (e6 : lk s 6 = .sl none fs.length (encFs fs)) (e10 : lk s 10 = .ptr mb 0) (e11 : lk s 11 = .int .i64 at_) (e12 : lk s 12 = .int .i64 j)
  (hm : st.H[mb]? = some (.cells 90 [.sl none fs.length (encFs fs), bv, nx, rv])) (hac : AccI E st.I xs bv) (how : ∀ j, owns bv = some j → m0 ≤ j) (hxl : xs.length ≤ 100000000000) (hat : 0 ≤ at_ ∧ at_ ≤ 100000000000000) (hvl : f.vars.length ≤ 500) (m : List Nat) (k : Nat) (Q : Q4)
  (hQ : ∀ s' st' bv', s'.length = 128 → (∀ i, i = 3 ∨ i = 6 ∨ i = 7 ∨ i = 10 → lk s' i = lk s i) → lk s' 11 = .int .i64 (at_ + (f.vars.length + 3 : Nat)) → lk s' 12 = .int .i64 ((j + 1 : Nat) : Int) →
   st'.H[mb]? = some (.cells 90 [.sl none fs.length (encFs fs), bv', nx, rv]) → AccI E st'.I (xs ++ [at_]) bv' → (∀ j, owns bv' = some j → m0 ≤ j) → (∀ q, q ≠ mb → st'.H[q]? = st.H[q]?) → st'.H.length = st.H.length → IOld m0 st.I st'.I → Q .nrm s' m st') :
  WP (aCall prog k) E k none l34a s m st Q := by
 have hjl := uB hg
 have hv : (encFs fs)[j * 5 + 3]? = some (.sl none f.vars.length (f.vars.map .str)) := encFs_at hg 3 (by omega)
 have hv2 := uV hv
 have hv3 : j * 5 + 3 < fs.length * 5 := by omega
 have hwj := wrap64 (n := (j : Int) + 1) (by omega)
 have hw1 := wrap64 (n := at_ + (f.vars.length : Int)) (by omega)
 have hw2 := wrap64 (n := at_ + (f.vars.length : Int) + 3) (by omega)
 have hw3 : at_ + (f.vars.length : Int) + 3 = at_ + (f.vars.length + 3 : Nat) := by omega
 rw [hw3] at hw2
 have hw4 := wrap64 (n := at_ + ((f.vars.length : Int) + 3)) (by omega)
 have hml := uB hm
 obtain ⟨v', I', happ, hac', hio, how'⟩ := hac.app (m := m0) hE.rom hm0 how hxl st.H at_ 0
 have happ : appA E ⟨st.H, st.I⟩ 1 8 bv (.sl none 1 [.int .i64 at_]) = some (v', ⟨st.H, I'⟩) := happ
 have hvo := hac'.one
 have hvc := hac'.cells
 unfold l34a
 simp [hs, e6, e12, hjl]
 simp [hs, e10, e11, hm, fillA, wrC, happ, storeA, hmw3, hvo, hvc]
 simp [hs, e6, e11, e12, hjl, hv, hv2, hv3, hw1, hw3, hw2, hwj]
 refine hQ _ _ v' (by simp [hs]) (fun i hi => by rcases hi with rfl | rfl | rfl | rfl <;> simp [hs]) (by simp [hs, hw4]) (by simp [hs]) ?_ hac' how' (fun q hn => ?_) (by simp) hio
 ·show (List.set _ _ _)[_]? = _
  rw [List.getElem?_set_self hml]
 ·show (List.set _ _ _)[_]? = _
  rw [List.getElem?_set_ne (Ne.symm hn)]
theorem rnd34c {E : Env} {st : St} (hE : E.Wf st) (m0 : Nat) (hm0 : m0 ≤ st.I.length) (mb W j : Nat) (hmwW : ∀ x y, mayWrite E W x y = true) (s : List AV) (hs : s.length = 128) (fs : List Fn) (f : Fn) (hg : fs[j]? = some f) (F nx rv pv z0 z2 z3 z4 : AV) (bs : List Int) (o : Option Nat) (b : Int) (hb : bs[j]? = some b) (hbb : 0 ≤ b ∧ b ≤ 100000000000000) (kk : Nat) (hkk : kk < f.params) (hn : f.params ≤ 1000)
  (e6 : lk s 6 = .sl none fs.length (encFs fs)) (e10 : lk s 10 = .ptr mb 0) (e14 : lk s 14 = .int .i64 j) (e15 : lk s 15 = .ptr W 0) (e16 : lk s 16 = .int .i64 kk)
  (hm : st.H[mb]? = some (.cells 90 [F, .sl o bs.length (bs.map (.int .i64)), nx, rv])) (hW : st.H[W]? = some (.cells 82 [z0, pv, z2, z3, z4])) (hac : AccI E st.I (parL b kk) pv) (how : ∀ j, owns pv = some j → m0 ≤ j) (m : List Nat) (k : Nat) (Q : Q4)
  (hQ : ∀ s' st' pv', s'.length = 128 → (∀ i, i < 16 → lk s' i = lk s i) → lk s' 16 = .int .i64 ((kk + 1 : Nat) : Int) → st'.H[W]? = some (.cells 82 [z0, pv', z2, z3, z4]) → AccI E st'.I (parL b (kk + 1)) pv' → (∀ j, owns pv' = some j → m0 ≤ j) →
   (∀ q, q ≠ W → st'.H[q]? = st.H[q]?) → st'.H.length = st.H.length → IOld m0 st.I st'.I → Q .nrm s' m st') :
  WP (aCall prog k) E k none l34c s m st Q := by
 have hjl := uB hg
 have hp : (encFs fs)[j * 5 + 2]? = some (.int .i64 (f.params : Int)) := encFs_at hg 2 (by omega)
 have hp2 := uV hp
 have hp3 : j * 5 + 2 < fs.length * 5 := by omega
 have hwj := wrap64 (n := (kk : Int) + 1) (by omega)
 have hwb := wrap64 (n := b + (kk : Int)) (by omega)
 have hb1 : (bs.map (AV.int IntKind.i64))[j]? = some (.int .i64 b) := by rw [List.getElem?_map, hb]; rfl
 have hb2 := uV hb1
 have hb3 := uB hb
 have hb4 := uV hb
 obtain ⟨v', I', happ, hac', hio, how'⟩ := hac.app (m := m0) hE.rom hm0 how (by rw [parL_len]; omega) st.H (b + kk) 0
 have happ : appA E ⟨st.H, st.I⟩ 1 8 pv (.sl none 1 [.int .i64 (b + kk)]) = some (v', ⟨st.H, I'⟩) := happ
 have hvo := hac'.one
 have hvc := hac'.cells
 have hpo := hac.one
 unfold l34c
 simp [hs, e6, e14, e16, hjl, hp, hp2, hp3, hkk]
 simp [-nxtD_ok2, -sb_some, nxtD_ok2L, sb_someL, Nat.testBit, hs, e10, e14, e15, e16, hm, hW, hb1, hb2, hb3, hb4, hwb, fillA, wrC, happ, storeA, hmwW, hvo, hvc, isEff]
 simp [hs, e16, hwj]
 refine hQ _ _ v' (by simp [hs]) (fun i h1 => ?_) (by simp [hs]) ?_ hac' how' (fun q hq => ?_) (by simp) hio
 ·simp only [lk_set, List.length_set]
  repeat' rw [if_neg (by omega)]
 ·show (List.set _ _ _)[_]? = _
  rw [List.getElem?_set_self (uB hW)]
 ·show (List.set _ _ _)[_]? = _
  rw [List.getElem?_set_ne (Ne.symm hq)]
theorem rnd34b {E : Env} {st : St} (hE : E.Wf st) (m0 : Nat) (hm0 : m0 ≤ st.I.length) (mb V : Nat) (hmwV : ∀ x y, mayWrite E V x y = true) (s : List AV) (hs : s.length = 128) (fs : List Fn) (bs : List Int) (o : Option Nat) (nx rv fv sets zz : AV) (rs : List FS) (j : Nat) (f : Fn) (hg : fs[j]? = some f) (hfl : fs.length ≤ 10000000000) (b : Int) (hb : bs[j]? = some b) (hbb : 0 ≤ b ∧ b ≤ 10000000000000)
    (hpl : f.params ≤ 1000) (hvl : f.vars.length ≤ 1000) (e6 : lk s 6 = .sl none fs.length (encFs fs)) (e10 : lk s 10 = .ptr mb 0) (e13 : lk s 13 = .ptr V 0) (e14 : lk s 14 = .int .i64 j)
    (hm : st.H[mb]? = some (.cells 90 [.sl none fs.length (encFs fs), .sl o bs.length (bs.map (.int .i64)), nx, rv])) (hV : st.H[V]? = some (.cells 49 [sets, fv, zz])) (hac : AccX E st.I rs fv) (how : ∀ j, owns fv = some j → m0 ≤ j) (hrl : rs.length ≤ 100000000000) (m : List Nat) (k : Nat) (hk : 1002 ≤ k) (Q : Q4)
    (hQ : ∀ s' st' fv', s'.length = 128 → (∀ i, i = 3 ∨ i = 6 ∨ i = 7 ∨ i = 10 ∨ i = 13 → lk s' i = lk s i) → lk s' 14 = .int .i64 ((j + 1 : Nat) : Int) → st'.H[V]? = some (.cells 49 [sets, fv', zz]) → AccX E st'.I (rs ++ [fsF b f]) fv' → (∀ j, owns fv' = some j → m0 ≤ j) →
      (∀ q, q < st.H.length → q ≠ V → st'.H[q]? = st.H[q]?) → st.H.length ≤ st'.H.length → IOld m0 st.I st'.I → Q .nrm s' m st') :
    WP (aCall prog k) E k none l34b s m st Q := by
  have hmw := mayWrite_new hE
  have hmw1 : ∀ q x y, mayWrite E (st.H.length + q) x y = true := fun q x y => hmw _ _ _ (by omega)
  have hmw0 : ∀ x y, mayWrite E st.H.length x y = true := fun x y => hmw _ _ _ (by omega)
  have hjl := uB hg
  have hk4 : (encFs fs)[j * 5 + 4]? = some (.int .i64 f.mark) := encFs_at hg 4 (by omega)
  have hk5 := uV hk4
  have hk6 : j * 5 + 4 < fs.length * 5 := by omega
  have hp : (encFs fs)[j * 5 + 2]? = some (.int .i64 (f.params : Int)) := encFs_at hg 2 (by omega)
  have hp2 := uV hp
  have hp3 : j * 5 + 2 < fs.length * 5 := by omega
  have hwj := wrap64 (n := (j : Int) + 1) (by omega)
  have hVl := uB hV
  have hml := uB hm
  have hVm : V ≠ mb := fun e => by rw [e, hm] at hV; cases hV
  have hbeh : BehA fs bs j (b + f.vars.length) := ⟨f, b, hg, hb, hbb.1, by omega, rfl⟩
  have c0 := fun X => (d54 (E := E) (st := ⟨st.H ++ X, st.I⟩) (getE_old hm) hbeh 0 (by omega) k (by omega)).2
  have c1 := fun X => (d54 (E := E) (st := ⟨st.H ++ X, st.I⟩) (getE_old hm) hbeh 1 (by omega) k (by omega)).2
  have c2 := fun X => (d54 (E := E) (st := ⟨st.H ++ X, st.I⟩) (getE_old hm) hbeh 2 (by omega) k (by omega)).2
  have d0 := (d54 (E := E) (st := st) hm hbeh 0 (by omega) k (by omega)).2
  have d1 := (d54 (E := E) (st := st) hm hbeh 1 (by omega) k (by omega)).2
  have d2 := (d54 (E := E) (st := st) hm hbeh 2 (by omega) k (by omega)).2
  simp only [Int.add_zero] at c0 d0
  unfold l34b
  simp [hs, e6, e14, hjl]
  simp [-nxtD_ok2, -sb_some, nxtD_ok2L, sb_someL, Nat.testBit, hs, e6, e10, e14, hjl, hk4, hk5, hk6, c0, c1, c2, d0, d1, d2, storeA, hmw0, hmw1, wrC, fillA, isEff]
  refine WP_loop (fun n s' m' st' => ∃ (kk : Nat) (pv : AV), kk ≤ f.params ∧ n = f.params - kk ∧ s'.length = 128 ∧ m' = m ∧ (∀ i, i = 3 ∨ i = 6 ∨ i = 7 ∨ i = 10 ∨ i = 13 ∨ i = 14 → lk s' i = lk s i) ∧ lk s' 15 = .ptr st.H.length 0 ∧ lk s' 16 = .int .i64 kk ∧
      st'.H[st.H.length]? = some (.cells 82 [.int .i64 f.mark, pv, .int .i64 (b + f.vars.length), .int .i64 (b + f.vars.length + 1), .int .i64 (b + f.vars.length + 2)]) ∧ AccI E st'.I (parL b kk) pv ∧ (∀ j, owns pv = some j → st.I.length ≤ j) ∧ (∀ q, q < st.H.length → st'.H[q]? = st.H[q]?) ∧ st'.H.length = st.H.length + 1 ∧ IOld st.I.length st.I st'.I) f.params (by omega)
    ⟨0, .nils, by omega, by omega, by simp [hs], rfl, fun i hi => by rcases hi with rfl | rfl | rfl | rfl | rfl | rfl <;> simp [hs], by simp [hs], by simp [hs], by simp, .inl ⟨rfl, rfl⟩, fun j e => by simp [owns] at e, fun q hq => by show (_ ++ _)[_]? = _; rw [List.getElem?_append_left hq], by simp, .refl _ _⟩ ?_
  clear hs
  rintro _ s' m' st' ⟨kk, pv, hkk, rfl, hs, rfl, hsl, e15, e16, hW, hacp, howp, hold, hlen, hio⟩
  have hE' : E.Wf st' := hE.of (H := st'.H) (I := st'.I) (by omega) hio.len
  have e6' : lk s' 6 = _ := (hsl 6 (by omega)).trans e6
  have e14' : lk s' 14 = _ := (hsl 14 (by omega)).trans e14
  by_cases hc : kk < f.params
  · refine rnd34c hE' st.I.length hio.len mb st.H.length j hmw0 s' hs fs f hg (.sl none fs.length (encFs fs)) nx rv pv _ _ _ _ bs o b hb (by omega) kk hc hpl e6' (by rw [hsl 10 (by omega)]; exact e10) e14' e15 e16 (by rw [hold mb hml]; exact hm) hW hacp howp m' k _ ?_
    intro s2 st2 pv' r1 r2 r3 r4 r5 r6 r7 r8 r9
    exact ⟨_, by omega, kk + 1, pv', by omega, rfl, r1, rfl, fun i hi => by rw [r2 i (by omega)]; exact hsl i hi, by rw [r2 15 (by omega)]; exact e15, r3, r4, r5, r6, fun q hq => by rw [r7 q (by omega)]; exact hold q hq, by omega, hio.trans r9⟩
  have : kk = f.params := by omega
  subst this
  have hV' : st'.H[V]? = some (.cells 49 [sets, fv, zz]) := by rw [hold V hVl]; exact hV
  have hac2 : AccX E st'.I rs fv := hac.old hac.ownLt hio
  have hfin := hacp.fin0
  have hpo := hacp.one
  have hpc := hacp.cells
  have hpl2 := parL_len b f.params
  rw [hpl2] at hfin
  obtain ⟨v', I', happ, hac', hio', how'⟩ := hac2.app (m := m0) hE'.rom (by have := hio.len; omega) how hrl st'.H (fsF b f) 0
  have happ : appA E ⟨st'.H, st'.I⟩ 5 56 fv (.sl none 1 (fsF b f).enc) = some (v', ⟨st'.H, I'⟩) := happ
  have hvo := hac'.one
  have hvc := hac'.cells
  simp only [fsF, FS.enc, hpl2] at happ
  have e13' : lk s' 13 = .ptr V 0 := by rw [hsl 13 (by omega)]; exact e13
  unfold l34c
  simp [hs, e6', e14', e16, hjl, hp, hp2, hp3]
  simp [hs, e13', e15, hV', hW, fillA, wrC, hfin, happ, storeA, hmwV, hvo, hvc, hpo]
  simp [hs, e14', hwj]
  refine hQ _ _ v' (by simp [hs]) (fun i hi => ?_) (by simp [hs]) ?_ hac' how' (fun q hq hn => ?_) (by simp; omega) ((hio.le hm0).trans hio')
  · rw [← hsl i (by omega)]
    rcases hi with rfl | rfl | rfl | rfl | rfl <;> simp [hs]
  · show (List.set _ _ _)[_]? = _
    rw [List.getElem?_set_self (by omega)]
  · show (List.set _ _ _)[_]? = _
    rw [List.getElem?_set_ne (Ne.symm hn)]; exact hold q hq
structure C34 (st0 : St) (q : T) (fs : List Fn) (bv : AV) (s : List AV) (st : St) : Prop where
 sl : s.length = 128
 e3 : lk s 3 = .ptr (st0.H.length + 1) 0
 e6 : lk s 6 = .sl none fs.length (encFs fs)
 e7 : lk s 7 = .ptr (st0.H.length + 2) 0
 e10 : lk s 10 = .ptr (st0.H.length + 3) 0
 h1 : st.H[st0.H.length + 1]? = some (.cells 49 [.int .i64 0, .nils, .nils])
 h2 : st.H[st0.H.length + 2]? = some (.cells 24 q.enc)
 h3 : st.H[st0.H.length + 3]? = some (.cells 90 [.sl none fs.length (encFs fs), bv, .int .i64 0, .nils])
 old : ∀ j, j < st0.H.length → st.H[j]? = st0.H[j]?
 io : IOld st0.I.length st0.I st.I
theorem C34.len {st0 q fs bv s st} (h : C34 st0 q fs bv s st) : st0.H.length + 4 ≤ st.H.length := by have := (List.getElem?_eq_some_iff.1 h.h3).1; omega
theorem C34.next {st0 q fs bv s st s' st'} (h : C34 st0 q fs bv s st) (hs : s'.length = 128) (hsl : ∀ i, i = 3 ∨ i = 6 ∨ i = 7 ∨ i = 10 → lk s' i = lk s i) (hH : ∀ j, j < st0.H.length + 4 → st'.H[j]? = st.H[j]?) (hI : IOld st0.I.length st.I st'.I) : C34 st0 q fs bv s' st' :=
 ⟨hs, (hsl 3 (by omega)).trans h.e3, (hsl 6 (by omega)).trans h.e6, (hsl 7 (by omega)).trans h.e7, (hsl 10 (by omega)).trans h.e10, (hH _ (by omega)).trans h.h1, (hH _ (by omega)).trans h.h2, (hH _ (by omega)).trans h.h3, fun j hj => (hH j (by omega)).trans (h.old j hj), h.io.trans hI⟩
theorem C34.wf {E : Env} {st0 q fs bv s st} (hE : E.Wf st0) (h : C34 st0 q fs bv s st) : E.Wf st := hE.of (H := st.H) (I := st.I) (by have := h.len; omega) h.io.len
theorem f34e {E : Env} {st0 st : St} (hE : E.Wf st0) (q : T) (fs : List Fn) (bs : List Int) (o : Option Nat) (s : List AV) (h : C34 st0 q fs (.sl o bs.length (bs.map (.int .i64))) s st) (V : Nat) (hV0 : st0.H.length + 4 ≤ V) (e13 : lk s 13 = .ptr V 0) (sets : Int) (fv : AV) (F : List FS)
    (hV : st.H[V]? = some (.cells 49 [.int .i64 sets, fv, .nils])) (hac : AccX E st.I F fv) (how : ∀ j, owns fv = some j → st0.I.length ≤ j) (hF0 : F ≠ []) (hb0 : BehA fs bs 0 (behV fs bs 0)) (hqw : q.wt ≤ 1000000000) (hvs : ∀ G ∈ fs, G.vars.length ≤ 500) (hRD : RD fs bs 0 q) (k : Nat) (hk : 20 * q.wt + 1200 ≤ k) :
    WP (aCall prog k) E k none y34e s [] st (endQ res33 (Pur st0 (rulV (fs, (sets, F, rT fs bs q 0 0 (behV fs bs 0 + 2) true), 0, 0)))) := by
  obtain ⟨hs, e3, e6, e7, e10, h1, h2, h3, hold, hio⟩ := h
  have hVl := uB hV
  have hEs : E.Wf st := hE.of (H := st.H) (I := st.I) (by omega) hio.len
  have hmw := mayWrite_new hE
  have hmw1 : ∀ x y, mayWrite E (st0.H.length + 1) x y = true := fun x y => hmw _ _ _ (by omega)
  have hmwV : ∀ x y, mayWrite E V x y = true := fun x y => hmw _ _ _ (by omega)
  have hS : DkS E (st0.H.length + 3) fs bs o none 0 [] .nils st := ⟨hEs, by have := hE.base; omega, by have := hE.rob; omega, ⟨h3, .inl ⟨rfl, rfl⟩⟩, by simp⟩
  have hcw := count_wt q
  have c55 := spec55 q.wt q (Nat.le_refl _) (by omega) hS hvs (behV fs bs 0 + 2) 0 true (Int.le_refl _) (by omega) (by simp; omega) hRD k (by omega)
  have c54 := (d54 (E := E) (st := st) h3 hb0 2 (by omega) k (by omega)).2
  obtain ⟨i, rfl, hi1, hi2⟩ : ∃ i, fv = .sl (some i) F.length (encFS F) ∧ E.rom ≤ i ∧ st.I[i]? = some (F.length, 5) := by
    rcases hac with ⟨e, -⟩ | ⟨-, i, x⟩
    · exact absurd e hF0
    · exact ⟨i, x⟩
  have hi3 := how i rfl
  have hi4 : ¬ i < st0.I.length := by omega
  have hqe := T.enc_eq q
  rw [hqe] at h2 c55
  unfold y34e
  simp only [Int.natCast_zero, Bool.not_true] at c55 c54
  simp [-nxtD_ok2, -sb_some, nxtD_ok2L, sb_someL, Nat.testBit, hs, e3, e6, e7, e10, e13, h2, hV, c54, fillA, wrC, isEff]
  refine obP_intro c55 fun p hp => ?_
  obtain ⟨r, st9⟩ := p
  obtain ⟨r1, r2⟩ := hp
  simp only at r1
  subst r1
  have r2 : DkTo E (st0.H.length + 3) (.sl none fs.length (encFs fs)) (.sl o bs.length (bs.map (.int .i64))) .nils st st9 (0 + (q.count : Nat)) ([] ++ rT fs bs q 0 0 (behV fs bs 0 + 2) true) := r2
  obtain ⟨⟨rv', ⟨z1, z2⟩, z3⟩, z4, z5, z6⟩ := r2
  have zV : st9.H[V]? = _ := (z4 V hVl (by omega)).trans hV
  have zL : st9.H[st0.H.length + 1]? = _ := (z4 _ (by omega) (by omega)).trans h1
  have hro := z2.one
  have hrc := z2.cells
  have hrf : rv'.fin st0.I.length = .sl none (rT fs bs q 0 0 (behV fs bs 0 + 2) true).length (encR (rT fs bs q 0 0 (behV fs bs 0 + 2) true)) := by
    rcases z2 with ⟨e, rfl⟩ | ⟨j, rfl, hj, hx⟩
    · simp only [List.nil_append] at e; rw [e]; rfl
    · have : ¬ j < st0.I.length := by
        rcases z3 with z3 | ⟨j', z3, z3'⟩
        · simp [owns] at z3
        · simp [owns] at z3; have := hio.len; omega
      simp [this, encR_fin]
  have n1 : V ≠ st0.H.length + 1 := by omega
  have hl9 : st0.H.length + 1 < st9.H.length := by omega
  have a1 : ∀ x, (st9.H.set V x)[st0.H.length + 1]? = some (.cells 49 [.int .i64 0, .nils, .nils]) := fun x => by rw [List.getElem?_set_ne n1]; exact zL
  have a2 : ∀ x, (st9.H.set V x)[V]? = some x := fun x => List.getElem?_set_self (by omega)
  have a3 : ∀ x y, ((st9.H.set V x).set (st0.H.length + 1) y)[st0.H.length + 1]? = some y := fun x y => List.getElem?_set_self (by simp; omega)
  have hg : ∀ x y, Grow st0 ⟨(st9.H.set V x).set (st0.H.length + 1) y, st9.I⟩ := fun x y => .of33 (fun j hj => by
    show (List.set _ _ _)[_]? = _
    rw [List.getElem?_set_ne (by omega), List.getElem?_set_ne (by omega), z4 j (by omega) (by omega)]; exact hold j hj) (by simp; omega) (hio.trans ⟨z6.len, fun j x _ e => z6.get j x nofun e⟩)
  simp [Nat.testBit, hs, isEff, e10, e13, z1, zV, storeA, hmwV, hro, hrc, wrC]
  simp [Nat.testBit, hs, e3, e6, e13, a1, a2, a3, storeA, hmw1, hro, hrc, wrC, isEff]
  exact ⟨_, rfl, hg _ _, by simp [rulV, encFS_fin, hrf, hi4]⟩
theorem f34d {E : Env} {st0 st : St} (hE : E.Wf st0) (q : T) (fs : List Fn) (a : Int) (ha : 0 ≤ a ∧ a ≤ 10000000000) (hfl : fs.length ≤ 1000) (hf0 : 0 < fs.length) (o : Option Nat) (s : List AV) (h : C34 st0 q fs (.sl o (baseL a fs).length ((baseL a fs).map (.int .i64))) s st) (V : Nat) (hV0 : st0.H.length + 4 ≤ V) (e13 : lk s 13 = .ptr V 0) (sets : Int)
    (hV : st.H[V]? = some (.cells 49 [.int .i64 sets, .nils, .nils])) (hqw : q.wt ≤ 1000000000) (hvs : ∀ G ∈ fs, G.vars.length ≤ 500) (hps : ∀ G ∈ fs, G.params ≤ 500) (hb0 : BehA fs (baseL a fs) 0 (behV fs (baseL a fs) 0)) (hRD : RD fs (baseL a fs) 0 q) (k : Nat) (hk : 20 * q.wt + 2000 ≤ k) :
    WP (aCall prog k) E k none y34d s [] st (endQ res33 (Pur st0 (rulV (fs, (sets, fsL a fs, rT fs (baseL a fs) q 0 0 (behV fs (baseL a fs) 0 + 2) true), 0, 0)))) := by
  have hmwV : ∀ x y, mayWrite E V x y = true := fun x y => mayWrite_new hE _ _ _ (by omega)
  unfold y34d
  simp [h.sl, h.e6]
  refine WP_loop (fun n s' m' st' => ∃ (j : Nat) (fv : AV), j ≤ fs.length ∧ n = fs.length - j ∧ m' = [] ∧ C34 st0 q fs (.sl o (baseL a fs).length ((baseL a fs).map (.int .i64))) s' st' ∧ lk s' 13 = .ptr V 0 ∧ lk s' 14 = .int .i64 j ∧
      st'.H[V]? = some (.cells 49 [.int .i64 sets, fv, .nils]) ∧ AccX E st'.I (fsL a (fs.take j)) fv ∧ (∀ j, owns fv = some j → st0.I.length ≤ j)) fs.length (by omega)
    ⟨0, .nils, by omega, by omega, rfl, h.next (by simp [h.sl]) (fun i hi => by rcases hi with rfl | rfl | rfl | rfl <;> simp [h.sl]) (fun _ _ => rfl) (.refl _ _), by simp [h.sl, e13], by simp [h.sl], hV, .inl ⟨rfl, rfl⟩, fun j e => by simp [owns] at e⟩ ?_
  rintro _ s' m' st' ⟨j, fv, hj, rfl, rfl, hC, e13, e14, hV, hac, how⟩
  clear h
  by_cases hc : j < fs.length
  · obtain ⟨f, hg⟩ : ∃ f, fs[j]? = some f := ⟨_, List.getElem?_eq_getElem hc⟩
    have hfm := List.mem_of_getElem? hg
    have hbe := baseE_le fs a j hvs
    refine rnd34b (hC.wf hE) st0.I.length hC.io.len (st0.H.length + 3) V hmwV s' hC.sl fs (baseL a fs) o (.int .i64 0) .nils fv (.int .i64 sets) .nils _ j f hg (by omega) (baseE a (fs.take j)) (baseL_at fs a j hc) (by omega) (by have := hps f hfm; omega) (by have := hvs f hfm; omega) hC.e6 hC.e10 e13 e14 hC.h3 hV hac how (by rw [fsL_len]; simp; omega) _ k (by omega) _ ?_
    intro s2 st2 fv' r1 r2 r3 r4 r5 r6 r7 r8 r9
    have hl := hC.len
    exact ⟨_, by omega, j + 1, fv', by omega, rfl, rfl, hC.next r1 (fun i hi => r2 i (by omega)) (fun q hq => r7 q (by omega) (by omega)) r9, by rw [r2 13 (by omega)]; exact e13, r3, r4, by rw [fsL_snoc fs a j f hg]; exact r5, r6⟩
  have : j = fs.length := by omega
  subst this
  rw [List.take_length] at hac
  unfold l34b
  simp [hC.sl, hC.e6, e14]
  refine f34e hE q fs (baseL a fs) o _ (hC.next (by simp [hC.sl]) (fun i hi => by rcases hi with rfl | rfl | rfl | rfl <;> simp [hC.sl]) (fun _ _ => rfl) (.refl _ _)) V hV0 (by simp [hC.sl, e13]) sets fv (fsL a fs) hV hac how ?_ hb0 hqw hvs hRD k (by omega)
  intro e
  have := fsL_len a fs
  rw [e] at this
  simp at this; omega
theorem f34c {E : Env} {st0 st : St} (hE : E.Wf st0) (q : T) (fs : List Fn) (a : Int) (ha : 0 ≤ a ∧ a ≤ 10000000000) (hfl : fs.length ≤ 1000) (hf0 : 0 < fs.length) (o : Option Nat) (s : List AV) (h : C34 st0 q fs (.sl o (baseL a fs).length ((baseL a fs).map (.int .i64))) s st) (e11 : lk s 11 = .int .i64 (baseE a fs))
  (hqw : q.wt ≤ 1000000000) (hvs : ∀ G ∈ fs, G.vars.length ≤ 500) (hps : ∀ G ∈ fs, G.params ≤ 500) (hb0 : BehA fs (baseL a fs) 0 (behV fs (baseL a fs) 0)) (hRD : RD fs (baseL a fs) 0 q) (k : Nat) (hk : 20 * q.wt + 2000 ≤ k) :
  WP (aCall prog k) E k none y34c s [] st (endQ res33 (Pur st0 (rulV (if 100000 < baseE a fs + 9 then ([], (0, [], []), 0, 52) else (fs, (baseE a fs + 9, fsL a fs, rT fs (baseL a fs) q 0 0 (behV fs (baseL a fs) 0 + 2) true), 0, 0))))) := by
 have hEs := h.wf hE
 have hl := h.len
 have hmw := mayWrite_new hEs
 have hmw1 : ∀ x y, mayWrite E (st0.H.length + 1) x y = true := fun x y => mayWrite_new hE _ _ _ (by omega)
 have hbe := baseE_le fs a fs.length hvs
 rw [List.take_length] at hbe
 have hw9 := wrap64 (n := baseE a fs + 9) (by omega)
 by_cases hc : 100000 < baseE a fs + 9
 ·rw [if_pos hc]
  have a1 := h.h1
  have a3 : ∀ y, (st.H.set (st0.H.length + 1) y)[st0.H.length + 1]? = some y := fun y => List.getElem?_set_self (by omega)
  have hg : ∀ y, Grow st0 ⟨st.H.set (st0.H.length + 1) y, st.I⟩ := fun y => .of33 (fun j hj => by
   show (List.set _ _ _)[_]? = _
   rw [List.getElem?_set_ne (by omega)]; exact h.old j hj) (by simp; omega) h.io
  unfold y34c
  simp [h.sl, h.e3, e11, hw9, fillA, wrC, storeA, hmw, hc, a1, hmw1, a3]
  exact ⟨_, rfl, hg _, by simp [rulV, encFS, encR, encFs]⟩
 ·rw [if_neg hc]
  unfold y34c
  simp [h.sl, h.e3, e11, hw9, fillA, wrC, storeA, hmw, hc]
  refine f34d hE q fs a ha hfl hf0 o _ ?_ st.H.length hl ?_ _ ?_ hqw hvs hps hb0 hRD k hk
  ·exact h.next (by simp [h.sl]) (fun i hi => by rcases hi with rfl | rfl | rfl | rfl <;> simp [h.sl]) (fun j hj => by show (_ ++ _)[_]? = _; rw [List.getElem?_append_left (by omega)]) (.refl _ _)
  ·simp [h.sl]
  ·simp
theorem f34b {E : Env} {st0 st : St} (hE : E.Wf st0) (q : T) (fs : List Fn) (a : Int) (ha : 0 ≤ a ∧ a ≤ 10000000000) (hfl : fs.length ≤ 1000) (hf0 : 0 < fs.length) (s : List AV) (h : C34 st0 q fs .nils s st) (e11 : lk s 11 = .int .i64 a)
    (hqw : q.wt ≤ 1000000000) (hvs : ∀ G ∈ fs, G.vars.length ≤ 500) (hps : ∀ G ∈ fs, G.params ≤ 500) (hb0 : BehA fs (baseL a fs) 0 (behV fs (baseL a fs) 0)) (hRD : RD fs (baseL a fs) 0 q) (k : Nat) (hk : 20 * q.wt + 2000 ≤ k) :
    WP (aCall prog k) E k none y34b s [] st (endQ res33 (Pur st0 (rulV (if 100000 < baseE a fs + 9 then ([], (0, [], []), 0, 52) else (fs, (baseE a fs + 9, fsL a fs, rT fs (baseL a fs) q 0 0 (behV fs (baseL a fs) 0 + 2) true), 0, 0))))) := by
  have hmw3 : ∀ x y, mayWrite E (st0.H.length + 3) x y = true := fun x y => mayWrite_new hE _ _ _ (by omega)
  unfold y34b
  simp [h.sl, h.e6]
  refine WP_loop (fun n s' m' st' => ∃ (j : Nat) (bv : AV), j ≤ fs.length ∧ n = fs.length - j ∧ m' = [] ∧ C34 st0 q fs bv s' st' ∧ lk s' 11 = .int .i64 (baseE a (fs.take j)) ∧ lk s' 12 = .int .i64 j ∧
      AccI E st'.I (baseL a (fs.take j)) bv ∧ (∀ j, owns bv = some j → st0.I.length ≤ j)) fs.length (by omega)
    ⟨0, .nils, by omega, by omega, rfl, h.next (by simp [h.sl]) (fun i hi => by rcases hi with rfl | rfl | rfl | rfl <;> simp [h.sl]) (fun _ _ => rfl) (.refl _ _), by simp [h.sl, e11, baseE], by simp [h.sl], .inl ⟨rfl, rfl⟩, fun j e => by simp [owns] at e⟩ ?_
  rintro _ s' m' st' ⟨j, bv, hj, rfl, rfl, hC, e11, e12, hac, how⟩
  clear h
  by_cases hc : j < fs.length
  · obtain ⟨f, hg⟩ : ∃ f, fs[j]? = some f := ⟨_, List.getElem?_eq_getElem hc⟩
    have hfm := List.mem_of_getElem? hg
    have hbe := baseE_le fs a j hvs
    refine rnd34a (hC.wf hE) st0.I.length hC.io.len (st0.H.length + 3) hmw3 s' hC.sl fs _ _ bv (.int .i64 0) .nils j f hg (by omega) hC.e6 hC.e10 e11 e12 hC.h3 hac how (by rw [baseL_len]; simp; omega) (by omega) (hvs f hfm) _ k _ ?_
    intro s2 st2 bv' r1 r2 r3 r6 r7 r8 r9 r10 r11 r12
    have hl := hC.len
    refine ⟨_, by omega, j + 1, bv', by omega, rfl, rfl, ?_, by rw [baseE_snoc fs a j f hg]; exact r3, r6, by rw [baseL_snoc fs a j f hg]; exact r8, r9⟩
    exact ⟨r1, (r2 3 (by omega)).trans hC.e3, (r2 6 (by omega)).trans hC.e6, (r2 7 (by omega)).trans hC.e7, (r2 10 (by omega)).trans hC.e10, by rw [r10 _ (by omega)]; exact hC.h1, by rw [r10 _ (by omega)]; exact hC.h2, r7, fun i hi => by rw [r10 i (by omega)]; exact hC.old i hi, hC.io.trans r12⟩
  have : j = fs.length := by omega
  subst this
  rw [List.take_length] at hac e11
  have hbl := baseL_len a fs
  obtain ⟨i, rfl⟩ : ∃ i, bv = .sl (some i) (baseL a fs).length ((baseL a fs).map (.int .i64)) := by
    rcases hac with ⟨e, -⟩ | ⟨-, i, e, -, -⟩
    · rw [e] at hbl; simp at hbl; omega
    · exact ⟨i, e⟩
  unfold l34a
  simp [hC.sl, hC.e6, e12]
  exact f34c hE q fs a ha hfl hf0 (some i) _ (hC.next (by simp [hC.sl]) (fun i hi => by rcases hi with rfl | rfl | rfl | rfl <;> simp [hC.sl]) (fun _ _ => rfl) (.refl _ _)) (by simp [hC.sl, e11]) hqw hvs hps hb0 hRD k hk
theorem f34 (t : T) (ht : t.ok) (hw : t.wt ≤ 1000000000) (hqw : (resolve t).2.1.wt ≤ 1000000000) (hfl : (resolve t).1.length ≤ 1000) (hf0 : (resolve t).2.2.2 = 0 → 0 < (resolve t).1.length) (hvs : ∀ G ∈ (resolve t).1, G.vars.length ≤ 500) (hps : ∀ G ∈ (resolve t).1, G.params ≤ 500)
  (hb0 : (resolve t).2.2.2 = 0 → BehA (resolve t).1 (baseL ((resolve t).2.1.count : Nat) (resolve t).1) 0 (behV (resolve t).1 (baseL ((resolve t).2.1.count : Nat) (resolve t).1) 0)) (hRD : (resolve t).2.2.2 = 0 → RD (resolve t).1 (baseL ((resolve t).2.1.count : Nat) (resolve t).1) 0 (resolve t).2.1) (k : Nat) (hk : 20 * t.wt + 20 * (resolve t).2.1.wt + 10000 ≤ k) : PureC k 34 [.agg t.enc] (rulV (rulesM t)) := by
 intro E st hE
 obtain ⟨k, rfl⟩ := uK (k := k) (by omega)
 have hmw := mayWrite_new hE
 have hmw1 : ∀ j x y, mayWrite E (st.H.length + j) x y = true := fun j x y => hmw _ _ _ (by omega)
 have hrr : (resV (resolve t)).refs = [] := by simp [resV, encFs_refs, T.enc_refs]
 have c21 := fun st3 (h : E.Wf st3) => (f21 t ht (by omega) k (by omega)).full (E := E) (st := st3) hrr h
 have hcw := count_wt (resolve t).2.1
 unfold rulesM
 generalize resolve t = R at *
 obtain ⟨fs, q, x, y⟩ := R
 simp only at *
 have c53 := fun st3 (h : E.Wf st3) => f53 q.wt q (Nat.le_refl _) (by omega) E st3 k h (by omega)
 obtain ⟨op, s0, nn, l, line⟩ := t
 have hqe := T.enc_eq q
 simp only [T.enc, resV] at c21
 rw [hqe] at c21 c53
 refine call_in1 (c0 := y34a) rfl rfl (by decide) fun s hs e0 => ?_
 have hE1 : ∀ y, E.Wf ⟨st.H ++ y, st.I⟩ := fun y => hE.of (by simp) (by simp)
 unfold y34a
 by_cases hy : y = 0
 ·subst hy
  simp [hs, e0, c21 _ (hE1 _), storeA, hmw1, wrC, fillA]
  refine obP_intro (c53 _ (hE1 _)) fun p hp => ?_
  obtain ⟨r, st2⟩ := p
  obtain ⟨r1, r2⟩ := hp
  simp only at r1
  subst r1
  simp [hs]
  have hp := r2.H
  refine f34b hE q fs (q.count : Nat) (by omega) hfl (hf0 rfl) _ ?_ ?_ hqw hvs hps (hb0 rfl) (hRD rfl) k (by omega)
  ·exact ⟨by simp [hs], by simp [hs], by simp [hs], by simp [hs], by simp [hs], pfx_get r2.H (by simp), pfx_get r2.H (by simp [hqe]), pfx_get r2.H (by simp), fun j hj => by (obtain ⟨y, hy⟩ := r2.H; rw [← hy, List.append_assoc, List.getElem?_append_left hj]), ⟨r2.I.length_le, fun j x _ e => pfx_get r2.I e⟩⟩
  ·simp [hs]
 ·simp [hs, e0, c21 _ (hE1 _), storeA, hmw1, wrC, fillA, hy]
  exact ⟨Grow.appH _ _, by simp [rulV, encFS, encR, encFs]⟩
def mks (l : List T) : List Int := (l.filter fun t => isMk t.op).map (·.n)
structure SetsOk (fs : List Fn) (bs : List Int) (a S : Int) : Prop where
 one : 1 ≤ a
 base : ∀ (f : Nat) (G : Fn), fs[f]? = some G → ∃ b, bs[f]? = some b ∧ a ≤ b ∧ b + G.vars.length + 2 < S
theorem SetsOk.var {fs bs a S} (h : SetsOk fs bs a S) {n : Int} {s : ByteArray} (hv : VarOk fs n s) : a ≤ vset bs n ∧ vset bs n < S := by
 obtain ⟨h0, G, hG, hs⟩ := hv
 obtain ⟨b, hb, h1, h2⟩ := h.base _ G hG
 have h3 : n.tdiv 1000 = ((n / 1000).toNat : Int) := by rw [Int.tdiv_eq_ediv_of_nonneg h0]; omega
 have h4 : n.tmod 1000 = n % 1000 := Int.tmod_eq_emod_of_nonneg h0
 have h5 := uB hs
 simp only [vset, h3, Int.toNat_natCast, hb, Option.getD_some, h4]
 omega
theorem SetsOk.beh {fs bs a S} (h : SetsOk fs bs a S) {f : Nat} (hf : f < fs.length) : a ≤ behV fs bs f ∧ behV fs bs f + 2 < S := by
 obtain ⟨G, hG⟩ : ∃ G, fs[f]? = some G := ⟨_, List.getElem?_eq_getElem hf⟩
 obtain ⟨b, hb, h1, h2⟩ := h.base _ G hG
 simp only [behV, hb, hG, Option.getD_some, Option.map_some]
 omega
theorem baseE_mono : ∀ (l : List Fn) (a : Int) (j : Nat) (f : Fn), l[j]? = some f → baseE a (l.take j) + f.vars.length + 2 < baseE a l
 | [], a, j, f, h => by simp at h
 | g :: r, a, 0, f, h => by
  simp at h; subst h
  have : ∀ (l : List Fn) (b : Int), b ≤ baseE b l := fun l => by
   induction l with
   | nil => intro b; simp [baseE]
   | cons g r ih => intro b; simp only [baseE]; have := ih (b + (g.vars.length + 3 : Nat)); omega
  have := this r (a + (g.vars.length + 3 : Nat))
  simp only [List.take_zero, baseE]; omega
 | g :: r, a, j + 1, f, h => by
  simp only [List.take_succ_cons, baseE]
  exact baseE_mono r _ j f (by simpa using h)
theorem baseE_ge : ∀ (l : List Fn) (a : Int) (j : Nat), a ≤ baseE a (l.take j)
 | [], a, j => by simp [baseE]
 | g :: r, a, 0 => by simp [baseE]
 | g :: r, a, j + 1 => by
  have := baseE_ge r (a + (g.vars.length + 3 : Nat)) j
  simp only [List.take_succ_cons, baseE]; omega
theorem SetsOk.of (fs : List Fn) (a : Int) (ha : 1 ≤ a) : SetsOk fs (baseL a fs) a (baseE a fs) :=
 ⟨ha, fun f G hG => ⟨_, baseL_at fs a f (uB hG), baseE_ge fs a f, baseE_mono fs a f G hG⟩⟩
mutual
def linT (L : Int) : T → T
 | .mk op s n l _ => .mk op s n (linL L l) L
def linL (L : Int) : List T → List T
 | [] => []
 | t :: r => linT L t :: linL L r
end
def linW (L : Int) (w : Wk) : Wk := { w with line := if w.e = 0 then 0 else L }
@[simp] theorem linW_e (L w) : (linW L w).e = w.e := rfl
@[simp] theorem linW_fs (L w) : (linW L w).fs = w.fs := rfl
@[simp] theorem linW_mark (L w) : (linW L w).mark = w.mark := rfl
@[simp] theorem linT_op (L t) : (linT L t).op = t.op := by cases t; rfl
@[simp] theorem linT_s (L t) : (linT L t).s = t.s := by cases t; rfl
def rn (s : ByteArray) : ByteArray := s ++ ⟨#[95]⟩
theorem rn_inj {a b : ByteArray} (h : rn a = rn b) : a = b := by
 have h1 : (rn a).data.toList = (rn b).data.toList := by rw [h]
 simp [rn] at h1
 obtain ⟨⟨a⟩⟩ := a
 obtain ⟨⟨b⟩⟩ := b
 simp at h1
 rw [h1]
@[simp] theorem rn_eq (a b : ByteArray) : (rn a = rn b) = (a = b) := propext ⟨rn_inj, fun h => by rw [h]⟩
def rnS (op : Int) (s : ByteArray) : ByteArray := if isVn op = true ∨ (op = 10 ∧ s ≠ ⟨#[]⟩) then rn s else s
mutual
def renT : T → T
 | .mk op s n l x => .mk op (rnS op s) n (renL l) x
def renL : List T → List T
 | [] => []
 | t :: r => renT t :: renL r
end
def renF (f : Fn) : Fn := { f with name := if f.name = ⟨#[]⟩ then ⟨#[]⟩ else rn f.name, vars := f.vars.map rn }
def renW (w : Wk) : Wk := { w with fs := w.fs.map renF }
@[simp] theorem renW_e (w) : (renW w).e = w.e := rfl
@[simp] theorem renW_mark (w) : (renW w).mark = w.mark := rfl
@[simp] theorem renW_fs (w) : (renW w).fs = w.fs.map renF := rfl
@[simp] theorem renT_op (t) : (renT t).op = t.op := by cases t; rfl
theorem isDec_vn {op : Int} (h : isDec op = true) : isVn op = true := by
 simp only [isDec, Bool.or_eq_true, decide_eq_true_eq] at h
 rcases h with ((rfl | rfl) | rfl) | rfl <;> rfl
theorem isName_ne {s : ByteArray} (h : isName s = true) : s ≠ ⟨#[]⟩ := by
 rintro rfl
 simp [isName] at h
def NE (l : List ByteArray) : Prop := (⟨#[]⟩ : ByteArray) ∉ l
theorem NE.withS {l : List ByteArray} {s : ByteArray} (h : NE l) (hs : s ≠ ⟨#[]⟩) : NE (withS l s) := by
 unfold NE YP.withS at *
 split
 ·exact h
 ·simp only [List.mem_append, List.mem_singleton, not_or]
  exact ⟨h, fun e => hs e.symm⟩
mutual
theorem decT_ne : ∀ (t : T) (o : List ByteArray), t.wf → NE o → NE (decT t o)
 | .mk op s n l x, o, hw, ho => by
  simp only [decT]
  have h1 : NE (if isDec op = true then withS o s else o) := by
   split
   ·rename_i hd
    exact ho.withS (isName_ne (hw.2.2.1 (isDec_vn hd)))
   ·exact ho
  split
  ·exact h1
  ·exact decL_ne l _ hw.2.2.2.2 h1
theorem decL_ne : ∀ (l : List T) (o : List ByteArray), T.wfL l → NE o → NE (decL l o)
 | [], o, _, ho => ho
 | t :: r, o, hw, ho => decL_ne r _ hw.2 (decT_ne t o hw.1 ho)
end
theorem params_ne : ∀ (l : List T) (o : List ByteArray), (∀ u ∈ l, u.op = 1 ∧ u.wf) → NE o → NE (l.foldl (fun o x => withS o x.s) o)
 | [], o, _, ho => ho
 | t :: r, o, h, ho => by
  simp only [List.foldl_cons]
  refine params_ne r _ (fun u hu => h u (by simp [hu])) (ho.withS ?_)
  obtain ⟨h1, h2⟩ := h t (by simp)
  obtain ⟨op, s, n, l, x⟩ := t
  simp only [T.op_mk] at h1
  subst h1
  exact isName_ne (h2.2.2.1 rfl)
theorem fn_ne (op : Int) (s : ByteArray) (n : Int) (l : List T) (x at_ : Int) (mark : Nat) (hf : isFn op = true) (hw : (T.mk op s n l x).wf) : NE (fnOf' op s l at_ mark).vars := by
 obtain ⟨h1, h2, h3, ⟨h4, -⟩, h5⟩ := hw
 obtain ⟨hl, hp⟩ := h2 hf
 have hb : (l.getLast?.getD default).wf := by
  rw [List.getLast?_eq_some_getLast hl]
  exact T.wfL_mem h5 (List.getLast_mem hl)
 have hps : NE (paramsOf l) := params_ne l.dropLast [] (fun u hu => ⟨hp u hu, T.wfL_mem h5 (List.dropLast_subset l hu)⟩) (by simp [NE])
 unfold fnOf'
 refine decT_ne _ _ hb ?_
 split
 ·rename_i h10
  exact hps.withS h10.2
 ·exact hps
def NEs (fs : List Fn) : Prop := ∀ f ∈ fs, NE f.vars
theorem NEs.app {a : List Fn} {f : Fn} (h : NEs a) (hf : NE f.vars) : NEs (a ++ [f]) := fun g hg => by
 rcases List.mem_append.1 hg with hg | hg
 ·exact h g hg
 ·rw [List.mem_singleton] at hg; subst hg; exact hf
mutual
theorem wT_ne (at_ : Nat) (loop : Bool) : ∀ (t : T) (w : Wk), t.wf → NEs w.fs → NEs (wT at_ loop t w).2.fs
 | .mk op s n l x, w, hw, h => by
  by_cases hwe : w.e ≠ 0
  ·rw [wT_errL _ _ _ _ hwe]; exact h
  simp only [wT, if_neg hwe]
  split
  ·rename_i hf
   split
   ·rw [fail_fsL]; exact h
   ·exact wP_ne w.fs.length l { w with mark := w.mark + 2, fs := w.fs ++ [fnOf' op s l at_ w.mark] } hw.2.2.2.2 (h.app (fn_ne op s n l x at_ w.mark hf hw))
  ·have := wL_ne at_ ((stepN at_ loop op s n x w).2.1 || decide (op = 35)) l (stepN at_ loop op s n x w).2.2 hw.2.2.2.2 (by rw [stepN_fs]; exact h)
   exact this
theorem wL_ne (at_ : Nat) (loop : Bool) : ∀ (l : List T) (w : Wk), T.wfL l → NEs w.fs → NEs (wL at_ loop l w).2.fs
 | [], w, _, h => h
 | t :: r, w, hw, h => wL_ne at_ loop r _ hw.2 (wT_ne at_ loop t w hw.1 h)
theorem wP_ne (me : Nat) : ∀ (l : List T) (w : Wk), T.wfL l → NEs w.fs → NEs (wP me l w).2.fs
 | [], w, _, h => h
 | [t], w, hw, h => by simp only [wP]; exact wT_ne me false t w hw.1 h
 | t :: u :: r, w, hw, h => by simp only [wP]; exact wP_ne me (u :: r) w hw.2 h
end
theorem resolve_ne (t : T) (h : (resolve t).2.2.2 = 0) : NEs (resolve t).1 := by
 obtain ⟨hr, hl, w, hw, he, hres⟩ := resolve_ok t h
 rw [hres]
 refine wT_ne 0 false t w (right_wf hr) ?_
 rw [hw]
 intro f hf
 rw [List.mem_singleton] at hf
 subst hf
 exact decT_ne t [] (right_wf hr) (by simp [NE])
theorem ixS_none (s : ByteArray) (l : List ByteArray) (h : s ∉ l) : ixS s l = none := by
 have := ixS_mem s l
 simp only [h, decide_false] at this
 simpa using this
theorem nd_withS {l : List ByteArray} {s : ByteArray} (h : l.Nodup) : (withS l s).Nodup := by
 unfold withS
 split
 ·exact h
 ·rename_i hs
  rw [List.nodup_append]
  refine ⟨h, by simp, fun a ha b hb => ?_⟩
  rw [List.mem_singleton] at hb
  subst hb
  exact fun e => hs (e ▸ ha)
mutual
theorem decT_nd : ∀ (t : T) (o : List ByteArray), o.Nodup → (decT t o).Nodup
 | .mk op s n l x, o, ho => by
  simp only [decT]
  have h1 : (if isDec op = true then withS o s else o).Nodup := by
   split
   ·exact nd_withS ho
   ·exact ho
  split
  ·exact h1
  ·exact decL_nd l _ h1
theorem decL_nd : ∀ (l : List T) (o : List ByteArray), o.Nodup → (decL l o).Nodup
 | [], o, ho => ho
 | t :: r, o, ho => decL_nd r _ (decT_nd t o ho)
end
theorem params_nd : ∀ (l : List T) (o : List ByteArray), o.Nodup → (l.foldl (fun o x => withS o x.s) o).Nodup
 | [], o, ho => ho
 | t :: r, o, ho => by
  simp only [List.foldl_cons]
  exact params_nd r _ (nd_withS ho)
theorem fn_nd (op : Int) (s : ByteArray) (l : List T) (at_ : Int) (mark : Nat) : (fnOf' op s l at_ mark).vars.Nodup := by
 unfold fnOf'
 refine decT_nd _ _ ?_
 split
 ·exact nd_withS (params_nd _ _ (by simp))
 ·exact params_nd _ _ (by simp)
def NDs (fs : List Fn) : Prop := ∀ f ∈ fs, f.vars.Nodup
theorem NDs.app {a : List Fn} {f : Fn} (h : NDs a) (hf : f.vars.Nodup) : NDs (a ++ [f]) := fun g hg => by
 rcases List.mem_append.1 hg with hg | hg
 ·exact h g hg
 ·rw [List.mem_singleton] at hg; subst hg; exact hf
mutual
theorem wT_nd (at_ : Nat) (loop : Bool) : ∀ (t : T) (w : Wk), NDs w.fs → NDs (wT at_ loop t w).2.fs
 | .mk op s n l x, w, h => by
  by_cases hwe : w.e ≠ 0
  ·rw [wT_errL _ _ _ _ hwe]; exact h
  simp only [wT, if_neg hwe]
  split
  ·split
   ·rw [fail_fsL]; exact h
   ·exact wP_nd w.fs.length l { w with mark := w.mark + 2, fs := w.fs ++ [fnOf' op s l at_ w.mark] } (h.app (fn_nd op s l at_ w.mark))
  ·exact wL_nd at_ ((stepN at_ loop op s n x w).2.1 || decide (op = 35)) l (stepN at_ loop op s n x w).2.2 (by rw [stepN_fs]; exact h)
theorem wL_nd (at_ : Nat) (loop : Bool) : ∀ (l : List T) (w : Wk), NDs w.fs → NDs (wL at_ loop l w).2.fs
 | [], w, h => h
 | t :: r, w, h => wL_nd at_ loop r _ (wT_nd at_ loop t w h)
theorem wP_nd (me : Nat) : ∀ (l : List T) (w : Wk), NDs w.fs → NDs (wP me l w).2.fs
 | [], w, h => h
 | [t], w, h => by simp only [wP]; exact wT_nd me false t w h
 | t :: u :: r, w, h => by simp only [wP]; exact wP_nd me (u :: r) w h
end
theorem resolve_nd (t : T) (h : (resolve t).2.2.2 = 0) : NDs (resolve t).1 := by
 obtain ⟨hr, hl, w, hw, he, hres⟩ := resolve_ok t h
 rw [hres]
 refine wT_nd 0 false t w ?_
 rw [hw]
 intro f hf
 rw [List.mem_singleton] at hf
 subst hf
 exact decT_nd t [] (by simp)
mutual
def dT (fs : List Fn) (f : Nat) : T → Prop
 | .mk op s n l _ => if isFn op then (op = 41 → InV fs f s) ∧ dB fs n.toNat l else dL fs f l
def dL (fs : List Fn) (f : Nat) : List T → Prop
 | [] => True
 | t :: r => dT fs f t ∧ dL fs f r
def dB (fs : List Fn) (g : Nat) : List T → Prop
 | [] => True
 | t :: r => (r = [] → dT fs g t) ∧ dB fs g r
end
mutual
theorem dT.mono {fs fs' : List Fn} (h : fs <+: fs') : ∀ (t : T) (f : Nat), dT fs f t → dT fs' f t
 | .mk op s n l x, f, g => by
  simp only [dT] at g ⊢
  split at g
  ·rename_i hf
   rw [if_pos hf]
   exact ⟨fun e => (g.1 e).mono h, dB.mono h l _ g.2⟩
  ·rename_i hf
   rw [if_neg hf]
   exact dL.mono h l f g
theorem dL.mono {fs fs' : List Fn} (h : fs <+: fs') : ∀ (l : List T) (f : Nat), dL fs f l → dL fs' f l
 | [], f, _ => trivial
 | t :: r, f, g => ⟨dT.mono h t f g.1, dL.mono h r f g.2⟩
theorem dB.mono {fs fs' : List Fn} (h : fs <+: fs') : ∀ (l : List T) (f : Nat), dB fs f l → dB fs' f l
 | [], f, _ => trivial
 | t :: r, f, g => ⟨fun e => dT.mono h t f (g.1 e), dB.mono h r f g.2⟩
end
mutual
theorem wT_d (at_ : Nat) (loop : Bool) : ∀ (t : T) (w : Wk), at_ < w.fs.length → (∃ out, ∀ s ∈ decT t out, InV w.fs at_ s) → (wT at_ loop t w).2.e = 0 → dT (wT at_ loop t w).2.fs at_ (wT at_ loop t w).1
 | .mk op s n l x, w, ha, hd, he => by
  by_cases hwe : w.e ≠ 0
  ·rw [wT_errL _ _ _ _ hwe] at he; exact absurd he hwe
  simp only [wT, if_neg hwe] at he ⊢
  split at he
  ·rename_i hf
   rw [if_pos hf]
   split at he
   ·exact absurd he (fail_e _ _ _ (by decide))
   ·rename_i hlim
    rw [if_neg hlim]
    have hv := fn_vars op s l at_ w.mark
    have hr := wP_d w.fs.length l { w with mark := w.mark + 2, fs := w.fs ++ [fnOf' op s l at_ w.mark] } (by simp) (fun b hb => by
     obtain ⟨out, ho⟩ := hv.2.1
     rw [hb] at ho
     exact ⟨out, fun y hy => ⟨fnOf' op s l at_ w.mark, by simp, by rw [ho]; exact hy⟩⟩) he
    simp only [dT, if_pos hf, Int.toNat_natCast]
    refine ⟨fun h41 => ?_, hr⟩
    obtain ⟨out, ho⟩ := hd
    refine (ho s ?_).mono ((List.prefix_append w.fs [fnOf' op s l at_ w.mark]).trans (wP_pfx w.fs.length l { w with mark := w.mark + 2, fs := w.fs ++ [fnOf' op s l at_ w.mark] }))
    subst h41
    simp only [decT, if_pos hf]
    rw [if_pos (by rfl)]
    exact withS_self _ _
  ·rename_i hf
   rw [if_neg hf]
   simp only at he ⊢
   have hqf := stepN_fs at_ loop op s n x w
   have hdl : ∃ out, ∀ y ∈ decL l out, InV (stepN at_ loop op s n x w).2.2.fs at_ y := by
    obtain ⟨out, ho⟩ := hd
    simp only [decT, if_neg hf] at ho
    exact ⟨_, fun y hy => by rw [hqf]; exact ho y hy⟩
   have hr := wL_d at_ ((stepN at_ loop op s n x w).2.1 || decide (op = 35)) l _ (by rw [hqf]; exact ha) hdl he
   simp only [dT, if_neg hf]
   exact hr
theorem wL_d (at_ : Nat) (loop : Bool) : ∀ (l : List T) (w : Wk), at_ < w.fs.length → (∃ out, ∀ s ∈ decL l out, InV w.fs at_ s) → (wL at_ loop l w).2.e = 0 → dL (wL at_ loop l w).2.fs at_ (wL at_ loop l w).1
 | [], w, _, _, _ => trivial
 | t :: r, w, ha, hd, he => by
  simp only [wL] at he ⊢
  obtain ⟨out, ho⟩ := hd
  simp only [decL] at ho
  have he1 : (wT at_ loop t w).2.e = 0 := by
   refine Classical.byContradiction fun hc => ?_
   rw [wL_errL _ _ _ _ hc] at he; exact hc he
  have h1 := wT_d at_ loop t w ha ⟨out, fun y hy => ho y (decL_sub _ _ _ hy)⟩ he1
  have hp := wT_pfx at_ loop t w
  have h2 := wL_d at_ loop r _ (Nat.lt_of_lt_of_le ha hp.length_le) ⟨_, fun y hy => (ho y hy).mono hp⟩ he
  exact ⟨dT.mono (wL_pfx at_ loop r _) _ _ h1, h2⟩
theorem wP_d (me : Nat) : ∀ (l : List T) (w : Wk), me < w.fs.length → (∀ b, l.getLast?.getD default = b → ∃ out, ∀ s ∈ decT b out, InV w.fs me s) → (wP me l w).2.e = 0 → dB (wP me l w).2.fs me (wP me l w).1
 | [], w, _, _, _ => trivial
 | [t], w, ha, hd, he => by
  simp only [wP] at he ⊢
  exact ⟨fun _ => wT_d me false t w ha (hd t rfl) he, trivial⟩
 | t :: u :: r, w, ha, hd, he => by
  simp only [wP] at he ⊢
  have h2 := wP_d me (u :: r) w ha (fun b hb => hd b (by simpa using hb)) he
  refine ⟨fun e => ?_, h2⟩
  rcases r with _ | ⟨v, r⟩ <;> simp [wP] at e
end
theorem resolve_d (t : T) (h : (resolve t).2.2.2 = 0) : dT (resolve t).1 0 (resolve t).2.1 := by
 obtain ⟨hr, hl, w, hw, he, hres⟩ := resolve_ok t h
 rw [hres]
 exact wT_d 0 false t w (by rw [hw]; simp) ⟨[], fun s hs => ⟨_, by rw [hw]; rfl, hs⟩⟩ he
mutual
def frE : T → Prop
 | .mk op _ _ l _ => (isFn op = true → 0 < l.length ∧ ∀ j u, l[j]? = some u → if j + 1 = l.length then u.op = 32 else u.op = 1 ∧ u.l = []) ∧ frEL l
def frEL : List T → Prop
 | [] => True
 | t :: r => frE t ∧ frEL r
end
theorem frEL_of : ∀ {l : List T}, (∀ t ∈ l, frE t) → frEL l
 | [], _ => trivial
 | a :: r, h => ⟨h a (by simp), frEL_of fun t ht => h t (by simp [ht])⟩
theorem fit_frE : ∀ (h : Nat) (t : T), fit h t = true → frE t
 | 0, _, e => by simp [fit] at e
 | h + 1, .mk op s n l x, e => by
  simp only [fit, Bool.and_eq_true] at e
  obtain ⟨⟨e1, e2⟩, e3⟩ := e
  have hp := fitL_part _ _ _ _ _ e3
  refine ⟨fun hf => ⟨?_, fun j u hj => ?_⟩, frEL_of fun t ht => fit_frE h t (fitL_mem _ _ _ _ _ e3 t ht)⟩
  ·have hop : op = 10 ∨ op = 41 := by simp [isFn] at hf; omega
   rcases hop with rfl | rfl <;> (simp [okF, formOf, forms] at e1; omega)
  ·obtain ⟨h1, h2⟩ := hp j u hj
   have hop : op = 10 ∨ op = 41 := by simp [isFn] at hf; omega
   simp only [partOK, if_pos hop, Nat.zero_add] at h1
   split at h1
   ·rename_i hl
    rw [if_pos hl]
    exact of_decide_eq_true h1
   ·rename_i hl
    rw [if_neg hl]
    have h1 := of_decide_eq_true h1
    exact ⟨h1, fit_leaf h u h2 h1⟩
mutual
theorem frE_bare : ∀ t : T, frE (bareT t) → frE t
 | .mk op s n l x, h => by
  simp only [bareT, frE] at h ⊢
  obtain ⟨h1, h2⟩ := h
  refine ⟨fun hf => ?_, frEL_bare l h2⟩
  obtain ⟨h3, h4⟩ := h1 hf
  rw [bareL_map] at h3 h4
  simp only [List.length_map] at h3 h4
  refine ⟨h3, fun j u hu => ?_⟩
  have := h4 j (bareT u) (by rw [List.getElem?_map, hu]; rfl)
  rw [bare_op, bare_l, bareL_map] at this
  simpa using this
theorem frEL_bare : ∀ l : List T, frEL (bareL l) → frEL l
 | [], _ => trivial
 | t :: r, h => ⟨frE_bare t h.1, frEL_bare r h.2⟩
end
theorem resolve_frE (t : T) (h : (resolve t).2.2.2 = 0) : frE (resolve t).2.1 := by
 obtain ⟨hr, -⟩ := resolve_ok t h
 refine frE_bare _ ?_
 rw [(resolve_bare t h).1]
 simp only [right, rBlk, Bool.and_eq_true] at hr
 exact fit_frE _ _ hr.2
mutual
theorem RD_of {fs : List Fn} {bs : List Int} (hnd : NDs fs) (hne : NEs fs) : ∀ (t : T) (f : Nat), goodT fs t → frm t → frE t → dT fs f t → RW fs bs f t → RD fs bs f t
 | .mk op s n l x, f, hg, hr, he, hd, hw => by
  simp only [RW] at hw
  simp only [dT] at hd
  simp only [RD]
  by_cases hfn : isFn op = true
  ·rw [if_pos hfn] at hw hd ⊢
   obtain ⟨h1, ⟨g, h2, h3⟩, h4⟩ := hw
   refine ⟨h1, ⟨g, h2, h3⟩, ⟨fun h41 => ?_, fun h10 => ?_⟩, ?_⟩
   ·obtain ⟨G, hG, hs⟩ := hd.1 h41
    have := ixS_mem s G.vars
    rw [decide_eq_true hs] at this
    exact ⟨G, hG, Option.isSome_iff_exists.1 this⟩
   ·obtain ⟨-, F, hF, -⟩ := hg.2.1 hfn
    have hm := List.mem_of_getElem? hF
    exact ⟨F, hF, hnd F hm, fun e => by subst e; exact ixS_none _ _ (hne F hm)⟩
   ·obtain ⟨e1, e2⟩ := he.1 hfn
    exact RDB_of hnd hne l n.toNat e1 e2 hg.2.2 hr.2 he.2 hd.2 h4
  ·rw [if_neg hfn] at hw hd ⊢
   exact ⟨hw.1, fun h37 => by rw [hr.1.throw h37]; exact Nat.one_pos, RDL_of hnd hne l f hg.2.2 hr.2 he.2 hd hw.2⟩
theorem RDL_of {fs : List Fn} {bs : List Int} (hnd : NDs fs) (hne : NEs fs) : ∀ (l : List T) (f : Nat), goodL fs l → frmL l → frEL l → dL fs f l → RWL fs bs f l → RDL fs bs f l
 | [], _, _, _, _, _, _ => trivial
 | t :: r, f, hg, hr, he, hd, hw => ⟨RD_of hnd hne t f hg.1 hr.1 he.1 hd.1 hw.1, RDL_of hnd hne r f hg.2 hr.2 he.2 hd.2 hw.2⟩
theorem RDB_of {fs : List Fn} {bs : List Int} (hnd : NDs fs) (hne : NEs fs) : ∀ (l : List T) (g : Nat), 0 < l.length → (∀ j u, l[j]? = some u → if j + 1 = l.length then u.op = 32 else u.op = 1 ∧ u.l = []) → goodL fs l → frmL l → frEL l → dB fs g l → RWB fs bs g l → RDB fs bs g l
 | [], _, h0, _, _, _, _, _, _ => by simp at h0
 | t :: r, g, h0, h, hg, hr, he, hd, hw => by
  simp only [RDB]
  by_cases hrn : r = []
  ·subst hrn
   have h32 : t.op = 32 := by simpa using h 0 t rfl
   exact .inl ⟨rfl, h32, RD_of hnd hne t g hg.1 hr.1 he.1 (hd.1 rfl) (hw.1 h32)⟩
  ·have hl : 0 < r.length := List.length_pos_iff.2 hrn
   have h1 := h 0 t rfl
   rw [if_neg (by simp; omega)] at h1
   refine .inr ⟨hrn, by rw [h1.1]; decide, ?_, RDB_of hnd hne r g hl (fun j u hj => ?_) hg.2 hr.2 he.2 hd.2 hw.2⟩
   ·obtain ⟨op, s, n, l, x⟩ := t
    obtain ⟨-, h2⟩ := h1
    simp only [T.l_mk] at h2
    subst h2
    rfl
   ·have := h (j + 1) u (by simpa using hj)
    simpa using this
end
theorem rules34 (t : T) (ht : t.ok) (hw : t.wt ≤ 1000000000) (k : Nat) (hk : 40 * t.wt + 10000 ≤ k) : PureC k 34 [.agg t.enc] (rulV (rulesM t)) := by
 have hwt := resolve_wt t
 obtain ⟨h1, h2⟩ := resolve_lims t
 exact f34 t ht hw (by omega) (by omega) (fun h => (resolve_good t h).2.2.2) (fun G hG => by have := (h2 G hG).1; omega) (fun G hG => by have := (h2 G hG).2; omega)
  (fun h => BehA.of ⟨by omega, by have := count_wt (resolve t).2.1; omega⟩ (by omega) (fun G hG => by have := (h2 G hG).1; omega) (resolve_good t h).2.2.2)
  (fun h => RD_of (resolve_nd t h) (resolve_ne t h) _ 0 (resolve_good t h).1 (resolve_frm t h) (resolve_frE t h) (resolve_d t h) (resolve_RW t hw h)) k (by omega)
theorem k24eF : (fun X : ABlk => doCall (aCallF 400) { base := 0, rob := 0, rom := 0 } .full (.fn 24) [.str ⟨#[118, 97, 114, 32, 97, 32, 61, 32, 123, 125]⟩] ⟨[X], []⟩) = fun X : ABlk => some (.ok (.agg [.int .i64 32, .str ⟨#[]⟩, .int .i64 0, .sl none 1 [.int .i64 30, .str ⟨#[97]⟩, .int .i64 0, .sl none 1 [.int .i64 11, .str ⟨#[]⟩, .int .i64 0, .sl none 0 [], .int .i64 1], .int .i64 1], .int .i64 1]), ⟨[X], []⟩) := by kernel_rfl
theorem k24e (X : ABlk) : doCall (aCall prog 400) { base := 0, rob := 0, rom := 0 } .full (.fn 24) [.str ⟨#[118, 97, 114, 32, 97, 32, 61, 32, 123, 125]⟩] ⟨[X], []⟩ = some (.ok (.agg [.int .i64 32, .str ⟨#[]⟩, .int .i64 0, .sl none 1 [.int .i64 30, .str ⟨#[97]⟩, .int .i64 0, .sl none 1 [.int .i64 11, .str ⟨#[]⟩, .int .i64 0, .sl none 0 [], .int .i64 1], .int .i64 1], .int .i64 1]), ⟨[X], []⟩) := by
 have h := congrFun k24eF X
 rw [aCallF_eq] at h
 exact h
theorem k24fF : (fun X Y : ABlk => doCall (aCallF 400) { base := 0, rob := 0, rom := 0 } .full (.fn 24) [.str ⟨#[118, 97, 114, 32, 97, 10, 98]⟩] ⟨[X, Y], []⟩) = fun X Y : ABlk => some (.ok (.agg [.int .i64 32, .str ⟨#[]⟩, .int .i64 0, .sl none 2 [.int .i64 30, .str ⟨#[97]⟩, .int .i64 0, .sl none 0 [], .int .i64 1, .int .i64 31, .str ⟨#[]⟩, .int .i64 0, .sl none 1 [.int .i64 1, .str ⟨#[98]⟩, .int .i64 0, .sl none 0 [], .int .i64 2], .int .i64 2], .int .i64 1]), ⟨[X, Y], []⟩) := by kernel_rfl
theorem k24f (X Y : ABlk) : doCall (aCall prog 400) { base := 0, rob := 0, rom := 0 } .full (.fn 24) [.str ⟨#[118, 97, 114, 32, 97, 10, 98]⟩] ⟨[X, Y], []⟩ = some (.ok (.agg [.int .i64 32, .str ⟨#[]⟩, .int .i64 0, .sl none 2 [.int .i64 30, .str ⟨#[97]⟩, .int .i64 0, .sl none 0 [], .int .i64 1, .int .i64 31, .str ⟨#[]⟩, .int .i64 0, .sl none 1 [.int .i64 1, .str ⟨#[98]⟩, .int .i64 0, .sl none 0 [], .int .i64 2], .int .i64 2], .int .i64 1]), ⟨[X, Y], []⟩) := by
 have h := congrFun (congrFun k24fF X) Y
 rw [aCallF_eq] at h
 exact h
theorem f56 (l : List Int) (hl : l.length ≤ 1000000000000) (k : Nat) (hk : l.length + 3 ≤ k) : PureC k 56 [.sl none l.length (l.map (.int .i64)), .sl none l.length (l.map (.int .i64))] (.bool true) := by
 intro E st hE
 obtain ⟨k, rfl⟩ := uK (k := k) (by omega)
 refine call_in2 rfl rfl (by decide) fun s hs e0 e1 => ?_
 simp [hs, e0, e1]
 refine WP_loop (fun n s m st' => ∃ j : Nat, j ≤ l.length ∧ n = l.length - j ∧ s.length = 26 ∧ m = [] ∧ lk s 0 = .sl none l.length (l.map (.int .i64)) ∧ lk s 1 = .sl none l.length (l.map (.int .i64)) ∧ lk s 5 = .int .i64 j ∧ st' = st) l.length (by omega)
  ⟨0, by omega, by omega, by simp [hs], rfl, by simp [hs, e0], by simp [hs, e1], by simp [hs], rfl⟩ ?_
 clear hs e0 e1
 rintro _ s m _ ⟨j, hj, rfl, hs, rfl, e0, e1, e5, rfl⟩
 by_cases hc : j < l.length
 ·have hwj := wrap64 (n := (j : Int) + 1) (by omega)
  simp [Nat.testBit, hs, e0, e1, e5, hc]
  simp [hs, e5, hwj]
  exact ⟨_, by omega, j + 1, by omega, rfl, by simp [hs], rfl, by simp [hs, e0], by simp [hs, e1], by simp [hs], rfl⟩
 ·simp [hs, e0, e5, hc]
  exact Grow.refl _
theorem f49 (r : Rule) (hl : r.l.length ≤ 1000000000000) (k : Nat) (hk : r.l.length + 10 ≤ k) : PureC k 49 [.agg r.enc, .agg r.enc] (.bool true) := by
 intro E st hE
 obtain ⟨k, rfl⟩ := uK (k := k) (by omega)
 have c56 := f56 r.l hl k (by omega) E ⟨st.H ++ [.cells 55 r.enc, .cells 55 r.enc], st.I⟩ (hE.of (by simp) (by simp))
 simp only [Rule.enc] at c56 ⊢
 refine call_in2 rfl rfl (by decide) fun s hs e0 e1 => ?_
 simp [hs, e0, e1]
 refine obP_intro c56 fun p hp => ?_
 obtain ⟨q, st2⟩ := p
 obtain ⟨v, r1, r2, r3⟩ := hp
 simp only at r1 r2
 subst r1
 have r3 := fin_bool_inv r3
 subst r3
 have a0 : st2.H[st.H.length]? = some (.cells 55 [.int .i64 r.kind, .int .i64 r.f, .int .i64 r.x, .int .i64 r.y, .int .i64 r.z, .int .i64 r.n, .int .i64 r.m, .str r.s, .sl none r.l.length (r.l.map (.int .i64))]) := pfx_get r2.H (by simp)
 have a1 : st2.H[st.H.length + 1]? = some (.cells 55 [.int .i64 r.kind, .int .i64 r.f, .int .i64 r.x, .int .i64 r.y, .int .i64 r.z, .int .i64 r.n, .int .i64 r.m, .str r.s, .sl none r.l.length (r.l.map (.int .i64))]) := pfx_get r2.H (by simp)
 simp [hs, a0, a1]
 exact ⟨(List.prefix_append _ _).trans r2.H, r2.I⟩
def sysE (n : Int) (F : List FS) (R : List Rule) : List AV := [.int .i64 n, .sl none F.length (encFS F), .sl none R.length (encR R)]
theorem f35 (n : Int) (F : List FS) (R : List Rule) (hF : F.length ≤ 1000000000) (hR : R.length ≤ 1000000000) (hFp : ∀ x ∈ F, x.params.length ≤ 1000000000) (hRl : ∀ x ∈ R, x.l.length ≤ 1000000000) (k : Nat) (hk : 1000010010 ≤ k) : PureC k 35 [.agg (sysE n F R), .agg (sysE n F R)] (.bool true) := by
  intro E st hE
  obtain ⟨k, rfl⟩ := uK (k := k) (by omega)
  unfold sysE
  refine call_in2 rfl rfl (by decide) fun s hs e0 e1 => ?_
  simp [hs, e0, e1]
  refine WP_loop (fun n' s m st' => ∃ (j : Nat) (H : List ABlk), j ≤ F.length ∧ n' = F.length - j ∧ s.length = 104 ∧ m = [] ∧ lk s 2 = .ptr st.H.length 0 ∧ lk s 3 = .ptr (st.H.length + 1) 0 ∧ lk s 5 = .int .i64 j ∧ st.I <+: st'.I ∧
      st'.H = st.H ++ ([.cells 49 [.int .i64 n, .sl none F.length (encFS F), .sl none R.length (encR R)], .cells 49 [.int .i64 n, .sl none F.length (encFS F), .sl none R.length (encR R)]] ++ H)) F.length (by omega)
    ⟨0, [], by omega, by omega, by simp [hs], rfl, by simp [hs], by simp [hs], by simp [hs], List.prefix_rfl, by simp⟩ ?_
  clear hs e0 e1
  rintro _ s m ⟨H', I'⟩ ⟨j, H, hj, rfl, hs, rfl, e2, e3, e5, hI, hH⟩
  simp only at hH hI
  subst hH
  have b0 : ∀ x, (st.H ++ ([ABlk.cells 49 [.int .i64 n, .sl none F.length (encFS F), .sl none R.length (encR R)], .cells 49 [.int .i64 n, .sl none F.length (encFS F), .sl none R.length (encR R)]] ++ H) ++ x)[st.H.length]? = some (.cells 49 [.int .i64 n, .sl none F.length (encFS F), .sl none R.length (encR R)]) := fun x => by simp
  have b1 : ∀ x, (st.H ++ ([ABlk.cells 49 [.int .i64 n, .sl none F.length (encFS F), .sl none R.length (encR R)], .cells 49 [.int .i64 n, .sl none F.length (encFS F), .sl none R.length (encR R)]] ++ H) ++ x)[st.H.length + 1]? = some (.cells 49 [.int .i64 n, .sl none F.length (encFS F), .sl none R.length (encR R)]) := fun x => by rw [List.append_assoc, getE_app]; simp
  have hE2 : E.Wf ⟨st.H ++ ([ABlk.cells 49 [.int .i64 n, .sl none F.length (encFS F), .sl none R.length (encR R)], .cells 49 [.int .i64 n, .sl none F.length (encFS F), .sl none R.length (encR R)]] ++ H), I'⟩ := hE.of (by simp) hI.length_le
  have hGl : st.H <+: st.H ++ ([ABlk.cells 49 [.int .i64 n, .sl none F.length (encFS F), .sl none R.length (encR R)], .cells 49 [.int .i64 n, .sl none F.length (encFS F), .sl none R.length (encR R)]] ++ H) := List.prefix_append _ _
  generalize hHH : st.H ++ ([ABlk.cells 49 [.int .i64 n, .sl none F.length (encFS F), .sl none R.length (encR R)], .cells 49 [.int .i64 n, .sl none F.length (encFS F), .sl none R.length (encR R)]] ++ H) = HH at b0 b1 hE2 hGl ⊢
  have a0 := b0 []
  have a1 := b1 []
  rw [List.append_nil] at a0 a1
  have hmw := mayWrite_new hE2
  by_cases hc : j < F.length
  · obtain ⟨x, hg⟩ : ∃ x, F[j]? = some x := ⟨_, List.getElem?_eq_getElem hc⟩
    have hrd := encFS_rd hg
    have hwj := wrap64 (n := (j : Int) + 1) (by omega)
    have hxp := hFp x (List.mem_of_getElem? hg)
    have c56 := f56 x.params (by omega) k (by omega) E ⟨HH ++ [.cells 82 x.enc, .cells 82 x.enc], I'⟩ (hE2.of (by simp) (by simp))
    simp only [FS.enc] at hrd c56
    simp [hs, e2, e3, e5, a0, a1, getE_old a0, getE_old a1, hc, hrd, storeA, hmw, wrC]
    refine obP_intro c56 fun p hp => ?_
    obtain ⟨q, st2⟩ := p
    obtain ⟨v, r1, r2, r3⟩ := hp
    simp only at r1 r2
    subst r1
    have r3 := fin_bool_inv r3
    subst r3
    have d0 : st2.H[HH.length]? = some (.cells 82 x.enc) := pfx_get r2.H (by simp [FS.enc])
    have d1 : st2.H[HH.length + 1]? = some (.cells 82 x.enc) := pfx_get r2.H (by simp [FS.enc])
    simp only [FS.enc] at d0 d1
    simp [hs, d0, d1]
    simp [hs, e5, hwj]
    obtain ⟨tl, htl⟩ := r2.H
    refine ⟨_, by omega, j + 1, H ++ ([.cells 82 x.enc, .cells 82 x.enc] ++ tl), by omega, rfl, by simp [hs], rfl, by simp [hs, e2], by simp [hs, e3], by simp [hs], hI.trans r2.I, ?_⟩
    rw [← htl, ← hHH]
    simp [FS.enc]
  · have hjF : j = F.length := by omega
    have c49 := fun (i : Nat) (r : Rule) (hr : R[i]? = some r) st3 (h : E.Wf st3) => (f49 r (by have := hRl r (List.mem_of_getElem? hr); omega) k (by have := hRl r (List.mem_of_getElem? hr); omega)).full (E := E) (st := st3) (by simp) h (by simp [Rule.enc_fin])
    simp [hs, e2, e3, e5, a0, a1, hc]
    refine WP_loop (fun n' s m st' => ∃ (i : Nat), i ≤ R.length ∧ n' = R.length - i ∧ s.length = 104 ∧ m = [] ∧ lk s 2 = .ptr st.H.length 0 ∧ lk s 3 = .ptr (st.H.length + 1) 0 ∧ lk s 8 = .int .i64 i ∧ st' = ⟨HH, I'⟩) R.length (by omega)
      ⟨0, by omega, by omega, by simp [hs], rfl, by simp [hs, e2], by simp [hs, e3], by simp [hs], rfl⟩ ?_
    clear hs e2 e3 e5
    rintro _ s m _ ⟨i, hi, rfl, hs, rfl, e2, e3, e8, rfl⟩
    by_cases hd : i < R.length
    · obtain ⟨r, hg⟩ : ∃ r, R[i]? = some r := ⟨_, List.getElem?_eq_getElem hd⟩
      have hrd := encR_rd hg
      have hwi := wrap64 (n := (i : Int) + 1) (by omega)
      have c := c49 i r hg ⟨HH, I'⟩ hE2
      simp only [Rule.enc] at hrd c
      simp [Nat.testBit, hs, e2, e3, e8, a0, a1, hd, hrd, c]
      simp [hs, e8, hwi]
      exact ⟨_, by omega, i + 1, by omega, rfl, by simp [hs], rfl, by simp [hs, e2], by simp [hs, e3], by simp [hs], rfl⟩
    · simp [hs, e2, e3, e8, a0, hd]
      exact ⟨hGl, hI⟩
def tC : T := .mk 32 ⟨#[]⟩ 0 [.mk 30 ⟨#[97]⟩ 0 [.mk 11 ⟨#[]⟩ 0 [] 1] 1] 1
def tD : T := .mk 32 ⟨#[]⟩ 0 [.mk 30 ⟨#[97]⟩ 0 [] 1, .mk 31 ⟨#[]⟩ 0 [.mk 1 ⟨#[98]⟩ 0 [] 2] 2] 1
theorem rC : rulV (rulesM tC) = .tup [.sl none 1 [.int .i64 (-1), .str ⟨#[]⟩, .int .i64 0, .sl none 1 [.str ⟨#[97]⟩], .int .i64 0], .agg [.int .i64 16, .sl none 1 [.int .i64 0, .sl none 0 [], .int .i64 4, .int .i64 5, .int .i64 6], .sl none 2 [.int .i64 3, .int .i64 0, .int .i64 2, .int .i64 3, .int .i64 0, .int .i64 0, .int .i64 0, .str ⟨#[]⟩, .sl none 0 [], .int .i64 1, .int .i64 0, .int .i64 2, .int .i64 0, .int .i64 0, .int .i64 0, .int .i64 4, .str ⟨#[]⟩, .sl none 0 []]], .int .i64 0, .int .i64 0] := by kernel_rfl
theorem rD : rulV (rulesM tD) = .tup [.sl none 0 [], .agg [.int .i64 0, .sl none 0 [], .sl none 0 []], .int .i64 2, .int .i64 50] := by kernel_rfl
theorem tC_ok : tC.ok := by simp [tC, T.ok, T.okL, ok64]; decide
theorem tD_ok : tD.ok := by simp [tD, T.ok, T.okL, ok64]; decide
theorem tC_wt : tC.wt ≤ 100 := by decide
theorem tD_wt : tD.wt ≤ 100 := by decide
theorem wt_le' (k : Nat) (hk : 20000 ≤ k) (n : Nat) (h : n ≤ 100) : n ≤ 1000000000 ∧ 40 * n + 10000 ≤ k := by omega
theorem k33c (k : Nat) (hk : 20000 ≤ k) (E : Env) (st : St) (h : E.Wf st) : doCall (aCall prog k) E .full (.fn 33) [.agg tC.enc] st = some (.ok (rulV (rulesM tC)), st) := by
 obtain ⟨h1, h2⟩ := wt_le' k hk _ tC_wt
 exact (rules33 tC tC_ok h1 k h2).full (by rw [rC]; rfl) h
theorem k33d (k : Nat) (hk : 20000 ≤ k) (E : Env) (st : St) (h : E.Wf st) : doCall (aCall prog k) E .full (.fn 33) [.agg tD.enc] st = some (.ok (rulV (rulesM tD)), st) := by
 obtain ⟨h1, h2⟩ := wt_le' k hk _ tD_wt
 exact (rules33 tD tD_ok h1 k h2).full (by rw [rD]; rfl) h
theorem f32 (X : ABlk) (k : Nat) (hk : 30000 ≤ k) (b : Nat) (hb : b ≤ 1) : CallQ (k + 1) { base := b, rob := 0, rom := 0 } 32 [] ⟨[X], []⟩ fun r st' => ∃ v, r = .ok v ∧ Grow ⟨[X], []⟩ st' ∧ v = .bool true := by
 have c1 := doCall_le (aCall_mono (show 400 ≤ k by omega)) _ _ _ _ _ _ (k24e X)
 have c2 := fun Y => doCall_le (aCall_mono (show 400 ≤ k by omega)) _ _ _ _ _ _ (k24f X Y)
 have c1 : doCall (aCall prog k) { base := b, rob := 0, rom := 0 } .full (.fn 24) _ ⟨[X], []⟩ = _ := c1
 have c2 : ∀ Y, doCall (aCall prog k) { base := b, rob := 0, rom := 0 } .full (.fn 24) _ ⟨[X, Y], []⟩ = _ := c2
 have c3 := k33c k (by omega) { base := b, rob := 0, rom := 0 } ⟨[X], []⟩ ⟨hb, by simp, by simp⟩
 have c4 := fun Y => k33d k (by omega) { base := b, rob := 0, rom := 0 } ⟨[X, Y], []⟩ ⟨by simp; omega, by simp, by simp⟩
 have c5 := fun Y Z => (f49 (rSub 2 3) (by decide) k (by simp [rSub]; omega)).fullA (args' := [.agg (rSub 2 3).enc, .agg [.int .i64 3, .int .i64 0, .int .i64 2, .int .i64 3, .int .i64 0, .int .i64 0, .int .i64 0, .str ⟨#[]⟩, .nils]]) (E := { base := b, rob := 0, rom := 0 }) (st := ⟨[X, Y, Z], []⟩) rfl ⟨by simp; omega, by simp, by simp⟩ (by simp [Rule.enc_fin, Rule.enc, rSub])
 have c6 := fun Y Z => (f49 { kind := 1, x := 2, m := 4 } (by decide) k (by simp; omega)).fullA (args' := [.agg (Rule.enc { kind := 1, x := 2, m := 4 }), .agg [.int .i64 1, .int .i64 0, .int .i64 2, .int .i64 0, .int .i64 0, .int .i64 0, .int .i64 4, .str ⟨#[]⟩, .nils]]) (E := { base := b, rob := 0, rom := 0 }) (st := ⟨[X, Y, Z], []⟩) rfl ⟨by simp; omega, by simp, by simp⟩ (by simp [Rule.enc_fin, Rule.enc, rSub])
 rw [rC] at c3
 rw [rD] at c4
 simp [tC] at c3
 simp [tD] at c4
 simp only [rSub, Rule.enc, List.map_nil, List.length_nil] at c5 c6
 have hm : ∀ j x y, 1 ≤ j → mayWrite { base := b, rob := 0, rom := 0 } j x y = true := fun j x y h => by simp [mayWrite]; left; omega
 have hm1 := fun x y => hm 1 x y (by omega)
 have hm2 := fun x y => hm 2 x y (by omega)
 refine call_in0 rfl rfl (by decide) fun s hs => ?_
 simp [hs, c1, c3, storeA, hm1, wrC]
 simp [hs, c2, c4, storeA, hm2, wrC]
 simp [hs, fillA, wrC, c5, c6, rdC]
 exact Grow.appH ⟨[X], []⟩ _
theorem k32 (X : ABlk) : doCall (aCall prog 30001) { base := 0, rob := 0, rom := 0 } .full (.fn 32) [] ⟨[X], []⟩ = some (.ok (.bool true), ⟨[X], []⟩) := by
 obtain ⟨⟨r, st'⟩, e, v, e1, g, e2⟩ := f32 X 30000 (Nat.le_refl _) 1 (Nat.le_refl _)
 simp only at e1 g e2
 subst e1 e2
 have e : aCall prog 30001 { base := 1, rob := 0, rom := 0 } (.fn 32) [] ⟨[X], []⟩ = some (.ok (.bool true), st') := e
 have h1 := pfx_take g.H
 have h2 := pfx_take g.I
 simp only [List.length_cons, List.length_nil, Nat.zero_add] at h1 h2
 simp only [doCall, List.map_nil, List.length_cons, List.length_nil, Nat.zero_add, e, obind_some]
 simp only [AV.fin, AV.refs, refsLt_nil, guardb_true, okv_eq, h1, h2]
theorem k32at {k : Nat} (hk : 30001 ≤ k) (y : ABlk) : doCall (aCall prog k) E0 .full (.fn 32) [] ⟨[] ++ [y], []⟩ = some (.ok (.bool true), ⟨[] ++ [y], []⟩) :=
 doCall_le (aCall_mono hk) _ _ _ _ _ _ (k32 y)
theorem rulesM_sys (t : T) : rulV (rulesM t) = .tup [.sl none (rulesM t).1.length (encFs (rulesM t).1), .agg (sysE (rulesM t).2.1.1 (rulesM t).2.1.2.1 (rulesM t).2.1.2.2), .int .i64 (rulesM t).2.2.1, .int .i64 (rulesM t).2.2.2] := rfl
theorem rulesM_lims (t : T) : (rulesM t).1.length ≤ 500 ∧ (rulesM t).2.1.2.1.length ≤ 500 ∧ (rulesM t).2.1.2.2.length ≤ 3 * t.wt := by
 have h1 := (resolve_lims t).1
 have h2 := rT_len (resolve t).1 (baseL ((resolve t).2.1.count : Nat) (resolve t).1) (resolve t).2.1 0 0 (behV (resolve t).1 (baseL ((resolve t).2.1.count : Nat) (resolve t).1) 0 + 2) true
 have h3 := count_wt (resolve t).2.1
 have h4 := resolve_wt t
 unfold rulesM
 simp only
 split
 ·simp
 ·split
  ·simp
  ·simp only [fsL_len]
   exact ⟨h1, h1, by omega⟩
theorem own_ll (fs : List Fn) (bs : List Int) (op : Int) (s : ByteArray) (n : Int) (l : List T) (x : Int) (k0 : Int) (f : Nat) (to : Int) : ∀ r ∈ ownR fs bs (.mk op s n l x) k0 f to, r.l.length ≤ l.length := by
 intro r hr
 have hpl := posF_len (k0 + 1) l
 unfold ownR ownS at hr
 simp only [T.op_mk, T.n_mk, T.s_mk, T.l_mk] at hr
 generalize posF (k0 + 1) l = ps at hpl hr
 obtain ⟨r0, h0, rfl⟩ := List.mem_map.1 hr
 have hz : r0.l = [] ∨ r0.l = ps.tail := by
  by_cases o1 : op = 1
  ·subst o1; simp at h0; subst h0; exact .inl rfl
  by_cases o8 : op = 8
  ·subst o8; simp at h0; subst h0; exact .inl rfl
  by_cases o13 : op = 13
  ·subst o13; simp at h0; subst h0; exact .inl rfl
  by_cases o14 : op = 14
  ·subst o14; simp at h0; subst h0; exact .inl rfl
  by_cases o21 : op = 21
  ·subst o21; simp at h0; subst h0; exact .inl rfl
  by_cases o22 : op = 22
  ·subst o22; simp at h0; rcases h0 with rfl | rfl <;> exact .inl rfl
  by_cases o23 : op = 23
  ·subst o23; simp at h0; rcases h0 with rfl | rfl <;> exact .inl rfl
  by_cases o16 : op = 16
  ·subst o16; simp at h0; subst h0; exact .inr rfl
  by_cases o11 : op = 11
  ·subst o11
   simp at h0
   rcases h0 with rfl | ⟨a, b, -, rfl⟩ <;> exact .inl rfl
  by_cases o17 : op = 17
  ·subst o17
   rcases l with _ | ⟨t0, q⟩
   ·simp at h0
   ·simp at h0
    rcases h0 with rfl | rfl
    ·split
     ·exact .inl rfl
     ·split <;> exact .inl rfl
    ·exact .inl rfl
  by_cases o15 : op = 15
  ·subst o15
   rcases l with _ | ⟨t0, q⟩
   ·simp at h0
   ·simp at h0; subst h0; exact .inr rfl
  by_cases o30 : op = 30
  ·subst o30
   rcases ps with _ | ⟨p, q⟩
   ·simp at h0
   ·simp at h0; subst h0; exact .inl rfl
  by_cases o36 : op = 36
  ·subst o36
   rcases ps with _ | ⟨p, q⟩
   ·simp at h0
   ·simp at h0; subst h0; exact .inl rfl
  by_cases o37 : op = 37
  ·subst o37
   rcases ps with _ | ⟨p, q⟩
   ·simp at h0
   ·simp at h0; subst h0; exact .inl rfl
  simp [o1, o8, o11, o13, o14, o17, o21, o22, o23, o15, o16, o30, o36, o37] at h0
 show r0.l.length ≤ _
 rcases hz with h | h <;> rw [h]
 ·exact Nat.zero_le _
 ·rw [List.length_tail]; omega
mutual
theorem rT_ll (fs : List Fn) (bs : List Int) : ∀ (t : T) (k0 : Int) (f : Nat) (to : Int) (rd : Bool), ∀ r ∈ rT fs bs t k0 f to rd, r.l.length ≤ t.count
 | .mk op s n l x, k0, f, to, rd, r, hr => by
  have hl := T.len_le l
  simp only [T.count]
  simp only [rT] at hr
  split at hr
  ·rcases List.mem_append.1 hr with hr | hr
   ·unfold hdR at hr
    simp only [List.mem_cons] at hr
    rcases hr with rfl | hr
    ·exact Nat.zero_le _
    ·split at hr
     ·simp only [List.mem_cons, List.not_mem_nil, or_false] at hr; subst hr; exact Nat.zero_le _
     ·simp at hr
   ·have := rB_ll fs bs n.toNat (k0 + 1) l r hr; omega
  ·rcases List.mem_append.1 hr with hr | hr
   ·split at hr
    ·have := own_ll fs bs op s n l x k0 f to r hr; omega
    ·simp at hr
   ·have := rL_ll fs bs op n f to 0 (k0 + 1) l r hr; omega
theorem rL_ll (fs : List Fn) (bs : List Int) (op n : Int) (f : Nat) (to : Int) : ∀ (i : Nat) (a : Int) (l : List T), ∀ r ∈ rL fs bs op n f to i a l, r.l.length ≤ T.countL l
 | _, _, [], r, hr => by simp [rL] at hr
 | i, a, t :: q, r, hr => by
  simp only [T.countL]
  simp only [rL] at hr
  rcases List.mem_append.1 hr with hr | hr
  ·have := rT_ll fs bs t _ _ _ _ r hr; omega
  ·have := rL_ll fs bs op n f to (i + 1) _ q r hr; omega
theorem rB_ll (fs : List Fn) (bs : List Int) (g : Nat) : ∀ (a : Int) (l : List T), ∀ r ∈ rB fs bs g a l, r.l.length ≤ T.countL l
 | _, [], r, hr => by simp [rB] at hr
 | a, t :: q, r, hr => by
  simp only [T.countL]
  simp only [rB] at hr
  rcases List.mem_append.1 hr with hr | hr
  ·split at hr
   ·have := rT_ll fs bs t _ _ _ _ r hr; omega
   ·simp at hr
  ·have := rB_ll fs bs g _ q r hr; omega
end
theorem fsL_par : ∀ (l : List Fn) (a : Int), (∀ G ∈ l, G.params ≤ 200) → ∀ x ∈ fsL a l, x.params.length ≤ 200
 | [], a, _, x, h => by simp [fsL] at h
 | g :: r, a, hp, x, h => by
  simp only [fsL, List.mem_cons] at h
  rcases h with rfl | h
  ·simp only [fsF, parL_len]; exact hp g (by simp)
  ·exact fsL_par r _ (fun G hG => hp G (by simp [hG])) x h
theorem rulesM_big (t : T) (hw : t.wt ≤ 100000000) : (∀ x ∈ (rulesM t).2.1.2.1, x.params.length ≤ 1000000000) ∧ ∀ x ∈ (rulesM t).2.1.2.2, x.l.length ≤ 1000000000 := by
 have h1 := resolve_lims t
 have h3 := count_wt (resolve t).2.1
 have h4 := resolve_wt t
 unfold rulesM
 simp only
 split
 ·simp
 ·split
  ·simp
  ·refine ⟨fun x hx => ?_, fun x hx => ?_⟩
   ·have := fsL_par _ _ (fun G hG => (h1.2 G hG).2) x hx; omega
   ·have := rT_ll _ _ _ _ _ _ _ x hx; omega
theorem rulesM_vars (t : T) : ∀ f ∈ (rulesM t).1, f.vars.length ≤ 1000000 := by
 have h1 := resolve_lims t
 unfold rulesM
 simp only
 split
 ·simp
 ·split
  ·simp
  ·intro f hf
   have := (h1.2 f hf).1
   omega
theorem f11 (t : T) (ht : t.ok) (hw : t.wt ≤ 100000000) (k : Nat) (hk : 80 * t.wt + 2000000000 ≤ k) (E : Env) (st : St) (hE : E.Wf st)
  (h32 : ∀ y, doCall (aCall prog k) E .full (.fn 32) [] ⟨st.H ++ [y], st.I⟩ = some (.ok (.bool true), ⟨st.H ++ [y], st.I⟩)) : CallQ (k + 1) E 11 [.agg t.enc] st (Tru st) := by
 have hmw := mayWrite_new hE
 have hmw1 : ∀ j x y, mayWrite E (st.H.length + j) x y = true := fun j x y => hmw _ _ _ (by omega)
 have hcw0 := count_wt t
 have c19 := fun st3 (h : E.Wf st3) => (f19 t k (by omega)).full (E := E) (st := st3) rfl h
 have c33 := fun st3 (h : E.Wf st3) => (rules33 t ht (by omega) k (by omega)).full (E := E) (st := st3) (rulV_refs _) h
 have c34 := fun st3 (h : E.Wf st3) => (rules34 t ht (by omega) k (by omega)).full (E := E) (st := st3) (rulV_refs _) h
 obtain ⟨h1, h2, h3⟩ := rulesM_lims t
 obtain ⟨b1, b2⟩ := rulesM_big t hw
 have c22 := fun st3 (h : E.Wf st3) => (f22 (rulesM t).1 (by omega) (rulesM_vars t) k (by omega)).full (E := E) (st := st3) rfl h (by simp [encFs_fin])
 have c35 := fun st3 (h : E.Wf st3) => (f35 (rulesM t).2.1.1 (rulesM t).2.1.2.1 (rulesM t).2.1.2.2 (by omega) (by omega) b1 b2 k (by omega)).full (E := E) (st := st3) rfl h (by simp [sysE, encFS_fin, encR_fin])
 obtain ⟨op, s0, nn, l, line⟩ := t
 rw [rulesM_sys] at c33 c34
 generalize rulesM (.mk op s0 nn l line) = R at *
 obtain ⟨fs, ⟨S, F, Rs⟩, x, y⟩ := R
 simp only at c33 c34 c35 c22 h1 h2 h3
 simp only [T.enc, sysE] at c19 c33 c34 c35
 refine call_in1 rfl rfl (by decide) fun s hs e0 => ?_
 have hE1 : ∀ y, E.Wf ⟨st.H ++ y, st.I⟩ := fun y => hE.of (by simp) (by simp)
 by_cases h : szT 1500 (.mk op s0 nn l line) < 0
 ·simp [hs, e0, h32, c19 _ (hE1 _), h]
  exact .of (Grow.appH _ _)
 simp [hs, e0, h32, c19 _ (hE1 _), h, c33 _ (hE1 _), storeA, hmw, hmw1, wrC]
 simp [hs, e0, c34 _ (hE1 _), storeA, hmw1, wrC]
 simp [hs, c22 _ (hE1 _), c35 _ (hE1 _)]
 exact .of (Grow.appH _ _)
theorem says11 (t : T) (ht : t.ok) (hw : t.wt ≤ 1048576) : Says 11 [.agg t.enc] :=
 says_of (f11 t ht (by omega) (80 * t.wt + 2000000000) (Nat.le_refl _) E0 ⟨[], []⟩ wf0 (fun y => k32at (by omega) y))
end Go.Proofs.YP
