/- Texts that the laws of the seat rest on: an abstract machine, what the functions answer in it, plain laws. -/
import Derived.Test.YtjehnhppfneidaaGreatDoorRmj
set_option linter.unusedVariables false
set_option linter.unusedSimpArgs false
set_option linter.unusedSectionVars false
set_option maxHeartbeats 8000000
set_option maxRecDepth 20000
namespace Go.Proofs.YP
open Go
def plainK (k : Int) : Prop := 3 ≤ k ∧ k ≤ 7
def mkKind (op : Int) : Int := if op = 11 then 1 else if op = 15 then 8 else 9
theorem isMk_iff (op : Int) : isMk op = true ↔ op = 11 ∨ op = 15 ∨ op = 16 := by simp [isMk]; omega
theorem own_shape (fs : List Fn) (bs : List Int) (op : Int) (s : ByteArray) (n : Int) (l : List T) (x : Int) (k0 : Int) (f : Nat) (to : Int) (hf : Frm op l) :
  (isMk op = true ∧ ∃ r R, ownR fs bs (.mk op s n l x) k0 f to = r :: R ∧ r.kind = mkKind op ∧ r.m = n ∧ ∀ y ∈ R, plainK y.kind) ∨ (isMk op = false ∧ ∀ y ∈ ownR fs bs (.mk op s n l x) k0 f to, plainK y.kind) := by
 have hpl := posF_len (k0 + 1) l
 unfold ownR ownS
 simp only [T.op_mk, T.n_mk, T.s_mk, T.l_mk]
 generalize posF (k0 + 1) l = ps at hpl ⊢
 by_cases o11 : op = 11
 ·subst o11
  refine .inl ⟨rfl, _, _, rfl, rfl, rfl, fun y hy => ?_⟩
  simp only [List.map_map, List.mem_map] at hy
  obtain ⟨z, -, rfl⟩ := hy
  simp [plainK, Rule.at, rSub]
 by_cases o15 : op = 15
 ·subst o15
  rcases l with _ | ⟨t0, r⟩
  ·have := hf.call (.inl rfl); simp at this
  ·exact .inl ⟨rfl, _, [], rfl, rfl, rfl, fun y hy => by simp at hy⟩
 by_cases o16 : op = 16
 ·subst o16
  exact .inl ⟨rfl, _, [], rfl, rfl, rfl, fun y hy => by simp at hy⟩
 refine .inr ⟨by simp [isMk, o11, o15, o16], fun y hy => ?_⟩
 simp only [o11, o15, o16, if_false] at hy
 have hs : ∀ a b, plainK (Rule.at f (rSub a b)).kind := fun _ _ => (by simp [plainK, Rule.at, rSub])
 by_cases o1 : op = 1
 ·subst o1; simp at hy; subst hy; exact hs _ _
 by_cases o8 : op = 8
 ·subst o8; simp at hy; subst hy; exact hs _ _
 by_cases o13 : op = 13
 ·subst o13; simp at hy; subst hy; exact (by simp [plainK, Rule.at, rSub])
 by_cases o14 : op = 14
 ·subst o14; simp at hy; subst hy; exact (by simp [plainK, Rule.at, rSub])
 by_cases o17 : op = 17
 ·subst o17
  rcases l with _ | ⟨t0, r⟩
  ·simp at hy
  ·simp at hy
   rcases hy with rfl | rfl
   ·split
    ·exact hs _ _
    ·split <;> exact (by simp [plainK, Rule.at, rSub])
   ·exact hs _ _
 by_cases o21 : op = 21
 ·subst o21; simp at hy; subst hy; exact hs _ _
 by_cases o22 : op = 22
 ·subst o22; simp at hy; rcases hy with rfl | rfl <;> exact hs _ _
 by_cases o23 : op = 23
 ·subst o23; simp at hy; rcases hy with rfl | rfl <;> exact hs _ _
 by_cases o30 : op = 30
 ·subst o30
  rcases ps with _ | ⟨p, r⟩
  ·simp at hy
  ·simp at hy; subst hy; exact hs _ _
 by_cases o36 : op = 36
 ·subst o36
  rcases ps with _ | ⟨p, r⟩
  ·simp at hy
  ·simp at hy; subst hy; exact hs _ _
 by_cases o37 : op = 37
 ·subst o37
  rcases ps with _ | ⟨p, r⟩
  ·simp at hy
  ·simp at hy; subst hy; exact hs _ _
 ·simp [o1, o8, o13, o14, o17, o21, o22, o23, o30, o36, o37] at hy
def cntK (K : Int) (R : List Rule) : Nat := R.countP fun r => decide (r.kind = K)
mutual
def cntO (op : Int) : T → Nat
 | .mk o _ _ l _ => (if o = op then 1 else 0) + cntOL op l
def cntOL (op : Int) : List T → Nat
 | [] => 0
 | t :: r => cntO op t + cntOL op r
end
theorem cntK_app (K : Int) (a b : List Rule) : cntK K (a ++ b) = cntK K a + cntK K b := by simp [cntK]
theorem cntK_plain (K : Int) (hK : ¬ plainK K) : ∀ (R : List Rule), (∀ y ∈ R, plainK y.kind) → cntK K R = 0 := fun R h => by
 simp only [cntK, List.countP_eq_zero, decide_eq_true_eq]
 intro y hy e
 exact hK (e ▸ h y hy)
theorem own_cnt (fs : List Fn) (bs : List Int) (op : Int) (s : ByteArray) (n : Int) (l : List T) (x : Int) (k0 : Int) (f : Nat) (to : Int) (hf : Frm op l) (K O : Int) (hKO : (K = 1 ∧ O = 11) ∨ (K = 8 ∧ O = 15) ∨ (K = 9 ∧ O = 16)) :
  cntK K (ownR fs bs (.mk op s n l x) k0 f to) = if op = O then 1 else 0 := by
 have hK : ¬ plainK K := by unfold plainK; omega
 rcases own_shape fs bs op s n l x k0 f to hf with ⟨hm, r, R, e, h1, h2, h3⟩ | ⟨hm, h3⟩
 ·rw [e]
  have h0 := cntK_plain K hK R h3
  have : cntK K (r :: R) = cntK K R + if r.kind = K then 1 else 0 := by simp [cntK, List.countP_cons]
  rw [this, h0, h1, Nat.zero_add]
  have hop := (isMk_iff op).1 hm
  rcases hop with rfl | rfl | rfl <;> rcases hKO with ⟨rfl, rfl⟩ | ⟨rfl, rfl⟩ | ⟨rfl, rfl⟩ <;> rfl
 ·rw [cntK_plain K hK _ h3, if_neg]
  rintro rfl
  have := (isMk_iff op).2 (by omega)
  rw [hm] at this; cases this
theorem hd_kind (fs : List Fn) (bs : List Int) (op : Int) (s : ByteArray) (n k0 : Int) (f : Nat) : ∀ y ∈ hdR fs bs op s n k0 f, y.kind = 2 := by
 intro y hy
 unfold hdR at hy
 simp only [List.mem_cons] at hy
 rcases hy with rfl | hy
 ·rfl
 ·split at hy
  ·simp at hy; subst hy; rfl
  ·simp at hy
theorem hd_cnt (fs : List Fn) (bs : List Int) (op : Int) (s : ByteArray) (n k0 : Int) (f : Nat) (K : Int) (hK : K ≠ 2) : cntK K (hdR fs bs op s n k0 f) = 0 := by
 simp only [cntK, List.countP_eq_zero, decide_eq_true_eq]
 intro y hy e
 exact hK (e ▸ hd_kind fs bs op s n k0 f y hy)
theorem leaf_cnt {u : T} (h : u.op = 1 ∧ u.l = []) (O : Int) (hO : O ≠ 1) : cntO O u = 0 := by
 obtain ⟨op, s, n, l, x⟩ := u
 obtain ⟨h1, h2⟩ := h
 simp only [T.op_mk, T.l_mk] at h1 h2
 subst h1 h2
 have : ¬ (1 : Int) = O := fun e => hO e.symm
 simp [cntO, cntOL, this]
theorem part_mk {op : Int} {l : List T} (hf : Frm op l) {i : Nat} {u : T} (h : l[i]? = some u) (hr : (decide (op ≠ 17) || decide (0 < i)) = false) : isMk u.op = false := by
 simp only [Bool.or_eq_false_iff, decide_eq_false_iff_not, Classical.not_not, Nat.not_lt, Nat.le_zero] at hr
 obtain ⟨rfl, rfl⟩ := hr
 rcases hf.lhs rfl u h with h | h | h <;> rw [h] <;> rfl
mutual
theorem rT_cnt (fs : List Fn) (bs : List Int) (K O : Int) (hKO : (K = 1 ∧ O = 11) ∨ (K = 8 ∧ O = 15) ∨ (K = 9 ∧ O = 16)) : ∀ (t : T) (k0 : Int) (f : Nat) (to : Int) (rd : Bool), frm t → (rd = false → isMk t.op = false) → cntK K (rT fs bs t k0 f to rd) = cntO O t
 | .mk op s n l x, k0, f, to, rd, hf, hr => by
  obtain ⟨hf, hl⟩ := hf
  simp only [rT, cntO]
  by_cases hfn : isFn op = true
  ·rw [if_pos hfn]
   have hop : op = 10 ∨ op = 41 := by simp [isFn] at hfn; omega
   rw [cntK_app, hd_cnt _ _ _ _ _ _ _ _ (by omega), rB_cnt fs bs K O hKO n.toNat (k0 + 1) l hl (hf.fn hfn), if_neg (by omega)]
  ·rw [if_neg hfn]
   rw [cntK_app, rL_cnt fs bs K O hKO op n f to 0 (k0 + 1) l hl (fun i u h hr => part_mk hf h (by simpa using hr))]
   congr 1
   cases rd
   ·have := hr rfl
    simp only [T.op_mk] at this
    rw [if_neg (by decide), if_neg]
    ·rfl
    ·rintro rfl
     have h2 := (isMk_iff op).2 (by omega)
     rw [this] at h2; cases h2
   ·rw [if_pos rfl]
    exact own_cnt fs bs op s n l x k0 f to hf K O hKO
theorem rL_cnt (fs : List Fn) (bs : List Int) (K O : Int) (hKO : (K = 1 ∧ O = 11) ∨ (K = 8 ∧ O = 15) ∨ (K = 9 ∧ O = 16)) (op n : Int) (f : Nat) (to : Int) : ∀ (i : Nat) (a : Int) (l : List T), frmL l → (∀ j u, l[j]? = some u → (decide (op ≠ 17) || decide (0 < i + j)) = false → isMk u.op = false) →
  cntK K (rL fs bs op n f to i a l) = cntOL O l
 | _, _, [], _, _ => rfl
 | i, a, t :: r, hl, hr => by
  simp only [rL, cntOL, cntK_app]
  rw [rT_cnt fs bs K O hKO t a f _ (decide (op ≠ 17) || decide (0 < i)) hl.1 (fun h => hr 0 t rfl h), rL_cnt fs bs K O hKO op n f to (i + 1) (a + t.count) r hl.2 (fun j u h hb => hr (j + 1) u (by simpa using h) (by rwa [show i + 1 + j = i + (j + 1) by omega] at hb))]
theorem rB_cnt (fs : List Fn) (bs : List Int) (K O : Int) (hKO : (K = 1 ∧ O = 11) ∨ (K = 8 ∧ O = 15) ∨ (K = 9 ∧ O = 16)) (g : Nat) : ∀ (a : Int) (l : List T), frmL l → (∀ u ∈ l, u.op = 32 ∨ (u.op = 1 ∧ u.l = [])) → cntK K (rB fs bs g a l) = cntOL O l
 | _, [], _, _ => rfl
 | a, t :: r, hl, hp => by
  simp only [rB, cntOL, cntK_app]
  rw [rB_cnt fs bs K O hKO g (a + t.count) r hl.2 (fun u hu => hp u (by simp [hu]))]
  congr 1
  split
  ·rename_i h32
   exact rT_cnt fs bs K O hKO t a g _ true hl.1 (fun h => by cases h)
  ·rename_i h32
   rcases hp t (by simp) with h | h
   ·exact absurd h h32
   ·rw [leaf_cnt h O (by omega)]; rfl
end
theorem hd_two (fs : List Fn) (bs : List Int) (op : Int) (s : ByteArray) (n k0 : Int) (f : Nat) : 1 ≤ cntK 2 (hdR fs bs op s n k0 f) := by
 have h : 0 < cntK 2 (hdR fs bs op s n k0 f) := by
  simp only [cntK, List.countP_pos_iff, decide_eq_true_eq]
  unfold hdR
  exact ⟨_, List.mem_cons_self, rfl⟩
 omega
mutual
theorem rT_two (fs : List Fn) (bs : List Int) : ∀ (t : T) (k0 : Int) (f : Nat) (to : Int) (rd : Bool), frm t → cntO 10 t + cntO 41 t ≤ cntK 2 (rT fs bs t k0 f to rd)
 | .mk op s n l x, k0, f, to, rd, hf => by
  obtain ⟨hf, hl⟩ := hf
  simp only [rT, cntO]
  by_cases hfn : isFn op = true
  ·rw [if_pos hfn]
   have h1 := hd_two fs bs op s n k0 f
   have h2 := rB_two fs bs n.toNat (k0 + 1) l hl (hf.fn hfn)
   rw [cntK_app]
   split <;> split <;> omega
  ·rw [if_neg hfn]
   have h2 := rL_two fs bs op n f to 0 (k0 + 1) l hl
   have hop : ¬ op = 10 ∧ ¬ op = 41 := by simp [isFn] at hfn; omega
   rw [cntK_app, if_neg hop.1, if_neg hop.2]; omega
theorem rL_two (fs : List Fn) (bs : List Int) (op n : Int) (f : Nat) (to : Int) : ∀ (i : Nat) (a : Int) (l : List T), frmL l → cntOL 10 l + cntOL 41 l ≤ cntK 2 (rL fs bs op n f to i a l)
 | _, _, [], _ => by simp [cntOL]
 | i, a, t :: r, hl => by
  have h1 := rT_two fs bs t a f (if op = 38 ∧ i = 0 then vset bs n else to) (decide (op ≠ 17) || decide (0 < i)) hl.1
  have h2 := rL_two fs bs op n f to (i + 1) (a + t.count) r hl.2
  simp only [rL, cntOL, cntK_app]; omega
theorem rB_two (fs : List Fn) (bs : List Int) (g : Nat) : ∀ (a : Int) (l : List T), frmL l → (∀ u ∈ l, u.op = 32 ∨ (u.op = 1 ∧ u.l = [])) → cntOL 10 l + cntOL 41 l ≤ cntK 2 (rB fs bs g a l)
 | _, [], _, _ => by simp [cntOL]
 | a, t :: r, hl, hp => by
  have h2 := rB_two fs bs g (a + t.count) r hl.2 (fun u hu => hp u (by simp [hu]))
  simp only [rB, cntOL, cntK_app]
  split
  ·have h1 := rT_two fs bs t a g (behV fs bs g + 2) true hl.1
   omega
  ·rename_i h32
   rcases hp t (by simp) with h | h
   ·exact absurd h h32
   ·rw [leaf_cnt h 10 (by decide), leaf_cnt h 41 (by decide)]; omega
end
theorem own_kinds (fs : List Fn) (bs : List Int) (op : Int) (s : ByteArray) (n : Int) (l : List T) (x : Int) (k0 : Int) (f : Nat) (to : Int) (hf : Frm op l) : ∀ r ∈ ownR fs bs (.mk op s n l x) k0 f to, 1 ≤ r.kind ∧ r.kind ≤ 9 := by
 intro r hr
 rcases own_shape fs bs op s n l x k0 f to hf with ⟨hm, r0, R, e, h1, h2, h3⟩ | ⟨hm, h3⟩
 ·rw [e] at hr
  rcases List.mem_cons.1 hr with rfl | hr
  ·rw [h1]; unfold mkKind; split
   ·decide
   ·split <;> decide
  ·have := h3 r hr; unfold plainK at this; omega
 ·have := h3 r hr; unfold plainK at this; omega
mutual
theorem rT_kinds (fs : List Fn) (bs : List Int) : ∀ (t : T) (k0 : Int) (f : Nat) (to : Int) (rd : Bool), frm t → ∀ r ∈ rT fs bs t k0 f to rd, 1 ≤ r.kind ∧ r.kind ≤ 9
 | .mk op s n l x, k0, f, to, rd, hf, r, hr => by
  obtain ⟨hf, hl⟩ := hf
  simp only [rT] at hr
  split at hr
  ·rcases List.mem_append.1 hr with hr | hr
   ·have := hd_kind fs bs op s n k0 f r hr; omega
   ·exact rB_kinds fs bs n.toNat (k0 + 1) l hl r hr
  ·rcases List.mem_append.1 hr with hr | hr
   ·split at hr
    ·exact own_kinds fs bs op s n l x k0 f to hf r hr
    ·simp at hr
   ·exact rL_kinds fs bs op n f to 0 (k0 + 1) l hl r hr
theorem rL_kinds (fs : List Fn) (bs : List Int) (op n : Int) (f : Nat) (to : Int) : ∀ (i : Nat) (a : Int) (l : List T), frmL l → ∀ r ∈ rL fs bs op n f to i a l, 1 ≤ r.kind ∧ r.kind ≤ 9
 | _, _, [], _, r, hr => by simp [rL] at hr
 | i, a, t :: q, hl, r, hr => by
  simp only [rL] at hr
  rcases List.mem_append.1 hr with hr | hr
  ·exact rT_kinds fs bs t _ _ _ _ hl.1 r hr
  ·exact rL_kinds fs bs op n f to (i + 1) _ q hl.2 r hr
theorem rB_kinds (fs : List Fn) (bs : List Int) (g : Nat) : ∀ (a : Int) (l : List T), frmL l → ∀ r ∈ rB fs bs g a l, 1 ≤ r.kind ∧ r.kind ≤ 9
 | _, [], _, r, hr => by simp [rB] at hr
 | a, t :: q, hl, r, hr => by
  simp only [rB] at hr
  rcases List.mem_append.1 hr with hr | hr
  ·split at hr
   ·exact rT_kinds fs bs t _ _ _ _ hl.1 r hr
   ·simp at hr
  ·exact rB_kinds fs bs g _ q hl.2 r hr
end
def isRk (k : Int) : Bool := decide (k = 1) || decide (k = 8) || decide (k = 9)
def rks (R : List Rule) : List Int := (R.filter fun r => isRk r.kind).map (·.m)
theorem rks_app (a b : List Rule) : rks (a ++ b) = rks a ++ rks b := by simp [rks]
theorem mks_app (a b : List T) : mks (a ++ b) = mks a ++ mks b := by simp [mks]
theorem rks_none (R : List Rule) (h : ∀ y ∈ R, isRk y.kind = false) : rks R = [] := by
 simp only [rks, List.map_eq_nil_iff, List.filter_eq_nil_iff]
 intro y hy
 rw [h y hy]; decide
theorem plain_rk {k : Int} (h : plainK k) : isRk k = false := by unfold plainK at h; simp [isRk]; omega
theorem own_rks (fs : List Fn) (bs : List Int) (op : Int) (s : ByteArray) (n : Int) (l : List T) (x : Int) (k0 : Int) (f : Nat) (to : Int) (hf : Frm op l) : rks (ownR fs bs (.mk op s n l x) k0 f to) = if isMk op then [n] else [] := by
 rcases own_shape fs bs op s n l x k0 f to hf with ⟨hm, r0, R, e, h1, h2, h3⟩ | ⟨hm, h3⟩
 ·rw [e, if_pos hm, show r0 :: R = [r0] ++ R from rfl, rks_app, rks_none R fun y hy => plain_rk (h3 y hy)]
  have : isRk r0.kind = true := by
   rw [h1]
   rcases (isMk_iff op).1 hm with rfl | rfl | rfl <;> rfl
  simp [rks, this, h2]
 ·rw [hm, rks_none _ fun y hy => plain_rk (h3 y hy)]; rfl
theorem leaf_mks {u : T} (h : u.op = 1 ∧ u.l = []) : mks (flatT u) = [] := by
 obtain ⟨op, s, n, l, x⟩ := u
 obtain ⟨h1, h2⟩ := h
 simp only [T.op_mk, T.l_mk] at h1 h2
 subst h1 h2
 simp [flatT, flatL, mks, isMk]
mutual
theorem rT_rks (fs : List Fn) (bs : List Int) : ∀ (t : T) (k0 : Int) (f : Nat) (to : Int) (rd : Bool), frm t → (rd = false → isMk t.op = false) → rks (rT fs bs t k0 f to rd) = mks (flatT t)
 | .mk op s n l x, k0, f, to, rd, hf, hr => by
  obtain ⟨hf, hl⟩ := hf
  have hfl : mks (flatT (.mk op s n l x)) = (if isMk op then [n] else []) ++ mks (flatL l) := by
   rw [flatT, show (T.mk op s n l x) :: flatL l = [.mk op s n l x] ++ flatL l from rfl, mks_app]
   congr 1
   by_cases h : isMk op = true <;> simp [mks, h]
  rw [hfl]
  simp only [rT]
  split
  ·rename_i hfn
   have hop : isMk op = false := by
    have : op = 10 ∨ op = 41 := by simp [isFn] at hfn; omega
    rcases this with rfl | rfl <;> rfl
   rw [rks_app, rks_none _ fun y hy => by rw [hd_kind fs bs op s n k0 f y hy]; rfl, rB_rks fs bs n.toNat (k0 + 1) l hl (hf.fn hfn), hop]
   rfl
  ·rw [rks_app, rL_rks fs bs op n f to 0 (k0 + 1) l hl (fun i u h hr => part_mk hf h (by simpa using hr))]
   congr 1
   cases rd
   ·have := hr rfl
    simp only [T.op_mk] at this
    rw [this]; rfl
   ·rw [if_pos rfl]
    exact own_rks fs bs op s n l x k0 f to hf
theorem rL_rks (fs : List Fn) (bs : List Int) (op n : Int) (f : Nat) (to : Int) : ∀ (i : Nat) (a : Int) (l : List T), frmL l → (∀ j u, l[j]? = some u → (decide (op ≠ 17) || decide (0 < i + j)) = false → isMk u.op = false) → rks (rL fs bs op n f to i a l) = mks (flatL l)
 | _, _, [], _, _ => rfl
 | i, a, t :: r, hl, hr => by
  simp only [rL, flatL, rks_app, mks_app]
  rw [rT_rks fs bs t a f _ (decide (op ≠ 17) || decide (0 < i)) hl.1 (fun h => hr 0 t rfl h), rL_rks fs bs op n f to (i + 1) (a + t.count) r hl.2 (fun j u h hb => hr (j + 1) u (by simpa using h) (by rwa [show i + 1 + j = i + (j + 1) by omega] at hb))]
theorem rB_rks (fs : List Fn) (bs : List Int) (g : Nat) : ∀ (a : Int) (l : List T), frmL l → (∀ u ∈ l, u.op = 32 ∨ (u.op = 1 ∧ u.l = [])) → rks (rB fs bs g a l) = mks (flatL l)
 | _, [], _, _ => rfl
 | a, t :: r, hl, hp => by
  simp only [rB, flatL, rks_app, mks_app]
  rw [rB_rks fs bs g (a + t.count) r hl.2 (fun u hu => hp u (by simp [hu]))]
  congr 1
  split
  ·exact rT_rks fs bs t a g _ true hl.1 (fun h => by cases h)
  ·rename_i h32
   rcases hp t (by simp) with h | h
   ·exact absurd h h32
   ·rw [leaf_mks h]; rfl
end
def riseF : Int → List Int → Prop
 | _, [] => True
 | a, x :: r => a < x ∧ riseF x r
theorem mkF_rise (fs : List Fn) : ∀ (l : List T) (m m' : Int), mkF fs l m = some m' → riseF (m - 1) (mks l)
 | [], m, m', h => trivial
 | t :: r, m, m', h => by
  simp only [mkF] at h
  have hc : mks (t :: r) = (if isMk t.op then [t.n] else []) ++ mks r := by
   rw [show t :: r = [t] ++ r from rfl, mks_app]
   congr 1
   by_cases h : isMk t.op = true <;> simp [mks, h]
  have mono : ∀ (l : List Int) (a b : Int), a ≤ b → riseF b l → riseF a l := fun l a b hab hb => by
   cases l with
   | nil => trivial
   | cons x q => exact ⟨by have := hb.1; omega, hb.2⟩
  unfold mkN at h
  split at h
  ·rename_i hm
   split at h
   ·rename_i hn
    simp only [Option.bind_some] at h
    have ih := mkF_rise fs r _ _ h
    rw [hc, if_pos hm, hn]
    exact ⟨by omega, by rwa [show m + 1 - 1 = m by omega] at ih⟩
   ·simp at h
  ·rename_i hm
   rw [hc, if_neg hm, List.nil_append]
   split at h
   ·split at h
    ·simp only [Option.bind_some] at h
     exact mono _ _ _ (by omega) (mkF_rise fs r _ _ h)
    ·simp at h
   ·simp only [Option.bind_some] at h
    exact mkF_rise fs r _ _ h
mutual
theorem cnt_bare (O : Int) : ∀ t : T, cntO O (bareT t) = cntO O t
 | .mk op s n l x => by simp only [bareT, cntO, cntL_bare O l]
theorem cntL_bare (O : Int) : ∀ l : List T, cntOL O (bareL l) = cntOL O l
 | [] => rfl
 | t :: r => by simp only [bareL, cntOL, cnt_bare O t, cntL_bare O r]
end
theorem rules_kinds (t : T) (h : (rulesM t).2.2.2 = 0) : (∀ r ∈ (rulesM t).2.1.2.2, 1 ≤ r.kind ∧ r.kind ≤ 9) ∧ riseF 3 (rks (rulesM t).2.1.2.2) ∧ cntK 1 (rulesM t).2.1.2.2 = cntO 11 t ∧ cntK 8 (rulesM t).2.1.2.2 = cntO 15 t ∧ cntK 9 (rulesM t).2.1.2.2 = cntO 16 t ∧ cntO 10 t + cntO 41 t ≤ cntK 2 (rulesM t).2.1.2.2 := by
 unfold rulesM at h ⊢
 simp only at h ⊢
 split at h
 ·rename_i h0; exact absurd h h0
 ·rename_i h0
  simp only [ne_eq, Classical.not_not] at h0
  split at h
  ·simp at h
  ·rename_i hs
   rw [if_neg (by simpa using h0), if_neg hs]
   simp only
   have hf := resolve_frm t h0
   obtain ⟨m, hm⟩ := resolve_marks t h0
   have hb := (resolve_bare t h0).1
   have cb : ∀ O, cntO O (resolve t).2.1 = cntO O t := fun O => by
    have := cnt_bare O (resolve t).2.1
    rw [hb] at this; exact this.symm
   refine ⟨rT_kinds _ _ _ _ _ _ _ hf, ?_, ?_, ?_, ?_, ?_⟩
   ·rw [rT_rks _ _ _ _ _ _ _ hf (fun h => by cases h)]
    exact mkF_rise _ _ _ _ hm
   ·rw [rT_cnt _ _ 1 11 (by omega) _ _ _ _ _ hf (fun h => by cases h), cb]
   ·rw [rT_cnt _ _ 8 15 (by omega) _ _ _ _ _ hf (fun h => by cases h), cb]
   ·rw [rT_cnt _ _ 9 16 (by omega) _ _ _ _ _ hf (fun h => by cases h), cb]
   ·rw [← cb 10, ← cb 41]
    exact rT_two _ _ _ _ _ _ _ hf
mutual
theorem cntO_le (op : Int) : ∀ t : T, cntO op t ≤ t.count
 | .mk o _ _ l _ => by
  have := cntOL_le op l
  simp only [cntO, T.count]
  split <;> omega
theorem cntOL_le (op : Int) : ∀ l : List T, cntOL op l ≤ T.countL l
 | [] => Nat.le_refl _
 | t :: r => by
  have h1 := cntO_le op t
  have h2 := cntOL_le op r
  simp only [cntOL, T.countL]; omega
end
theorem cntOL_take_succ (op : Int) {l : List T} {i : Nat} {t : T} (h : l[i]? = some t) : cntOL op (l.take (i + 1)) = cntOL op (l.take i) + cntO op t := by
 induction l generalizing i with
 | nil => simp at h
 | cons a r ih =>
  rcases i with _ | i
  ·simp at h; subst h; simp [cntOL]
  ·simp only [List.take_succ_cons, cntOL, ih (by simpa using h)]; omega
theorem f37 (q : Int) (n : Nat) : ∀ t : T, t.wt ≤ n → t.wt ≤ 100000000000 → ∀ k, n + 2 ≤ k → PureC k 37 [.agg t.enc, .int .i64 q] (.int .i64 (cntO q t : Nat)) := by
 induction n with
 | zero => intro t h; cases t; simp [T.wt] at h
 | succ n ih =>
  intro t ht htm k hk E st hE
  obtain ⟨k, rfl⟩ : ∃ k', k = k' + 1 := ⟨k - 1, by omega⟩
  have hcw := count_wt t
  obtain ⟨op, s0, nn, l, line⟩ := t
  simp only [T.wt] at ht htm
  have hlw := T.len_wtL l
  simp only [T.count, T.wt] at hcw
  have hcl := cntOL_le q l
  have hE2 : E.Wf ⟨st.H ++ [.cells 24 [.int .i64 op, .str s0, .int .i64 nn, .sl none l.length (T.encL l), .int .i64 line]], st.I⟩ := hE.of (by simp) (by simp)
  have hb : (if op = q then 1 else 0 : Nat) ≤ 1 := by split <;> omega
  have hgoal : cntO q (.mk op s0 nn l line) = (if op = q then 1 else 0) + cntOL q l := rfl
  rw [hgoal]
  refine call_in2 rfl rfl (by decide) fun s hs e0 e1 => ?_
  rw [WP_assoc, WP_assoc]
  refine WP_seqM (fun s' m' st' => m' = [] ∧ s'.length = 28 ∧ lk s' 1 = .int .i64 q ∧ lk s' 2 = .ptr st.H.length 0 ∧ lk s' 5 = .int .i64 ((if op = q then 1 else 0 : Nat) : Int) ∧ st' = ⟨st.H ++ [.cells 24 [.int .i64 op, .str s0, .int .i64 nn, .sl none l.length (T.encL l), .int .i64 line]], st.I⟩) ?_ ?_
  ·by_cases h : op = q
   ·simp [hs, e0, e1, h]
    exact ⟨rfl, rfl, by simp [hs], by simp [hs, e1], by simp [hs], by simp [hs, h], by rw [h]⟩
   ·simp [hs, e0, e1, h]
    exact ⟨rfl, rfl, by simp [hs], by simp [hs, e1], by simp [hs], by simp [hs, h], rfl⟩
  clear hs e0 e1 s
  rintro s _ _ ⟨rfl, hs, e1, e2, e5, rfl⟩
  generalize (if op = q then 1 else 0 : Nat) = b at hb e5 ⊢
  simp [hs, e1, e2, e5]
  refine WP_loop (fun n s m st' => ∃ j : Nat, j ≤ l.length ∧ n = l.length - j ∧ s.length = 28 ∧ m = [] ∧ lk s 1 = .int .i64 q ∧ lk s 2 = .ptr st.H.length 0 ∧ lk s 5 = .int .i64 ((b + cntOL q (l.take j) : Nat) : Int) ∧ lk s 6 = .int .i64 j ∧
   st' = ⟨st.H ++ [.cells 24 [.int .i64 op, .str s0, .int .i64 nn, .sl none l.length (T.encL l), .int .i64 line]], st.I⟩) l.length (by omega)
   ⟨0, by omega, by omega, by simp [hs], rfl, by simp [hs, e1], by simp [hs, e2], by simp [hs, e5, cntOL], by simp [hs], rfl⟩ ?_
  clear hs e1 e2 e5 s
  rintro _ s m _ ⟨j, hj, rfl, hs, rfl, e1, e2, e5, e6, rfl⟩
  by_cases hc : j < l.length
  ·obtain ⟨t, hg⟩ : ∃ t, l[j]? = some t := ⟨_, List.getElem?_eq_getElem hc⟩
   have hrd := T.rd hg
   have hwj := wrap64 (n := (j : Int) + 1) (by omega)
   have hwt := T.wtL_get hg
   have hts := cntOL_take_succ q hg
   have hws := wtL_split hg
   have h1 := cntOL_le q (l.take j)
   have h2 := countL_take_le l j
   have h3 := cntO_le q t
   have h4 := count_wt t
   have hwc := wrap64 (n := (b + cntOL q (l.take j) : Nat) + (cntO q t : Nat)) (by omega)
   have c37 := (ih t (by omega) (by omega) k (by omega)).full rfl hE2
   rw [T.enc_eq] at hrd c37
   push_cast at e5 hwc
   simp [hs, e1, e2, e5, e6, hc, hrd, c37, hwc]
   simp [hs, e6, hwj]
   exact ⟨_, by omega, j + 1, by omega, rfl, by simp [hs], rfl, by simp [hs, e1], by simp [hs, e2], by simp [hs, hts]; omega, by simp [hs], rfl⟩
  ·have : j = l.length := by omega
   subst this
   rw [List.take_length] at e5
   push_cast at e5
   simp [hs, e1, e2, e5, e6]
   exact Grow.appH _ _
def cnts (R : List Rule) : List AV := (List.range 10).map fun i : Nat => .int .i64 (cntK (i : Int) R : Nat)
theorem cntK_snoc (K : Int) (R : List Rule) (r : Rule) : cntK K (R ++ [r]) = cntK K R + if r.kind = K then 1 else 0 := by
 rw [cntK_app]; simp [cntK, List.countP_cons]
theorem cnts_get (R : List Rule) (i : Nat) (hi : i < 10) : (cnts R)[i]? = some (.int .i64 (cntK i R : Nat)) := by
 simp [cnts, List.getElem?_map, List.getElem?_range hi]
theorem cnts_len (R : List Rule) : (cnts R).length = 10 := by simp [cnts]
theorem cnts_wr (R : List Rule) (r : Rule) (i : Nat) (hi : i < 10) (h : r.kind = i) : wrC (cnts R) i [.int .i64 ((cntK i R : Nat) + 1)] = cnts (R ++ [r]) := by
 apply List.ext_getElem?
 intro j
 unfold wrC
 by_cases hj : j < 10
 ·rw [cnts_get _ j hj, cntK_snoc, h]
  rcases Nat.lt_trichotomy j i with hji | hji | hji
  ·rw [List.append_assoc, List.getElem?_append_left (by simp [cnts_len]; omega), List.getElem?_take_of_lt hji, cnts_get _ j hj, if_neg (by omega)]; rfl
  ·subst hji
   rw [List.append_assoc, List.getElem?_append_right (by simp [cnts_len]; omega), if_pos rfl]
   simp [cnts_len, Nat.min_eq_left (Nat.le_of_lt hi)]
  ·rw [List.getElem?_append_right (by simp [cnts_len]; omega), if_neg (by omega)]
   simp only [List.length_append, List.length_take, cnts_len, List.length_cons, List.length_nil, Nat.zero_add, List.getElem?_drop]
   rw [show i + 1 + (j - (min i 10 + 1)) = j by omega, cnts_get _ j hj]; rfl
 ·rw [List.getElem?_eq_none (by simp [cnts_len]; omega), List.getElem?_eq_none (by rw [cnts_len]; omega)]
theorem cnts_one (R : List Rule) : (cnts R).all AV.one = true := by simp [cnts, AV.one]
def lastM : Int → List Rule → Int
 | a, [] => a
 | a, x :: q => lastM (if isRk x.kind then x.m else a) q
theorem lastM_snoc : ∀ (R : List Rule) (a : Int) (j : Nat) (r : Rule), R[j]? = some r → lastM a (R.take (j + 1)) = if isRk r.kind then r.m else lastM a (R.take j)
 | [], a, j, r, h => by simp at h
 | x :: q, a, 0, r, h => by simp at h; subst h; simp [lastM]
 | x :: q, a, j + 1, r, h => by
  simp only [List.take_succ_cons, lastM]
  exact lastM_snoc q _ j r (by simpa using h)
theorem rise_at : ∀ (R : List Rule) (a : Int) (j : Nat) (r : Rule), riseF a (rks R) → R[j]? = some r → isRk r.kind = true → lastM a (R.take j) < r.m
 | [], a, j, r, _, h, _ => by simp at h
 | x :: q, a, j, r, hr, h, hk => by
  have hc : rks (x :: q) = (if isRk x.kind then [x.m] else []) ++ rks q := by
   rw [show x :: q = [x] ++ q from rfl, rks_app]
   congr 1
   by_cases hx : isRk x.kind = true <;> simp [rks, hx]
  rw [hc] at hr
  rcases j with _ | j
  ·simp at h; subst h
   rw [if_pos hk] at hr
   exact hr.1
  ·simp only [List.take_succ_cons, lastM]
   refine rise_at q _ j r ?_ (by simpa using h) hk
   by_cases hx : isRk x.kind = true
   ·rw [if_pos hx] at hr ⊢; exact hr.2
   ·rw [if_neg hx] at hr ⊢; exact hr
theorem cntK_le (K : Int) (R : List Rule) : cntK K R ≤ R.length := List.countP_le_length
theorem rnd15 {E : Env} {H : List ABlk} {I : List (Nat × Nat)} (hE : E.Wf ⟨H, I⟩) (S fv x0 : AV) (b1 b5 b8 : Nat) (R : List Rule) (hRl : R.length ≤ 1000000000000) (s : List AV) (hs : s.length = 105) (e5 : lk s 5 = .ptr b5 0) (e8 : lk s 8 = .ptr b8 0) (j : Nat) (e10 : lk s 10 = .int .i64 j) (e9 : lk s 9 = .int .i64 (lastM 3 (R.take j)))
  (p5 : H[b5]? = some (.cells 49 [S, fv, .sl none R.length (encR R)])) (p8 : H[b8]? = some (.cells 56 (cnts (R.take j)))) (hmw8 : ∀ x y, mayWrite E b8 x y = true) (h58 : b5 ≠ b8) (r : Rule) (hg : R[j]? = some r) (i : Nat) (hi : 1 ≤ i ∧ i ≤ 9) (hri : r.kind = i) (hrise : isRk r.kind = true → lastM 3 (R.take j) < r.m) (m : List Nat) (k : Nat) (Q : Q4)
  (hQ : ∀ s' X, s'.length = 105 → (∀ q, q = 1 ∨ q = 3 ∨ q = 5 ∨ q = 8 → lk s' q = lk s q) → lk s' 10 = .int .i64 ((j + 1 : Nat) : Int) → lk s' 9 = .int .i64 (lastM 3 (R.take (j + 1))) → Q .nrm s' m ⟨(H ++ X).set b8 (.cells 56 (cnts (R.take (j + 1)))), I⟩) :
  WP (aCall prog k) E k none l15 s m ⟨H, I⟩ Q := by
 have hmw := mayWrite_new hE
 have hjl := (List.getElem?_eq_some_iff.1 hg).1
 have hrd := encR_rd hg
 have hwj := wrap64 (n := (j : Int) + 1) (by omega)
 have hcn := cnts_get (R.take j) i (by omega)
 have hcn2 := (List.getElem?_eq_some_iff.1 hcn).2
 have hcl := cnts_len (R.take j)
 have hco := cnts_one (R.take j)
 have hle := cntK_le i (R.take j)
 have hle2 : (R.take j).length ≤ j := by simp; omega
 have hwc := wrap64 (n := ((cntK i (R.take j) : Nat) : Int) + 1) (by omega)
 have hnew : R.take j ++ [r] = R.take (j + 1) := by rw [List.take_add_one, hg]; rfl
 have hwr := cnts_wr (R.take j) r i (by omega) hri
 rw [hnew] at hwr
 have hls := lastM_snoc R 3 j r hg
 have hb5 := (List.getElem?_eq_some_iff.1 p5).1
 have hb8 := (List.getElem?_eq_some_iff.1 p8).1
 have a8 : ∀ y, (H ++ y)[b8]? = some (.cells 56 (cnts (R.take j))) := fun y => getE_old p8
 have n8 : b8 ≠ H.length := by omega
 simp only [Rule.enc] at hrd
 rw [hri] at hrd hls hrise
 have c1 : ¬ (i : Int) < 1 := by omega
 have c1' : ¬ i < 1 := by omega
 have c1'' : ¬ i = 0 := by omega
 have c2 : ¬ (9 : Int) < i := by omega
 have c2' : ¬ 9 < i := by omega
 have c3 : (i : Int) < 10 := by omega
 have c3' : i < 10 := by omega
 have w1 : ∀ y z, ((H ++ y).set b8 z)[H.length]? = y[0]? := fun y z => by rw [List.getElem?_set_ne n8]; simp
 obtain ⟨bb, hbb⟩ : ∃ b, isRk (i : Int) = b := ⟨_, rfl⟩
 have fin : ∀ s' X, s'.length = 105 → (∀ q, q = 1 ∨ q = 3 ∨ q = 5 ∨ q = 8 → lk s' q = lk s q) → lk s' 10 = .int .i64 ((j : Int) + 1) → lk s' 9 = .int .i64 (if isRk (i : Int) = true then r.m else lastM 3 (R.take j)) → Q .nrm s' m ⟨(H ++ X).set b8 (.cells 56 (cnts (R.take (j + 1)))), I⟩ := fun s' X a b c d => hQ s' X a b (by simpa using c) (by rw [hls]; exact d)
 unfold l15
 cases bb
 ·have k1 : ¬ i = 1 := by rintro rfl; simp [isRk] at hbb
  have k8 : ¬ i = 8 := by rintro rfl; simp [isRk] at hbb
  have k9 : ¬ i = 9 := by rintro rfl; simp [isRk] at hbb
  have k1' : ¬ (i : Int) = 1 := by omega
  have k8' : ¬ (i : Int) = 8 := by omega
  have k9' : ¬ (i : Int) = 9 := by omega
  rw [hbb] at fin
  simp [hs, e5, e10, p5, hjl, hrd, storeA, hmw, wrC]
  simp [hs, c1, c1', c1'', c2, c2']
  simp [hs, e8, c3, c3', hi.2, a8, hcn, hcn2, hwc, storeA, hmw8, hcl, hco, hwr]
  simp [hs, w1, n8, List.getElem_set_ne n8, k1, k8, k9, k1', k8', k9']
  simp [hs, e10, hwj]
  refine fin _ _ ?_ (fun q hq => ?_) ?_ ?_
  ·simp [hs]
  ·rcases hq with rfl | rfl | rfl | rfl <;> simp [hs]
  ·simp [hs]
  ·simp [hs, e9]
 ·have hlt := hrise hbb
  have hlm : ¬ r.m ≤ lastM 3 (R.take j) := by omega
  generalize hLM : lastM 3 (R.take j) = LM at e9 hlm hlt fin
  rw [hbb] at fin
  have k189 : i = 1 ∨ i = 8 ∨ i = 9 := by simp [isRk] at hbb; omega
  simp [hs, e5, e10, p5, hjl, hrd, storeA, hmw, wrC]
  simp [hs, c1, c1', c1'', c2, c2']
  simp [hs, e8, c3, c3', hi.2, a8, hcn, hcn2, hwc, storeA, hmw8, hcl, hco, hwr]
  rcases k189 with rfl | rfl | rfl
  all_goals
   simp [hs, w1, n8, List.getElem_set_ne n8, e9, hlm]
   simp [hs, w1, n8, List.getElem_set_ne n8, e9, e10, hwj, hlm]
   refine fin _ _ ?_ (fun q hq => ?_) ?_ ?_
   ·simp [hs]
   ·rcases hq with rfl | rfl | rfl | rfl <;> simp [hs]
   ·simp [hs]
   ·simp [hs]
theorem f15 (t : T) (ht : t.ok) (hw : t.wt ≤ 1000000000) (k : Nat) (hk : 40 * t.wt + 2000000 ≤ k) (E : Env) (st : St) (hE : E.Wf st)
  (h32 : ∀ y, doCall (aCall prog k) E .full (.fn 32) [] ⟨st.H ++ [y], st.I⟩ = some (.ok (.bool true), ⟨st.H ++ [y], st.I⟩)) : CallQ (k + 1) E 15 [.agg t.enc] st (Tru st) := by
 have hmw := mayWrite_new hE
 have hmw1 : ∀ j x y, mayWrite E (st.H.length + j) x y = true := fun j x y => hmw _ _ _ (by omega)
 have hcw0 := count_wt t
 have c19 := fun st3 (h : E.Wf st3) => (f19 t k (by omega)).full (E := E) (st := st3) rfl h
 have c33 := fun st3 (h : E.Wf st3) => (rules33 t ht hw k (by omega)).full (E := E) (st := st3) (rulV_refs _) h
 have c37 := fun q st3 (h : E.Wf st3) => (f37 q t.wt t (Nat.le_refl _) (by omega) k (by omega)).full (E := E) (st := st3) rfl h
 obtain ⟨h1, h2, h3⟩ := rulesM_lims t
 have hkd := rules_kinds t
 have hco := fun op => cntO_le op t
 have hcw := count_wt t
 obtain ⟨op, s0, nn, l, line⟩ := t
 rw [rulesM_sys] at c33
 generalize rulesM (.mk op s0 nn l line) = Rr at *
 obtain ⟨fs, ⟨S, F, R⟩, x, y⟩ := Rr
 simp only at c33 h1 h2 h3 hkd
 simp only [T.enc, sysE] at c19 c33 c37
 refine call_in1 (c0 := y15a) rfl rfl (by decide) fun s hs e0 => ?_
 have hE1 : ∀ y, E.Wf ⟨st.H ++ y, st.I⟩ := fun y => hE.of (by simp) (by simp)
 unfold y15a
 by_cases h : szT 1500 (.mk op s0 nn l line) < 0
 ·simp [hs, e0, h32, c19 _ (hE1 _), h]
  exact .of (Grow.appH _ _)
 by_cases hy : y = 0
 rotate_left
 ·simp [hs, e0, h32, c19 _ (hE1 _), h, c33 _ (hE1 _), storeA, hmw, wrC, hy]
  exact .of (Grow.appH _ _)
 obtain ⟨d1, d2, d3, d4, d5, d6⟩ := hkd hy
 subst hy
 simp [hs, e0, h32, c19 _ (hE1 _), h, c33 _ (hE1 _), storeA, hmw, hmw1, wrC, fillA]
 refine WP_loop (fun n s m st' => ∃ (j : Nat) (X : List ABlk), j ≤ R.length ∧ n = R.length - j ∧ s.length = 105 ∧ m = [] ∧ lk s 1 = .ptr st.H.length 0 ∧ lk s 3 = .bool true ∧ lk s 5 = .ptr (st.H.length + 1) 0 ∧ lk s 8 = .ptr (st.H.length + 2) 0 ∧ lk s 9 = .int .i64 (lastM 3 (R.take j)) ∧ lk s 10 = .int .i64 j ∧
  st' = ⟨st.H ++ ([.cells 24 [.int .i64 op, .str s0, .int .i64 nn, .sl none l.length (T.encL l), .int .i64 line], .cells 49 [.int .i64 S, .sl none F.length (encFS F), .sl none R.length (encR R)], .cells 56 (cnts (R.take j))] ++ X), st.I⟩) R.length (by omega)
  ⟨0, [], by omega, by omega, by simp [hs], rfl, by simp [hs], by simp [hs], by simp [hs], by simp [hs], by simp [hs, lastM], by simp [hs], by simp [cnts, cntK]; rfl⟩ ?_
 clear hs e0 s
 rintro _ s m _ ⟨j, X, hj, rfl, hs, rfl, e1, e3, e5, e8, e9, e10, rfl⟩
 have q1 : (st.H ++ ([ABlk.cells 24 [.int .i64 op, .str s0, .int .i64 nn, .sl none l.length (T.encL l), .int .i64 line], .cells 49 [.int .i64 S, .sl none F.length (encFS F), .sl none R.length (encR R)], .cells 56 (cnts (R.take j))] ++ X))[st.H.length + 1]? = some (.cells 49 [.int .i64 S, .sl none F.length (encFS F), .sl none R.length (encR R)]) := by rw [getE_app]; rfl
 have q2 : (st.H ++ ([ABlk.cells 24 [.int .i64 op, .str s0, .int .i64 nn, .sl none l.length (T.encL l), .int .i64 line], .cells 49 [.int .i64 S, .sl none F.length (encFS F), .sl none R.length (encR R)], .cells 56 (cnts (R.take j))] ++ X))[st.H.length + 2]? = some (.cells 56 (cnts (R.take j))) := by rw [getE_app]; rfl
 by_cases hc : j < R.length
 ·obtain ⟨r, hg⟩ : ∃ r, R[j]? = some r := ⟨_, List.getElem?_eq_getElem hc⟩
  have hk2 := d1 r (List.mem_of_getElem? hg)
  refine rnd15 (hE1 _) (.int .i64 S) (.sl none F.length (encFS F)) .nils st.H.length (st.H.length + 1) (st.H.length + 2) R (by omega) s hs e5 e8 j e10 e9 q1 q2 (hmw1 2) (by omega) r hg r.kind.toNat (by omega) (by omega) (rise_at R 3 j r d2 hg) [] k _ ?_
  intro s' X' a b c d
  refine ⟨_, by omega, j + 1, X ++ X', by omega, rfl, a, rfl, by rw [b 1 (by omega)]; exact e1, by rw [b 3 (by omega)]; exact e3, by rw [b 5 (by omega)]; exact e5, by rw [b 8 (by omega)]; exact e8, d, c, ?_⟩
  rw [List.append_assoc, set_app]
  simp
 have hjR : j = R.length := by omega
 subst hjR
 rw [List.take_length] at q2 e9
 have q0 : (st.H ++ ([ABlk.cells 24 [.int .i64 op, .str s0, .int .i64 nn, .sl none l.length (T.encL l), .int .i64 line], .cells 49 [.int .i64 S, .sl none F.length (encFS F), .sl none R.length (encR R)], .cells 56 (cnts R)] ++ X))[st.H.length]? = some (.cells 24 [.int .i64 op, .str s0, .int .i64 nn, .sl none l.length (T.encL l), .int .i64 line]) := by simp
 rw [List.take_length]
 rw [List.take_length] at q1
 have hEf := hE1 ([ABlk.cells 24 [.int .i64 op, .str s0, .int .i64 nn, .sl none l.length (T.encL l), .int .i64 line], .cells 49 [.int .i64 S, .sl none F.length (encFS F), .sl none R.length (encR R)], .cells 56 (cnts R)] ++ X)
 have hGr : Grow st ⟨st.H ++ ([ABlk.cells 24 [.int .i64 op, .str s0, .int .i64 nn, .sl none l.length (T.encL l), .int .i64 line], .cells 49 [.int .i64 S, .sl none F.length (encFS F), .sl none R.length (encR R)], .cells 56 (cnts R)] ++ X), st.I⟩ := Grow.appH _ _
 generalize st.H ++ ([ABlk.cells 24 [.int .i64 op, .str s0, .int .i64 nn, .sl none l.length (T.encL l), .int .i64 line], .cells 49 [.int .i64 S, .sl none F.length (encFS F), .sl none R.length (encR R)], .cells 56 (cnts R)] ++ X) = HH at q0 q1 q2 hEf hGr ⊢
 have g1 := cnts_get R 1 (by omega)
 have g2 := cnts_get R 2 (by omega)
 have g8 := cnts_get R 8 (by omega)
 have g9 := cnts_get R 9 (by omega)
 have d3 : cntK ((1 : Nat) : Int) R = cntO 11 (.mk op s0 nn l line) := d3
 have d4 : cntK ((8 : Nat) : Int) R = cntO 15 (.mk op s0 nn l line) := d4
 have d5 : cntK ((9 : Nat) : Int) R = cntO 16 (.mk op s0 nn l line) := d5
 have d6 : cntO 10 (.mk op s0 nn l line) + cntO 41 (.mk op s0 nn l line) ≤ cntK ((2 : Nat) : Int) R := d6
 rw [d3] at g1
 rw [d4] at g8
 rw [d5] at g9
 have o10 := hco 10
 have o41 := hco 41
 have k11 := c37 11 _ hEf
 have k15 := c37 15 _ hEf
 have k16 := c37 16 _ hEf
 have k10 := c37 10 _ hEf
 have k41 := c37 41 _ hEf
 generalize cntK ((2 : Nat) : Int) R = n2 at g2 d6
 generalize cntO 11 (.mk op s0 nn l line) = n11 at g1 k11
 generalize cntO 15 (.mk op s0 nn l line) = n15 at g8 k15
 generalize cntO 16 (.mk op s0 nn l line) = n16 at g9 k16
 generalize cntO 10 (.mk op s0 nn l line) = n10 at d6 o10 k10
 generalize cntO 41 (.mk op s0 nn l line) = n41 at d6 o41 k41
 generalize hcs : cnts R = cs at q2 g1 g2 g8 g9
 have g1' := (List.getElem?_eq_some_iff.1 g1).2
 have g2' := (List.getElem?_eq_some_iff.1 g2).2
 have g8' := (List.getElem?_eq_some_iff.1 g8).2
 have g9' := (List.getElem?_eq_some_iff.1 g9).2
 have hws := wrap64 (n := (n10 : Int) + n41) (by omega)
 have hge : ((n10 : Int) + n41) ≤ n2 := by omega
 unfold l15
 simp [hs, e5, e10, q1]
 simp [-nxtD_ok2, -sb_some, nxtD_ok2L, sb_someL, Nat.testBit, hs, e1, e3, e8, q0, q2, g1, g2, g8, g9, g1', g2', g8', g9', k11, k15, k16, k10, k41, hws, hge, isEff]
 exact .of hGr
theorem says15 (t : T) (ht : t.ok) (hw : t.wt ≤ 1048576) : Says 15 [.agg t.enc] :=
 says_of (f15 t ht (by omega) (40 * t.wt + 2000000) (Nat.le_refl _) E0 ⟨[], []⟩ wf0 (fun y => k32at (by omega) y))
end Go.Proofs.YP
