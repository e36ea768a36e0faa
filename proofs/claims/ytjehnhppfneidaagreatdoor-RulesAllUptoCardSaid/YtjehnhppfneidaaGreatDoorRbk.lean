/- Texts that the laws of the seat rest on: an abstract machine, what the functions answer in it, plain laws. -/
import Derived.Test.YtjehnhppfneidaaGreatDoorRbf
import Derived.Test.YtjehnhppfneidaaGreatDoorRbj
import Derived.Test.YtjehnhppfneidaaGreatDoorRows
import Derived.ProofKit
import Derived.OpenShut
import Derived.Deep.DeepHandedRow
import Derived.Deep.DeepWitnessRowRef
import Derived.Lib.LaidTab
import Derived.LaidMore
import Derived.ReadAgain
import Derived.ChangeStays
import Derived.PinnedBridge
import Derived.Lib.LaidIn
import Derived.Stop.LaidErr
import Derived.LaidSub
set_option linter.unusedVariables false
set_option linter.unusedSimpArgs false
set_option linter.unusedSectionVars false
namespace Go.Proofs.YP
open Go Go.RowKit Go.ChangeShapes Go.Proofs.YtjehnhppfneidaaGreatDoor
theorem under22 : Tryz.prog.underlying 22 = some (.slice 24) := Tryz.underlying22
theorem cells24 : Tryz.prog.cellsOf 24 = 5 := by kernel_rfl
theorem cells22 : Tryz.prog.cellsOf 22 = 1 := by kernel_rfl
theorem cells9 : Tryz.prog.cellsOf 9 = 1 := by kernel_rfl
theorem cells3 : Tryz.prog.cellsOf 3 = 1 := by kernel_rfl
theorem cells2 : Tryz.prog.cellsOf 2 = 1 := by kernel_rfl
theorem rc_of {w : World} {g : Nat} : ∀ (cs : List AV) (q : Nat) (xs : List Value), RVs (G0 w) cs xs → (∀ i x, xs[i]? = some x → w.cell? ⟨g, q + i, none⟩ = some x) → RC (G0 w) g q cs
 | [], q, xs, _, _ => by simp only [RC]
 | c :: cs, q, xs, h, hc => by
  simp only [RVs] at h
  obtain ⟨y, ys, rfl, h1, h2⟩ := h
  simp only [RC]
  have h0 := hc 0 y rfl
  refine ⟨⟨y, ?_, h1⟩, rc_of cs (q + 1) ys h2 fun i x e => ?_⟩
  ·simp only [G0]
   have hg : g < w.heap.size := by
    rcases Nat.lt_or_ge g w.heap.size with h | h
    ·exact h
    ·simp [World.cell?, Array.getElem?_eq_none h] at h0
   rw [if_pos hg]
   simpa using h0
  ·have := hc (i + 1) x (by simpa using e)
   rw [show q + 1 + i = q + (i + 1) by omega]; exact this
theorem bulk_one {H : Type} (d : DataW H) : 1 ≤ Rows.uptoBulk d := by
 cases d with
 | lit l => cases l <;> simp [Rows.uptoBulk]
 | _ => simp [Rows.uptoBulk]
theorem bulk_len {H : Type} (l : List (DataW H)) : l.length ≤ Rows.uptoBulkAll l := by
 induction l with
 | nil => simp [Rows.uptoBulkAll]
 | cons x r ih => have := bulk_one x; simp only [Rows.uptoBulkAll, List.length_cons]; omega
theorem cells_get {w : World} {a : Addr} {n : Nat} {cs : List Value} (h : w.cells? 0 a n = some cs) : cs.length = n ∧ ∀ i x, cs[i]? = some x → w.cell? (a.add i) = some x := by
 unfold World.cells? at h
 rw [if_pos (Nat.zero_le _)] at h
 have hl := mapM_some_length h
 simp at hl
 refine ⟨hl, fun i x e => ?_⟩
 have hi : i < n := by rw [← hl]; exact uB e
 have := mapM_some_get h i i (by simp [hi])
 rw [this]; exact e
theorem wf_i64 {n : Int} (h : (Lit.int .i64 n).wf = true) : ok64 n := by
 simp only [Lit.wf, Bool.and_eq_true, decide_eq_true_eq] at h
 have e1 : IntKind.min .i64 = -9223372036854775808 := by decide
 have e2 : IntKind.max .i64 = 9223372036854775807 := by decide
 rw [e1, e2] at h
 exact h
theorem cell_spot {w : World} {a : Addr} {x : Value} (h : w.cell? a = some x) : a.spot = none := by
 unfold World.cell? at h
 cases hs : a.spot with
 | none => rfl
 | some z =>
  rw [hs] at h
  split at h
  ·simp at h
  ·cases h
theorem add_cell {w : World} {a : Addr} {n k : Nat} {x : Value} (h : w.cell? ((a.add n).add k) = some x) : w.cell? ⟨a.block, a.off + n + k, none⟩ = some x := by
 obtain ⟨b, o, sp⟩ := a
 by_cases hn : n = 0
 ·by_cases hk : k = 0
  ·have hs := cell_spot h
   simp only [Addr.add, hn, hk, if_true] at hs h ⊢
   subst hs
   simpa using h
  ·simp only [Addr.add, hn, hk, if_true, if_false] at h ⊢
   simpa using h
 ·by_cases hk : k = 0
  ·simp only [Addr.add, hn, hk, if_true, if_false] at h ⊢
   simpa using h
  ·simp only [Addr.add, hn, hk, if_false] at h ⊢
   exact h
section
variable {H : Type} {enc : TypeId × Value → H} {w : World}
theorem list_of (g q : Nat) (f : Nat → T → Prop) : ∀ (n i : Nat), (∀ j, i ≤ j → j < i + n → ∃ t : T, f j t ∧ ∃ cs : List Value, cs.length = 5 ∧ RVs (G0 w) t.enc cs ∧ ∀ k x, cs[k]? = some x → w.cell? ⟨g, q + j * 5 + k, none⟩ = some x) →
  ∃ l : List T, l.length = n ∧ (∀ j t, l[j]? = some t → f (i + j) t) ∧ ∃ cs : List Value, RVs (G0 w) (T.encL l) cs ∧ ∀ k x, cs[k]? = some x → w.cell? ⟨g, q + i * 5 + k, none⟩ = some x
 | 0, i, _ => ⟨[], rfl, by simp, [], by simp [RVs], by simp⟩
 | n + 1, i, h => by
  obtain ⟨t, ht, cs, hl, hr, hc⟩ := h i (Nat.le_refl _) (by omega)
  obtain ⟨l, h1, h2, cs', h3, h4⟩ := list_of g q f n (i + 1) (fun j h5 h6 => h j (by omega) (by omega))
  refine ⟨t :: l, by simp [h1], fun j u e => ?_, cs ++ cs', by rw [T.encL_cons]; exact hr.append h3, fun k x e => ?_⟩
  ·rcases j with _ | j
   ·simp at e; subst e; exact ht
   ·simp at e
    have := h2 j u e
    rwa [show i + (j + 1) = i + 1 + j by omega]
  ·rcases Nat.lt_or_ge k 5 with hk | hk
   ·rw [List.getElem?_append_left (by omega)] at e; exact hc k x e
   ·rw [List.getElem?_append_right (by omega), hl] at e
    have := h4 _ x e
    rwa [show q + (i + 1) * 5 + (k - 5) = q + i * 5 + k by omega] at this
theorem wtL_le (b : Nat → Nat) : ∀ (l : List T) (ds : List (DataW H)), l.length = ds.length → (∀ (j : Nat) (t : T) (d : DataW H), l[j]? = some t → ds[j]? = some d → t.ok ∧ t.wt ≤ Rows.uptoBulk d) → T.okL l ∧ T.wtL l ≤ Rows.uptoBulkAll ds
 | [], ds, _, _ => ⟨trivial, by simp [T.wtL]⟩
 | t :: r, [], h, _ => by simp at h
 | t :: r, d :: ds, h, hh => by
  have h1 := hh 0 t d rfl rfl
  have h2 := wtL_le b r ds (by simpa using h) fun j u e h3 h4 => hh (j + 1) u e (by simpa using h3) (by simpa using h4)
  exact ⟨⟨h1.1, h2.1⟩, by simp only [T.wtL, Rows.uptoBulkAll]; omega⟩
theorem five {α : Type} (l : List α) (h : l.length = 5) : ∃ a b c d e, l = [a, b, c, d, e] := by
 match l, h with
 | [a, b, c, d, e], _ => exact ⟨a, b, c, d, e, rfl⟩
theorem open_tree {sp : Nat → Bool} {hd : Bool} : ∀ (n : Nat) (cs : List Value) (x : DataW H × List MemPlace), DataW.trod enc Tryz.prog w 0 sp hd n 24 cs = some x → Rows.uptoBulk x.1 ≤ 1048576 →
  ∃ t : T, t.ok ∧ t.wt ≤ Rows.uptoBulk x.1 ∧ RVs (G0 w) t.enc cs := by
 intro n
 induction n using Nat.strongRecOn with
 | ind n ih =>
 intro cs x h hb
 obtain ⟨xs, m, rfl, rfl, hl, hxl, hf⟩ := DataW.trod_struct Tryz.underlying24 h
 rw [cells24] at hl
 have f0 : DataW.trod enc Tryz.prog w 0 sp hd m 3 ((cs.drop 0).take (Tryz.prog.cellsOf 3)) = xs[0]? := hf 0 _ rfl
 rw [cells3] at f0
 have f1 : DataW.trod enc Tryz.prog w 0 sp hd m 9 ((cs.drop 1).take (Tryz.prog.cellsOf 9)) = xs[1]? := hf 1 _ rfl
 rw [cells9] at f1
 have f2 : DataW.trod enc Tryz.prog w 0 sp hd m 2 ((cs.drop 2).take (Tryz.prog.cellsOf 2)) = xs[2]? := hf 2 _ rfl
 rw [cells2] at f2
 have f3 : DataW.trod enc Tryz.prog w 0 sp hd m 22 ((cs.drop 3).take (Tryz.prog.cellsOf 22)) = xs[3]? := hf 3 _ rfl
 rw [cells22] at f3
 have f4 : DataW.trod enc Tryz.prog w 0 sp hd m 3 ((cs.drop 4).take (Tryz.prog.cellsOf 3)) = xs[4]? := hf 4 _ rfl
 rw [cells3] at f4
 obtain ⟨x0, x1, x2, x3, x4, rfl⟩ := five xs hxl
 obtain ⟨c0, c1, c2, c3, c4, rfl⟩ := five cs hl
 simp only [List.drop_zero, List.drop_succ_cons, List.take_succ_cons, List.take_zero, List.getElem?_cons_zero, List.getElem?_cons_succ] at f0 f1 f2 f3 f4
 obtain ⟨op, e0, rfl, w0⟩ := DataW.trod_int Tryz.underlying3 f0
 obtain ⟨s, e1, rfl, w1⟩ := DataW.trod_string Tryz.underlying9 f1
 obtain ⟨nn, e2, rfl, w2⟩ := DataW.trod_int Tryz.underlying2 f2
 obtain ⟨line, e4, rfl, w4⟩ := DataW.trod_int Tryz.underlying3 f4
 simp only [List.cons.injEq, and_true] at e0 e1 e2 e4
 subst e0 e1 e2 e4
 simp only [List.map_cons, List.map_nil, Rows.uptoBulk, Rows.uptoBulkAll] at hb ⊢
 have hsz : s.data.toList.length = s.size := by rw [Array.length_toList]; rfl
 rw [hsz] at hb ⊢
 rcases DataW.trod_slice under22 f3 with ⟨e3, rfl⟩ | ⟨a, len, cap, elems, rest, m', rfl, e3, rfl, -, hlc, hcap, hel, hat, -, -⟩
 ·simp only [List.cons.injEq, and_true] at e3
  subst e3
  simp only [Rows.uptoBulk] at hb ⊢
  refine ⟨.mk op s nn [] line, ⟨by omega, Nat.zero_le _, wf_i64 w0, wf_i64 w2, wf_i64 w4, trivial⟩, by simp only [T.wt, T.wtL]; omega, ?_⟩
  simp only [T.enc, RVs, RV]
  exact ⟨_, _, rfl, rfl, _, _, rfl, rfl, _, _, rfl, rfl, _, _, rfl, ⟨none, 0, rfl, Nat.le_refl _, Nat.zero_le _, .inl ⟨rfl, by simp⟩⟩, _, _, rfl, rfl, rfl⟩
 ·simp only [List.cons.injEq, and_true] at e3
  subst e3
  simp only [Rows.uptoBulk] at hb ⊢
  have hble : elems.length ≤ Rows.uptoBulkAll (elems.map (·.1)) := by have := bulk_len (elems.map (·.1)); rwa [List.length_map] at this
  have hpart : ∀ (j : Nat) (y : DataW H × List MemPlace), elems[j]? = some y → Rows.uptoBulk y.1 ≤ Rows.uptoBulkAll (elems.map (·.1)) := by
   intro j y e
   have hm : y.1 ∈ elems.map (·.1) := List.mem_map.2 ⟨y, List.mem_of_getElem? e, rfl⟩
   clear hb hble hat hel
   generalize elems.map (·.1) = L at hm
   induction L with
   | nil => cases hm
   | cons d r ihr =>
    simp only [Rows.uptoBulkAll]
    rcases List.mem_cons.1 hm with rfl | hm
    ·omega
    ·have := ihr hm; omega
  have key : ∀ j, 0 ≤ j → j < 0 + len → ∃ t : T, (∀ y, elems[j]? = some y → t.ok ∧ t.wt ≤ Rows.uptoBulk y.1) ∧ ∃ cs : List Value, cs.length = 5 ∧ RVs (G0 w) t.enc cs ∧ ∀ k x, cs[k]? = some x → w.cell? ⟨a.block, a.off + j * 5 + k, none⟩ = some x := by
   intro j _ hj
   have hj : j < len := by omega
   obtain ⟨y, hy⟩ : ∃ y, elems[j]? = some y := ⟨_, List.getElem?_eq_getElem (by omega)⟩
   have h1 := hat j hj
   rw [hy, cells24] at h1
   obtain ⟨cs, hcs, h2⟩ := Option.bind_eq_some_iff.1 h1
   obtain ⟨hcl, hcg⟩ := cells_get hcs
   obtain ⟨t, t1, t2, t3⟩ := ih m' (by omega) cs y h2 (by have := hpart j y hy; omega)
   refine ⟨t, fun y' e => by rw [hy] at e; cases e; exact ⟨t1, t2⟩, cs, hcl, t3, fun k x e => ?_⟩
   have := hcg k x e
   exact add_cell this
  obtain ⟨l, l1, l2, cs, l3, l4⟩ := list_of a.block a.off _ len 0 key
  have hok := wtL_le (H := H) (fun _ => 0) l (elems.map (·.1)) (by simp; omega) fun j t d h1 h2 => by
   simp only [List.getElem?_map, Option.map_eq_some_iff] at h2
   obtain ⟨y, hy, rfl⟩ := h2
   exact l2 j t h1 y (by simpa using hy)
  refine ⟨.mk op s nn l line, ⟨by omega, by omega, wf_i64 w0, wf_i64 w2, wf_i64 w4, hok.1⟩, by simp only [T.wt]; have := hok.2; omega, ?_⟩
  simp only [T.enc, RVs, RV, l1]
  refine ⟨_, _, rfl, rfl, _, _, rfl, rfl, _, _, rfl, rfl, _, _, rfl, ⟨some a, cap, rfl, hlc, by unfold maxLen at hcap; omega, ?_⟩, _, _, rfl, rfl, rfl⟩
  rcases Nat.eq_zero_or_pos len with h0 | h0
  ·left
   refine ⟨h0, ?_⟩
   rw [List.eq_nil_of_length_eq_zero (l1.trans h0)]
   simp
  ·right
   have hsp : a.spot = none := by
    have h1 := hat 0 h0
    obtain ⟨y, hy⟩ : ∃ y, elems[0]? = some y := ⟨_, List.getElem?_eq_getElem (by omega)⟩
    rw [hy, cells24] at h1
    obtain ⟨cs, hcs, h2⟩ := Option.bind_eq_some_iff.1 h1
    obtain ⟨hcl, hcg⟩ := cells_get hcs
    obtain ⟨z, hz⟩ : ∃ z, cs[0]? = some z := ⟨_, List.getElem?_eq_getElem (by omega)⟩
    have := hcg 0 z hz
    have := cell_spot this
    simpa [Addr.add] using this
   obtain ⟨b, o, sp⟩ := a
   simp only at hsp
   subst hsp
   refine ⟨b, o, rfl, rc_of _ _ cs l3 fun i x e => ?_⟩
   have := l4 i x e
   simpa using this
end
end Go.Proofs.YP
namespace Go.Proofs.YP
open Go Go.RowKit Go.ChangeShapes Go.Proofs.YtjehnhppfneidaaGreatDoor
theorem own : ownKnob Tryz.prog.godebug = none := by kernel_rfl
theorem laidOut : laidOutB Tryz.prog = true := by kernel_rfl
theorem kids : Kids Tryz.prog (· < Tryz.prog.types.size) := kids_rows laidOut (by kernel_rfl)
theorem full : ∀ t e, t < Tryz.prog.types.size → Tryz.prog.underlying t = some (.slice e) → 0 < Tryz.prog.cellsOf e := slices_full_of _ (by kernel_rfl)
theorem sameAt_kept {w w' : World} (h : Kept w w') (p : MemPlace) (hp : p.block < w.heap.size) : w.sameAt w' p := by
 cases p with
 | cell b off => simp only [World.sameAt, World.cell?, h.old b hp]
 | map b => exact h.old b hp
section
variable {H : Type} {enc : TypeId × Value → H}
theorem stays {w w' : World} {sp : Nat → Bool} (hk : Kept w w') : ∀ {ts : List TypeId} {vs : List Value} {ds : List (DataW H)} {ps : List MemPlace}, (∀ t ∈ ts, t < Tryz.prog.types.size) →
  DataW.TrodAll enc Tryz.prog w 0 (fun _ => true) true ts vs ds ps → (∀ p ∈ ps, p.block < w.heap.size) → (∀ p ∈ ps, sp p.block = true) → DataW.TrodAll enc Tryz.prog w' 0 sp true ts vs ds ps
 | [], [], [], _, _, h, _, _ => h
 | t :: _, _ :: _, _ :: _, _, hT, ⟨p, q, ⟨n, h1⟩, h2, e⟩, hl, hs =>
  ⟨p, q, ⟨n, DataW.trod_stays kids (fun ht hu => full _ _ ht hu) (fun h => by cases h) (hT t (by simp)) h1 (fun x hx => sameAt_kept hk x (hl x (by rw [e]; exact List.mem_append_left _ hx))) (fun x hx => hs x (by rw [e]; exact List.mem_append_left _ hx))⟩,
   stays hk (fun t ht => hT t (by simp [ht])) h2 (fun x hx => hl x (by rw [e]; exact List.mem_append_right _ hx)) (fun x hx => hs x (by rw [e]; exact List.mem_append_right _ hx)), e⟩
theorem law_post {s : ChangeSpec} {fn : Func} (hv : s.vars = []) (hr : fn.resultTypes = #[4]) (hp : ∀ t ∈ fn.params.toList, t < Tryz.prog.types.size) {W W' : World} {args : Array Value} {ds gs : List (DataW H)} {before : List MemPlace}
  (hW : DataW.Whole enc Tryz.prog fn.params.toList s.vars false W args.toList ds gs before) (hs : s.fn H (ds ++ gs) = { results := [.lit (.bool true)], args := ds }) (hk : Kept W W') :
  s.post enc Tryz.prog fn false true false false W args (.bool true) W' := by
 have hlt := hW.lt
 have hW' := hW
 obtain ⟨p, q, hA, hV, rfl, -, -⟩ := hW
 rw [hv] at hV
 obtain ⟨rfl, rfl⟩ := trodVars_none hV
 simp only [List.append_nil] at hlt hW' hs
 refine ⟨ds, [], p, [], p, [], hW', ?_, ?_, ?_, hk.keptBut _, fun h => by cases h⟩
 ·rw [List.append_nil, hs, hr]
  exact trodAll_mk1 (shut_bool Tryz.underlying4 _)
 ·rw [List.append_nil, hs]
  exact stays hk hp hA hlt fun x hx => by simpa using hlt x hx
 ·rw [List.append_nil, hs, hv]
  exact rfl
end
noncomputable def laidWorld (os : Os) : World :=
 let w0 := World.holding Tryz.prog os ⟨#[.cells #[.int .u16 9, .int .u16 13, .int .u16 1, .int .u16 32, .int .u16 133, .int .u16 101, .int .u16 160, .int .u16 5760, .int .u16 5600, .int .u16 8192, .int .u16 8202, .int .u16 1, .int .u16 8232, .int .u16 8233, .int .u16 1, .int .u16 8239, .int .u16 8287, .int .u16 48, .int .u16 12288, .int .u16 12288, .int .u16 1] 226,
  .cells #[.slice (some ⟨11, 0, none⟩) 7 7, .slice none 0 0, .int .i64 2] 223], #[], []⟩
 let put (h : Array Obj) (g : Nat) (cs : Array Value) : Array Obj := h.modify g fun
  | .cells _ t frozen => .cells cs t frozen
  | o => o
 let h0 := put w0.heap 0 #[.iface 161 (.agg #[.pointer (some ⟨6, 61, none⟩)])]
 let h1 := put h0 1 ((List.range 256).map fun i => Value.int .u8 (if 9 ≤ i ∧ i ≤ 13 ∨ i = 32 then 1 else 0)).toArray
 let h2 := put h1 2 #[.pointer (some ⟨12, 0, none⟩)]
 let h3 := put h2 3 (Lib.firstTab.map fun z => Value.int .u8 z).toArray
 let h4 := put h3 4 #[.int .u8 128, .int .u8 191, .int .u8 160, .int .u8 191, .int .u8 128, .int .u8 159, .int .u8 144, .int .u8 191, .int .u8 128, .int .u8 143, .int .u8 0, .int .u8 0, .int .u8 0, .int .u8 0, .int .u8 0, .int .u8 0, .int .u8 0, .int .u8 0, .int .u8 0, .int .u8 0, .int .u8 0, .int .u8 0, .int .u8 0, .int .u8 0, .int .u8 0, .int .u8 0, .int .u8 0, .int .u8 0, .int .u8 0, .int .u8 0, .int .u8 0, .int .u8 0]
 { w0 with heap := h4 }
abbrev laids : List (String × DataW Unit) := Rows.scopeResolvesUptoRow.laid
set_option maxRecDepth 100000
theorem piece4 (os : Os) (args : Array Value) : LaidIn Tryz.prog ((laidWorld os).forCall (fun _ _ => 0) ⟨#[], args, []⟩).memory [("unicode/utf8.acceptRanges", Rows.laid_unicode_utf8_acceptRanges)] [4] :=
 LaidIn.of_run [4] 8 (by kernel_rfl) (by kernel_rfl) (by kernel_rfl) (by kernel_rfl)
theorem piece2 (os : Os) (args : Array Value) : LaidIn Tryz.prog ((laidWorld os).forCall (fun _ _ => 0) ⟨#[], args, []⟩).memory [("unicode.White_Space", Rows.laid_unicode_White_Space)] [2, 11, 12] :=
 LaidIn.of_run [2, 11, 12] 8 (by kernel_rfl) (by kernel_rfl) (by kernel_rfl) (by kernel_rfl)
theorem piece1 (os : Os) (args : Array Value) : LaidIn Tryz.prog ((laidWorld os).forCall (fun _ _ => 0) ⟨#[], args, []⟩).memory [("strings.asciiSpace", Rows.laid_strings_asciiSpace)] [1] :=
 LaidIn.of_run [1] 8 (by kernel_rfl) (by kernel_rfl) (by kernel_rfl) (by kernel_rfl)
theorem piece3 (os : Os) (args : Array Value) : LaidIn Tryz.prog ((laidWorld os).forCall (fun _ _ => 0) ⟨#[], args, []⟩).memory [("unicode/utf8.first", Rows.laid_unicode_utf8_first)] [3] :=
 LaidIn.of_run [3] 8 (by kernel_rfl) (by kernel_rfl) (by kernel_rfl) (by kernel_rfl)
theorem handle0 (os : Os) (args : Array Value) : handleAtB Tryz.prog ((laidWorld os).forCall (fun _ _ => 0) ⟨#[], args, []⟩).memory ("errors.errorType", Rows.laid_errors_errorType) = true := by kernel_rfl
end Go.Proofs.YP
set_option maxRecDepth 100000
namespace Go.Proofs.YP
open Go Go.RowKit Go.ChangeShapes Go.Proofs.YtjehnhppfneidaaGreatDoor
theorem laid_met (os : Os) (args : Array Value) : laidMetH Tryz.prog laids ((laidWorld os).forCall (fun _ _ => 0) ⟨#[], args, []⟩).memory :=
 laidMetH_of_parts3 (fuel := 8) ((((piece4 os args).append (piece2 os args) (by kernel_rfl)).append (piece1 os args) (by kernel_rfl)).append (piece3 os args) (by kernel_rfl)).met
  (by
   have h := handle0 os args
   show (handleAtB Tryz.prog _ ("errors.errorType", Rows.laid_errors_errorType) && true) = true
   rw [h]; rfl) (by kernel_rfl)
theorem gBlank : Tryz.prog.globalNamed "strings.asciiSpace" = some 1 := by kernel_rfl
theorem tBlank : (Tryz.prog.globals[1]?).map (·.type) = some 200 := by kernel_rfl
theorem under200 : Tryz.prog.underlying 200 = some (.array 256 5) := Tryz.underlying200
theorem under5 : Tryz.prog.underlying 5 = some (.int .u8) := Tryz.underlying5
theorem cells5 : Tryz.prog.cellsOf 5 = 1 := by kernel_rfl
theorem cells200 : Tryz.prog.cellsOf 200 = 256 := by kernel_rfl
def blankZ : List Int := (List.range 256).map fun i => if 9 ≤ i ∧ i ≤ 13 ∨ i = 32 then 1 else 0
theorem blank_eq : (Rows.laid_strings_asciiSpace : DataW Unit) = Lib.tabData .u8 blankZ := by kernel_rfl
theorem rc_ints {w : World} {g : Nat} (hg : g < w.heap.size) (k : IntKind) : ∀ (zs : List Int) (q : Nat), (∀ i z, zs[i]? = some z → w.cell? ⟨g, q + i, none⟩ = some (.int k z)) → RC (G0 w) g q (zs.map (AV.int k))
 | [], q, _ => by simp [RC]
 | z :: r, q, h => by
  simp only [List.map_cons, RC]
  refine ⟨⟨.int k z, ?_, by simp only [RV]⟩, rc_ints hg k r (q + 1) fun i y e => ?_⟩
  ·simp only [G0, if_pos hg]
   exact h 0 z rfl
  ·have := h (i + 1) y (by simpa using e)
   rw [show q + 1 + i = q + (i + 1) by omega]; exact this
theorem cell_lt {w : World} {g o : Nat} {x : Value} (h0 : w.cell? ⟨g, o, none⟩ = some x) : g < w.heap.size := by
 rcases Nat.lt_or_ge g w.heap.size with h | h
 ·exact h
 ·simp [World.cell?, Array.getElem?_eq_none h] at h0
theorem hgt_of {W : World} (h : laidMetH Tryz.prog laids W) : HGT tabs (G0 W) := by
 obtain ⟨h1, h2⟩ := laidMetH_iff.1 h
 have h1 : laidMet Tryz.prog [("unicode/utf8.acceptRanges", Rows.laid_unicode_utf8_acceptRanges), ("unicode.White_Space", Rows.laid_unicode_White_Space), ("strings.asciiSpace", Rows.laid_strings_asciiSpace), ("unicode/utf8.first", Rows.laid_unicode_utf8_first)] W := h1
 have h2 : handlesMet Tryz.prog [("errors.errorType", Rows.laid_errors_errorType)] W := h2
 refine ⟨fun n c e => ?_, ?_⟩
 ·match n, e with
  | 1, e =>
   cases e
   have h3 := laidMet.tail (laidMet.tail h1)
   rw [blank_eq] at h3
   have ht := Lib.tabIs_of_head gBlank tBlank under200 under5 cells5 cells200 h3
   have hc : ∀ i z, blankZ[i]? = some z → W.cell? ⟨1, 0 + i, none⟩ = some (.int .u8 z) := fun i z e => by
    have := ht.cell gBlank i (uB e)
    rw [Nat.zero_add, this, List.getD_eq_getElem?_getD, e]; rfl
   have hlt : 1 < W.heap.size := cell_lt (hc 0 0 (by kernel_rfl))
   have := rc_ints hlt .u8 blankZ 0 hc
   have e2 : blankZ.map (AV.int .u8) = blanks := by
    unfold blankZ blanks
    rw [List.map_map]
    apply List.map_congr_left
    intro i _
    simp only [Function.comp]
   rw [e2] at this
   exact this
 ·have := h2 _ (List.mem_cons_self ..)
  obtain ⟨name, u, ty, e1, e2, e3, e4, e5⟩ := this
  have hn : name = [101, 114, 114, 111, 114] := Option.some.inj (e1.symm.trans (show Rows.laid_errors_errorType.handleName? = some [101, 114, 114, 111, 114] from by kernel_rfl))
  have hu : u = 161 := Option.some.inj (e2.symm.trans (show (Tryz.prog.cutTypes.find? (·.1 == "internal/reflectlite.rtype")).map (·.2) = some 161 by kernel_rfl))
  subst hn hu
  have hall : ((List.range Tryz.prog.types.size).all fun t => !Tryz.prog.rowNamed t [101, 114, 114, 111, 114] || t == 61) = true := by kernel_rfl
  have hty := List.all_eq_true.1 hall ty (List.mem_range.2 e3)
  rw [e4] at hty
  have hty : ty = 61 := by simpa using hty
  subst hty
  have hh : typeHandle Tryz.prog 61 = .pointer (some ⟨6, 61, none⟩) := by kernel_rfl
  rw [hh] at e5
  have hg0 : Tryz.prog.globalNamed "errors.errorType" = some 0 := by kernel_rfl
  have hc := World.var?_cell hg0 e5 0
  have hc : W.cell? ⟨0, 0, none⟩ = some (.iface 161 (.agg #[.pointer (some ⟨6, 61, none⟩)])) := by simpa using hc
  simp only [G0, if_pos (cell_lt hc)]
  exact hc
def treeV : Value := .agg #[.int .i64 0, .string ⟨#[]⟩, .int .i64 0, .slice none 0 0, .int .i64 0]
end Go.Proofs.YP
set_option maxRecDepth 100000
namespace Go.Proofs.YP
open Go Go.RowKit Go.ChangeShapes Go.Proofs.YtjehnhppfneidaaGreatDoor
theorem agg_of {W : World} {base : Nat} {v : Value} (h : Value.okWide Tryz.prog W .any base 24 v) : ∃ c, v = .agg c := by
 cases v with
 | agg c => exact ⟨c, rfl⟩
 | _ => simp [Value.okWide, Tryz.underlying24] at h
section
variable {H : Type} {enc : TypeId × Value → H}
theorem run1 {f : Nat} {t : T} {cs : Array Value} {W : World} (h : Says f [.agg t.enc]) (hL : laidMetH Tryz.prog laids W) (hr : RVs (G0 W) t.enc cs.toList) :
  Calls Tryz.prog f #[.agg cs] W fun e w' => e = .returned (.bool true) ∧ Kept W w' := by
 obtain ⟨k, st', e⟩ := h
 exact calls_of e (hgt_of hL) (by simp only [RVs, RV]; exact ⟨_, _, rfl, ⟨cs, rfl, hr⟩, rfl⟩)
theorem contract1 {f : Nat} {fn : Func} {s : ChangeSpec} (hp : fn.params = #[24]) (hr : fn.resultTypes = #[4]) (hv : s.vars = []) (hs : ∀ d : DataW H, s.fn H [d] = { results := [.lit (.bool true)], args := [d] })
    (key : ∀ t : T, t.ok → t.wt ≤ 1048576 → Says f [.agg t.enc]) (W : World) (base : Nat) (args : Array Value) (ds gs : List (DataW H)) (before : List MemPlace)
    (hval : ∀ (j : Nat) t v, fn.params[j]? = some t → args[j]? = some v → Value.okWide Tryz.prog W .any base t v)
    (hW : DataW.Whole enc Tryz.prog fn.params.toList s.vars false W args.toList ds gs before) (hB : Rows.uptoSmall H (ds ++ gs) = true) (hL : laidMetH Tryz.prog laids W) :
    Calls Tryz.prog f args W fun e W' => ∃ v, e = .returned v ∧ s.post enc Tryz.prog fn false true false false W args v W' := by
  have hW' := hW
  obtain ⟨p, q, hA, hV, rfl, -, -⟩ := hW
  rw [hv] at hV
  obtain ⟨rfl, rfl⟩ := trodVars_none hV
  rw [hp] at hA hval
  obtain ⟨v0, d0, rfl, rfl, h0⟩ := trodAll_one hA
  obtain ⟨cs, rfl⟩ := agg_of (hval 0 24 v0 rfl rfl)
  obtain ⟨n, hn⟩ := h0
  have hb : Rows.uptoBulk d0 ≤ 1048576 := by
    have := of_decide_eq_true hB
    simp only [List.append_nil, Rows.uptoBulkAll] at this
    omega
  obtain ⟨t, ht, hw, hrv⟩ := open_tree n _ _ hn hb
  simp only at hw
  refine (run1 (key t ht (by omega)) hL hrv).mono fun e W' ⟨he, hk⟩ => ⟨_, he, ?_⟩
  exact law_post hv hr (by rw [hp]; intro t ht; have : t = 24 := by simpa using ht
                           subst this; exact of_decide_eq_true (by kernel_rfl)) hW' (by simpa using hs d0) hk
end
end Go.Proofs.YP
