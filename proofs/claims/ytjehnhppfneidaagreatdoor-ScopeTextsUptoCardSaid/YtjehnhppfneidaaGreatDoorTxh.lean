/- Texts that the laws of the seat rest on: an abstract machine, what the functions answer in it, plain laws. -/
import Derived.Test.YtjehnhppfneidaaGreatDoorTxg
import Derived.KernelRfl
set_option linter.unusedVariables false
set_option linter.unusedSimpArgs false
set_option linter.unusedSectionVars false
set_option maxHeartbeats 8000000
set_option maxRecDepth 20000
namespace Go.Proofs.YP
open Go
def VV (vs : List ByteArray) (vv : AV) : Prop := (vs = [] ∧ vv = .nils) ∨ ∃ o, vv = .sl o vs.length (vs.map .str)
theorem AccS.vv {E I vs v} (h : AccS E I vs v) : VV vs v := by
 rcases h with h | ⟨j, e, -, -⟩
 ·exact .inl h
 ·exact .inr ⟨_, e⟩
def FR (H : List ABlk) (rb fb : Nat) (f : Fn) : Prop := fb ≠ rb ∧ ∃ mb vv, mb ≠ rb ∧ H[fb]? = some (.cells 108 [.int .i64 f.around, .str f.name, .int .i64 f.params, vv, .int .i64 f.mark, .map mb]) ∧ VV f.vars vv ∧ H[mb]? = some (.map (plcF 0 f.vars))
theorem FR.fr {H H' : List ABlk} {rb fb f} (h : FR H rb fb f) (k : HFr rb H H') : FR H' rb fb f := by
 obtain ⟨h1, mb, vv, h2, h3, h4, h5⟩ := h
 exact ⟨h1, mb, vv, h2, k.get _ _ h1 h3, h4, k.get _ _ h2 h5⟩
structure RSt (E : Env) (st : St) (rb i : Nat) (fs : List Fn) (mark : Nat) : Prop where
 rob : E.rob ≤ rb
 rom : E.rom ≤ i
 ex : ∃ bs : List Nat, bs.length = fs.length ∧ st.H[rb]? = some (.cells 100 [.sl (some i) bs.length (bs.map fun b => .ptr b 0), .int .i64 mark]) ∧ st.I[i]? = some (bs.length, 1) ∧ ∀ (j : Nat) (f : Fn), fs[j]? = some f → ∃ fb, bs[j]? = some fb ∧ FR st.H rb fb f
theorem RSt.fr {E : Env} {st st' : St} {rb i fs mark} (h : RSt E st rb i fs mark) (k : HFr rb st.H st'.H) (hb : st'.H[rb]? = st.H[rb]?) (hi : st'.I[i]? = st.I[i]?) : RSt E st' rb i fs mark := by
 obtain ⟨h1, h2, bs, h3, h4, h5, h6⟩ := h
 exact ⟨h1, h2, bs, h3, by rw [hb]; exact h4, by rw [hi]; exact h5, fun j f hj => by obtain ⟨fb, e, hf⟩ := h6 j f hj; exact ⟨fb, e, hf.fr k⟩⟩
theorem f98 {fs : List Fn} (hf : FsOk fs) {rb i mark : Nat} {E E' : Env} {st : St} (hr : RSt E' st rb i fs mark) (s : ByteArray) (a : Int) (ha : -1 ≤ a) (ha2 : a < fs.length)
  (k : Nat) (hk : 510 ≤ k) : CallQ k E 98 [.ptr rb 0, .int .i64 a, .str s] st fun r st' => r = .ok (.int .i64 (varNo fs a s)) ∧ Grow st st' := by
 obtain ⟨k, rfl⟩ := uK (k := k) (by omega)
 obtain ⟨-, -, bs, hbl, hb, -, hfr⟩ := hr
 refine call_in3 rfl rfl (by decide) fun s0 hs e0 e1 e2 => ?_
 have hlen := hf.len
 simp [hs, e0, e1, e2]
 generalize hres : varNo fs a s = res
 refine WP_loop (fun n s0 m st' => ∃ a : Int, -1 ≤ a ∧ a < fs.length ∧ n = (a + 1).toNat ∧ s0.length = 44 ∧ m = [] ∧ st = st' ∧ lk s0 0 = .ptr rb 0 ∧ lk s0 1 = .int .i64 a ∧ lk s0 2 = .str s ∧ lk s0 7 = .int .i64 (-1) ∧ varNo fs a s = res) (a + 1).toNat (by omega)
  ⟨a, ha, ha2, rfl, by simp [hs], rfl, rfl, by simp [hs, e0], by simp [hs, e1], by simp [hs, e2], by simp [hs], hres⟩ ?_
 clear e0 e1 e2 hs hres ha ha2
 rintro _ s0 m _ ⟨a, ha, ha2, rfl, hs, rfl, rfl, e0, e1, e2, e7, hq⟩
 by_cases h0 : 0 ≤ a
 ·obtain ⟨a, rfl⟩ : ∃ a' : Nat, a = a' := ⟨a.toNat, by omega⟩
  have hal : a < fs.length := by omega
  obtain ⟨f, hg⟩ : ∃ f, fs[a]? = some f := ⟨_, List.getElem?_eq_getElem hal⟩
  have hfe := hf.each a f hg
  obtain ⟨fb, hgb, -, mb, vv, -, hfb, -, hmb⟩ := hfr a f hg
  have hbla : a < bs.length := by omega
  have hgb' : bs[a]'hbla = fb := by rw [List.getElem?_eq_getElem hbla] at hgb; simpa using hgb
  have hfd := find_plc s 0 f.vars
  rw [varNo_eq hf s h0 (by simpa using hg)] at hq
  rcases hix : ixS s f.vars with _ | j
  ·rw [hix] at hfd hq
   simp only [Option.map_none] at hfd
   simp only at hq
   simp [hs, e0, e1, e2, hb, hbla, hgb', hfb, lkpA, hmb, keyOk, hfd]
   exact ⟨_, by omega, f.around, hfe.1, by omega, rfl, by simp [hs], rfl, rfl, by simp [hs, e0], by simp [hs], by simp [hs, e2], by simp [hs, e7], hq⟩
  ·rw [hix] at hfd hq
   simp only [Option.map_some, Nat.zero_add] at hfd
   simp only at hq
   have hjl := ixS_lt s f.vars j hix
   have hw1 := wrap64 (n := (a : Int) * 1000) (by omega)
   have hw2 := wrap64 (n := (a : Int) * 1000 + j) (by omega)
   have hq' : (a : Int) * 1000 + j = res := by rw [← hq]; omega
   rw [hq'] at hw2
   simp [hs, e0, e1, e2, hb, hbla, hgb', hfb, lkpA, hmb, keyOk, hfd, hw1, hq', hw2, Grow.refl, blkQ_exit]
 ·rw [varNo_neg s (by omega)] at hq
  simp [hs, e0, e1, e2, e7, h0, hq, Grow.refl]
theorem f99k {E : Env} {st : St} {rb : Nat} {x : AV} {mark : Nat} (hb : st.H[rb]? = some (.cells 100 [x, .int .i64 mark])) (hr : E.rob ≤ rb) (n : Nat) (hm : mark + n ≤ 100000000000) (k : Nat) (hk : 1 ≤ k) :
  doCall (aCall prog k) E .keep (.fn 99) [.ptr rb 0, .int .i64 n] st = some (.ok (.int .i64 mark), ⟨st.H.set rb (.cells 100 [x, .int .i64 (mark + n : Nat)]), st.I⟩) := by
 obtain ⟨k, rfl⟩ := uK (k := k) (by omega)
 have hlt := uB hb
 have h : CallQ (k + 1) { E with base := st.H.length } 99 [.ptr rb 0, .int .i64 n] st fun r st' => r = .ok (.int .i64 mark) ∧ st' = ⟨st.H.set rb (.cells 100 [x, .int .i64 (mark + n : Nat)]), st.I⟩ := by
  refine call_in2 rfl rfl (by decide) fun s0 hs e0 e1 => ?_
  have hset : ∀ x, (st.H.set rb x)[rb]? = some x := fun x => List.getElem?_set_self hlt
  have hw1 := wrap64 (n := (mark : Int) + n) (by omega)
  have hw2 := wrap64 (n := (mark : Int) + n - n) (by omega)
  have hw3 : (mark : Int) + n - n = mark := by omega
  rw [hw3] at hw2
  simp [hs, e0, e1, hb, storeA, mayWrite, subRefs, hr, wrC, hset, hw1, hw2, hw3]
 obtain ⟨⟨r, st'⟩, e1, h1, h2⟩ := h
 simp only at h1 h2
 subst h1 h2
 simp only [doCall, e1, obind_some, okv_eq]
 simp
 rw [List.take_of_length_le (by simp)]
theorem VV.len {vs vv} (h : VV vs vv) : lenA false vv = some (.int .i64 vs.length) := by rcases h with ⟨rfl, rfl⟩ | ⟨o, rfl⟩ <;> simp [lenA]
def faultV (e line : Int) : AV := .iface 65 (.agg [.int .i64 e, .int .i64 line])
theorem f61p {E : Env} {st : St} {rb fb : Nat} {x : AV} {n mark : Nat} {f : Fn} (hb : st.H[rb]? = some (.cells 100 [x, .int .i64 mark])) (hx : lenA false x = some (.int .i64 n)) (hf : FR st.H rb fb f) (hlim : n = 500 ∨ 200 < f.vars.length) (line : Int) (k : Nat) (hk : 1 ≤ k) :
  CallQ k E 61 [.ptr rb 0, .ptr fb 0, .int .i64 line] st fun r st' => r = .pan (faultV 52 line) ∧ st' = st := by
 obtain ⟨k, rfl⟩ := uK (k := k) (by omega)
 obtain ⟨-, mb, vv, -, hfb, hvv, -⟩ := hf
 have hln := hvv.len
 refine call_in3 rfl rfl (by decide) fun s0 hs e0 e1 e2 => ?_
 by_cases h5 : (n : Int) = 500
 ·simp [-lenA, hs, e0, e1, e2, hb, hx, h5, fillA, wrC, faultV]
 ·have h2 : (200 : Int) < f.vars.length := by omega
  simp [-lenA, hs, e0, e1, e2, hb, hx, h5, hfb, hln, h2, fillA, wrC, faultV]
theorem f61a {E : Env} {st : St} {rb i fb : Nat} {fs : List Fn} {mark : Nat} {f : Fn} (hE : E.Wf st) (hr : RSt E st rb i fs mark) (hbase : E.base ≤ rb) (hf : FR st.H rb fb f) (h1 : fs.length < 500) (h2 : f.vars.length ≤ 200) (line : Int) (k : Nat) (hk : 1 ≤ k) :
  CallQ k E 61 [.ptr rb 0, .ptr fb 0, .int .i64 line] st fun r st' => r = .ok (.int .i64 fs.length) ∧ RSt E st' rb i (fs ++ [f]) mark ∧ HFr rb st.H st'.H ∧ st'.H.length = st.H.length ∧ IFr (some i) st.I st'.I := by
 obtain ⟨k, rfl⟩ := uK (k := k) (by omega)
 obtain ⟨hrob, hrom, bs, hbl, hb, hi, hfr⟩ := hr
 obtain ⟨hne, mb, vv, hmn, hfb, hvv, hmb⟩ := id hf
 have hln := hvv.len
 have hlt := uB hb
 refine call_in3 rfl rfl (by decide) fun s0 hs e0 e1 e2 => ?_
 have h5 : ¬ (bs.length : Int) = 500 := by omega
 have h2' : ¬ (200 : Int) < f.vars.length := by omega
 have lsl : ∀ o n c, lenA false (.sl o n c) = some (.int .i64 n) := fun _ _ _ => rfl
 have hmw : ∀ x y, mayWrite E rb x y = true := fun x y => by simp [mayWrite, hbase, hrob]
 have hset : ∀ x, (st.H.set rb x)[rb]? = some x := fun x => List.getElem?_set_self hlt
 have hip : (st.I ++ [(1, 1)])[i]? = some (bs.length, 1) := get_push i _ hi
 have hb1 : (bs.length + 1) * 8 ≤ 70368744177664 := by omega
 have hb2 : bs.length + 1 ≤ 70368744177664 := by omega
 have hw1 := wrap64 (n := (bs.length : Int)) (by omega)
 have hap : appA E ⟨st.H, st.I ++ [(1, 1)]⟩ 1 8 (.sl (some i) bs.length (bs.map fun b => .ptr b 0)) (.sl (some st.I.length) 1 [.ptr fb 0]) = some (.sl (some i) (bs.length + 1) ((bs ++ [fb]).map fun b => .ptr b 0), ⟨st.H, (st.I ++ [(1, 1)]).set i (bs.length + 1, 1)⟩) := by
  simp [appA, srcA, hrom, hip, hb1, hb2]
 simp [-lenA, lsl, hs, e0, e1, e2, hb, h5, hfb, hln, h2']
 simp [hs, fillA, wrC, hap]
 simp [-lenA, lsl, hs, e0, hb, storeA, hmw, wrC, hset, hw1]
 refine ⟨by rw [hbl], ⟨hrob, hrom, bs ++ [fb], by simp [hbl], by simpa using List.getElem?_set_self hlt, ?_, fun j g hj => ?_⟩, .set _ _ _, ⟨by simp, fun q x hq e => ?_⟩⟩
 ·rw [List.getElem?_set_self (uB hip)]; simp
 ·by_cases hjl : j < fs.length
  ·rw [List.getElem?_append_left hjl] at hj
   obtain ⟨fb', e, hf'⟩ := hfr j g hj
   exact ⟨fb', by rw [List.getElem?_append_left (by omega)]; exact e, hf'.fr (.set _ _ _)⟩
  ·rw [List.getElem?_append_right (by omega)] at hj
   rcases hz : j - fs.length with _ | q
   ·rw [hz] at hj; simp at hj; subst hj
    exact ⟨fb, by rw [List.getElem?_append_right (by omega), hbl, hz]; rfl, hf.fr (.set _ _ _)⟩
   ·rw [hz] at hj; simp at hj
 ·rw [List.getElem?_set_ne (fun h => hq (by rw [h]))]; exact get_push q x e
theorem f61b {E : Env} {st : St} {rb fb : Nat} {mark : Nat} {f : Fn} (hE : E.Wf st) (hb : st.H[rb]? = some (.cells 100 [.nils, .int .i64 mark])) (hrob : E.rob ≤ rb) (hbase : E.base ≤ rb) (hf : FR st.H rb fb f) (h2 : f.vars.length ≤ 200) (line : Int) (k : Nat) (hk : 1 ≤ k) :
  CallQ k E 61 [.ptr rb 0, .ptr fb 0, .int .i64 line] st fun r st' => r = .ok (.int .i64 0) ∧ ∃ i, st.I.length ≤ i ∧ RSt E st' rb i [f] mark ∧ HFr rb st.H st'.H ∧ st'.H.length = st.H.length ∧ IFr none st.I st'.I := by
 obtain ⟨k, rfl⟩ := uK (k := k) (by omega)
 obtain ⟨hne, mb, vv, hmn, hfb, hvv, hmb⟩ := id hf
 have hln := hvv.len
 have hlt := uB hb
 refine call_in3 rfl rfl (by decide) fun s0 hs e0 e1 e2 => ?_
 have h2' : ¬ (200 : Int) < f.vars.length := by omega
 have lsl : ∀ o n c, lenA false (.sl o n c) = some (.int .i64 n) := fun _ _ _ => rfl
 have lnl : lenA false .nils = some (.int .i64 0) := rfl
 have hmw : ∀ x y, mayWrite E rb x y = true := fun x y => by simp [mayWrite, hbase, hrob]
 have hset : ∀ x, (st.H.set rb x)[rb]? = some x := fun x => List.getElem?_set_self hlt
 have hw1 := wrap64 (n := (0 : Int)) (by omega)
 have hap : appA E ⟨st.H, st.I ++ [(1, 1)]⟩ 1 8 .nils (.sl (some st.I.length) 1 [.ptr fb 0]) = some (.sl (some (st.I.length + 1)) 1 [.ptr fb 0], ⟨st.H, st.I ++ [(1, 1), (1, 1)]⟩) := by
  simp [appA, srcA]
 simp [-lenA, lsl, lnl, hs, e0, e1, e2, hb, hfb, hln, h2']
 simp [hs, fillA, wrC, hap]
 simp [-lenA, lsl, hs, e0, hb, storeA, hmw, wrC, hset, hw1]
 refine ⟨st.I.length + 1, by omega, ⟨hrob, by have := hE.rom; omega, [fb], rfl, by simpa using List.getElem?_set_self hlt, by simp, fun j g hj => ?_⟩, .set _ _ _, ⟨by simp, fun q x hq e => ?_⟩⟩
 ·rcases j with _ | j
  ·simp at hj; subst hj; exact ⟨fb, rfl, hf.fr (.set _ _ _)⟩
  ·simp at hj
 ·rw [List.getElem?_append_left (uB e)]; exact e
@[congr] theorem blkQ_congr {id : Nat} {Q : Q4} {x x' : AExit} {s m st} (h : ∀ _ : Unit, lookAt x = x') : blkQ id Q x s m st = blkQ id Q x' s m st := by rw [← h (), lookAt_eq]
@[congr] theorem thn_congr {C : CSem} {E : Env} {lf rd b} {Q : Q4} {x x' : AExit} {s m st} (h : ∀ _ : Unit, lookAt x = x') : thn C E lf rd b Q x s m st = thn C E lf rd b Q x' s m st := by rw [← h (), lookAt_eq]
def dec1 (t : T) (vs : List ByteArray) : List ByteArray := if isDec t.op then withS vs t.s else vs
theorem decT_eq (t : T) (vs : List ByteArray) : decT t vs = if isFn t.op then dec1 t vs else decL t.l (dec1 t vs) := by
 obtain ⟨op, s, n, l, x⟩ := t
 rfl
structure InvOk (B : Nat) (Inv : List ByteArray → St → Prop) : Prop where
 dep : ∀ vs st st', Inv vs st → (∀ j, j < B → st'.H[j]? = st.H[j]?) → st'.I = st.I → Inv vs st'
def YOK (E : Env) (l B K W : Nat) (Inv : List ByteArray → St → Prop) : Prop := ∀ k, K ≤ k → ∀ vs st t, vs.length + t.wt ≤ W → Inv vs st → E.Wf st → B ≤ st.H.length →
 CallY k E l [.agg t.enc] st fun r st' => r = .ok (.bool true) ∧ Inv (dec1 t vs) st' ∧ st.H.length ≤ st'.H.length ∧ st.I.length ≤ st'.I.length ∧ ∀ j x, B ≤ j → st.H[j]? = some x → st'.H[j]? = some x
theorem takeAll_ok : ∀ (m : List Nat) (st : St), m.Nodup → (∀ d ∈ m, st.H[d]? = some .dfr) → ∃ H', takeAll st m = some ⟨H', st.I⟩ ∧ H'.length = st.H.length ∧ ∀ j, ¬ j ∈ m → H'[j]? = st.H[j]?
 | [], st, _, _ => ⟨st.H, rfl, rfl, fun _ _ => rfl⟩
 | d :: m, st, hn, h => by
  have hd := h d (by simp)
  rw [List.nodup_cons] at hn
  obtain ⟨H', e, hl, hg⟩ := takeAll_ok m { st with H := st.H.set d .opq } hn.2 (fun d' hd' => by
   show (st.H.set d .opq)[d']? = _
   rw [List.getElem?_set_ne (by rintro rfl; exact hn.1 hd')]; exact h d' (by simp [hd']))
  refine ⟨H', by rw [takeAll, hd]; exact e, by simpa using hl, fun j hj => ?_⟩
  rw [hg j (fun h => hj (by simp [h]))]
  show (st.H.set d .opq)[j]? = _
  rw [List.getElem?_set_ne (by rintro rfl; exact hj (by simp))]
theorem f95 (t : T) (k : Nat) (hk : 1 ≤ k) (E : Env) (st : St) : CallQ k E 95 [.agg t.enc] st fun r st' => r = .ok (.fn 143 [] [.ptr st.H.length 0]) ∧ st' = ⟨st.H ++ [.cells 24 t.enc], st.I⟩ := by
 obtain ⟨k, rfl⟩ := uK (k := k) (by omega)
 obtain ⟨op, s0, nn, l, x⟩ := t
 refine call_in1 rfl rfl (by decide) fun s hs e0 => ?_
 simp [hs, e0]
theorem f143 (n : Nat) : ∀ t : T, t.wt ≤ n → ∀ (E : Env) (l B K W : Nat) (Inv : List ByteArray → St → Prop), W ≤ 100000000000 → InvOk B Inv → YOK E l B K W Inv → l < B → ∀ (st : St) (vs : List ByteArray) (b1 : Nat), vs.length + t.wt ≤ W → Inv vs st → E.Wf st → B ≤ st.H.length → (∀ vs st, Inv vs st → st.H[b1]? = some (.cells 24 t.enc)) →
  ∀ k, K + 4 * t.wt + 10 ≤ k → CallQ k E 143 [.yld l, .ptr b1 0] st fun r st' => r = .ok (.tup []) ∧ Inv (decT t vs) st' ∧ st.H.length ≤ st'.H.length ∧ st.I.length ≤ st'.I.length ∧ ∀ j x, B ≤ j → st.H[j]? = some x → st'.H[j]? = some x := by
 induction n with
 | zero => intro t h; cases t; simp [T.wt] at h
 | succ n ih =>
  intro t ht E l B K W Inv hWb hI hy hl st vs b1 hW hinv hE hB hIb k hk
  obtain ⟨k, rfl⟩ := uK (k := k) (by omega)
  have hmw := mayWrite_new hE
  refine call_in2 rfl rfl (by decide) fun s hs e0 e1 => ?_
  have hE1 : E.Wf ⟨st.H ++ [.cells 33 [.yld l]], st.I⟩ := hE.of (by simp) (by simp)
  have hinv1 : Inv vs ⟨st.H ++ [.cells 33 [.yld l]], st.I⟩ := hI.dep _ st _ hinv (fun j hj => List.getElem?_append_left (by omega)) rfl
  have cy := hy k (by omega) vs _ t hW hinv1 hE1 (by simp; omega)
  have c96 := fun st3 (h3 : E.Wf st3) => (f96 t k (by omega)).full (E := E) (st := st3) rfl h3
  have hd1 : (dec1 t vs).length ≤ vs.length + 1 := by unfold dec1; split; exact withS_len _ _; omega
  have hb1 := hIb _ _ hinv1
  obtain ⟨op, s0, nn, ls, line⟩ := t
  simp only [T.enc, T.op_mk] at hb1 cy c96 hIb
  simp only [T.wt] at ht hk hW
  have hlw := T.len_wtL ls
  simp [hs, e0, e1, hb1]
  refine obP_intro cy fun p hp => ?_
  obtain ⟨r, st2⟩ := p
  obtain ⟨h1, h2, h3, h4, h5⟩ := hp
  simp only [List.length_append, List.length_cons, List.length_nil, Nat.zero_add] at h1 h2 h3 h4 h5
  subst h1
  have q1 := hIb _ _ h2
  have q2 : st2.H[st.H.length]? = some (.cells 33 [.yld l]) := h5 _ _ hB (by simp)
  have hE2 : E.Wf st2 := hE.of (H := st2.H) (I := st2.I) (by omega) h4
  have hg0 : ∀ j x, B ≤ j → st.H[j]? = some x → st2.H[j]? = some x := fun j x hj e => h5 j x hj (getE_old e)
  have hdT : isFn op = true → decT (.mk op s0 nn ls line) vs = dec1 (.mk op s0 nn ls line) vs := fun h => by rw [decT_eq]; exact if_pos h
  have hdF : ¬ isFn op = true → decT (.mk op s0 nn ls line) vs = decL ls (dec1 (.mk op s0 nn ls line) vs) := fun h => by rw [decT_eq]; exact if_neg h
  generalize hvs1 : dec1 (.mk op s0 nn ls line) vs = vs1 at h2 hd1 hdT hdF
  by_cases hfn : isFn op
  ·rw [hdT hfn]
   simp only [hfn] at c96
   simp [hs, e1, q1, q2, c96 st2 hE2, hfn]
   exact ⟨h2, by omega, h4, hg0⟩
  have hfn' : isFn op = false := by simpa using hfn
  rw [hdF hfn]
  simp only [hfn'] at c96
  simp [hs, e1, q1, q2, c96 st2 hE2, hfn']
  refine WP_loop (fun n s m st' => ∃ (j : Nat) (vs' : List ByteArray), j ≤ ls.length ∧ n = ls.length - j ∧ s.length = 29 ∧ lk s 1 = .ptr b1 0 ∧ lk s 2 = .ptr st.H.length 0 ∧ lk s 15 = .sl none ls.length (T.encL ls) ∧ lk s 16 = .int .i64 ls.length ∧ lk s 17 = .int .i64 j ∧
   Inv vs' st' ∧ vs'.length ≤ vs.length + 1 + T.wtL (ls.take j) ∧ decL (ls.drop j) vs' = decL ls vs1 ∧ st2.H.length ≤ st'.H.length ∧ st2.I.length ≤ st'.I.length ∧ (∀ j x, B ≤ j → st2.H[j]? = some x → st'.H[j]? = some x) ∧ m.Nodup ∧ ∀ d ∈ m, st2.H.length ≤ d ∧ st'.H[d]? = some .dfr) ls.length (by omega)
   ⟨0, vs1, by omega, by omega, by simp [hs], by simp [hs, e1], by simp [hs], by simp [hs], by simp [hs], by simp [hs], h2, by omega, by simp, Nat.le_refl _, Nat.le_refl _, fun _ _ _ e => e, by simp, by simp⟩ ?_
  clear hs e0 e1 s cy
  rintro _ s m st' ⟨j, vs', hj, rfl, hs, e1, e2, e15, e16, e17, hiv, hvl, hq, hHl, hIl, hkeep, hnd, hdf⟩
  by_cases hc : j < ls.length
  ·obtain ⟨t, hg⟩ : ∃ t, ls[j]? = some t := ⟨_, List.getElem?_eq_getElem hc⟩
   rw [T.drop_cons hg, decL] at hq
   have hrd := T.rd hg
   have hwt := wtL_split hg
   have hwt1 := wtL_take_succ hg
   have hwj := wrap64 (n := (j : Int) + 1) (by omega)
   have hEs : E.Wf st' := hE2.of (H := st'.H) (I := st'.I) hHl hIl
   have hmw2 := mayWrite_new hEs
   have c95 := f95 t k (by omega) E ⟨st'.H ++ [.cells 24 t.enc], st'.I⟩
   rw [T.enc_eq] at hrd c95
   simp [hs, e15, e16, e17, hc, hrd, storeA, hmw2, wrC]
   refine obP_intro c95 fun p hp => ?_
   obtain ⟨r, st3⟩ := p
   obtain ⟨hr, hst3⟩ := hp
   simp only at hr hst3
   subst hr hst3
   simp [hs]
   refine WP_rf0 (g := 143) (a := []) (b := [.ptr (st'.H.length + 1) 0]) (by simp [hs]) (st'.H.length + 2) (st'.H.length + 3) (by simp) (by simp) ?_
   simp
   have he4l : (((((s.set 18 (AV.bool true)).set 19 (AV.eptr (T.encL ls) (j * 5))).set 20 (AV.agg [AV.int IntKind.i64 t.op, AV.str t.s, AV.int IntKind.i64 t.n, AV.sl none t.l.length (T.encL t.l), AV.int IntKind.i64 t.line])).set 4 (AV.ptr st'.H.length 0)).set 21 (AV.agg [AV.int IntKind.i64 t.op, AV.str t.s, AV.int IntKind.i64 t.n, AV.sl none t.l.length (T.encL t.l), AV.int IntKind.i64 t.line])).length = 29 := by simp [hs]
   generalize hs4 : ((((((s.set 18 (AV.bool true)).set 19 (AV.eptr (T.encL ls) (j * 5))).set 20 (AV.agg [AV.int IntKind.i64 t.op, AV.str t.s, AV.int IntKind.i64 t.n, AV.sl none t.l.length (T.encL t.l), AV.int IntKind.i64 t.line])).set 4 (AV.ptr st'.H.length 0)).set 21 (AV.agg [AV.int IntKind.i64 t.op, AV.str t.s, AV.int IntKind.i64 t.n, AV.sl none t.l.length (T.encL t.l), AV.int IntKind.i64 t.line])).set 22 (AV.fn 143 [] [AV.ptr (st'.H.length + 1) 0])) = s4
   have hs4l : s4.length = 29 := by rw [← hs4]; simp [hs]
   have hs41 : lk s4 1 = .ptr b1 0 := by rw [← hs4]; simp [hs, e1]
   have hs42 : lk s4 2 = .ptr st.H.length 0 := by rw [← hs4]; simp [hs, e2]
   have hs415 : lk s4 15 = .sl none ls.length (T.encL ls) := by rw [← hs4]; simp [hs, e15]
   have hs416 : lk s4 16 = .int .i64 ls.length := by rw [← hs4]; simp [hs, e16]
   have hs417 : lk s4 17 = .int .i64 j := by rw [← hs4]; simp [hs, e17]
   clear hs4 he4l
   generalize hB4 : ABlk.loop LState.ready none 0 s4 [23] (ACode.reg [{ dst := some 5, op := AOp.alloc 24 [AV.int IntKind.i64 0, AV.str { data := #[] }, AV.int IntKind.i64 0, AV.nils, AV.int IntKind.i64 0], guard := none }, { dst := none, op := AOp.st 5 (AO.t 5) (AO.t 23), guard := none }]) (ACode.block 3 ((ACode.reg [{ dst := some 24, op := AOp.ld none (AO.t 2), guard := none }, { dst := some 25, op := AOp.ld (some 5) (AO.t 5), guard := none }, { dst := some 26, op := AOp.callv Tr.no (AO.t 24) [AO.t 25], guard := none }, { dst := some 27, op := AOp.un UnOp.not (AO.t 26), guard := none }]).seq (ACode.cond (AO.t 27) ACode.ret ACode.skip))) (st'.H.length + 2) = lp
   rw [← T.enc_eq]
   have hB2 : B ≤ st2.H.length := by omega
   have hyi : YOK E (st'.H.length + 3) (st'.H.length + 4) (K + 1) W (fun v s' => Inv v s' ∧ ∀ q, B ≤ q → q < st'.H.length + 4 → s'.H[q]? = (st'.H ++ [.cells 24 t.enc, .cells 24 t.enc, .dfr, lp])[q]?) := by
    intro k2 hk2 v s' x hW2 hv2 hE' hB'
    obtain ⟨k2, rfl⟩ : ∃ k', k2 = k' + 1 := ⟨k2 - 1, by omega⟩
    obtain ⟨hv2, hv3⟩ := hv2
    have hmw' := mayWrite_new hE'
    have hlp : s'.H[st'.H.length + 3]? = some lp := by rw [hv3 _ (by omega) (by omega)]; simp
    have hy33 : s'.H[st.H.length]? = some (.cells 33 [.yld l]) := by rw [hv3 _ hB (by omega)]; exact getE_old (hkeep _ _ hB q2)
    subst hB4
    refine round_in hlp rfl (by have := hEs.rob; omega) ?_
    have hxe := T.enc_eq x
    rw [hxe]
    simp [hs4l, storeA, hmw', wrC]
    refine asgQ_in (getE_old hlp) ?_
    have w1 : ∀ y z, ((s'.H ++ y).set (st'.H.length + 3) z)[st.H.length]? = some (.cells 33 [.yld l]) := fun y z => by rw [List.getElem?_set_ne (by omega)]; exact getE_old hy33
    have w2 : ∀ y z, ((s'.H ++ y).set (st'.H.length + 3) z)[s'.H.length]? = y[0]? := fun y z => by rw [List.getElem?_set_ne (by omega)]; simp
    have cyx := hy k2 (by omega) v ⟨(s'.H ++ [ABlk.cells 24 x.enc]).set (st'.H.length + 3) (ABlk.loop LState.busy none 0 s4 [23] (ACode.reg [{ dst := some 5, op := AOp.alloc 24 [AV.int IntKind.i64 0, AV.str { data := #[] }, AV.int IntKind.i64 0, AV.nils, AV.int IntKind.i64 0], guard := none }, { dst := none, op := AOp.st 5 (AO.t 5) (AO.t 23), guard := none }]) (ACode.block 3 ((ACode.reg [{ dst := some 24, op := AOp.ld none (AO.t 2), guard := none }, { dst := some 25, op := AOp.ld (some 5) (AO.t 5), guard := none }, { dst := some 26, op := AOp.callv Tr.no (AO.t 24) [AO.t 25], guard := none }, { dst := some 27, op := AOp.un UnOp.not (AO.t 26), guard := none }]).seq (ACode.cond (AO.t 27) ACode.ret ACode.skip))) (st'.H.length + 2)), s'.I⟩ x hW2
     (hI.dep _ s' _ hv2 (fun q hq => by show ((s'.H ++ [ABlk.cells 24 x.enc]).set (st'.H.length + 3) _)[q]? = _; rw [List.getElem?_set_ne (by omega), List.getElem?_append_left (by omega)]) rfl)
     (hE'.of (by simp) (by simp)) (by simp; omega)
    rw [hxe] at cyx
    have w3 : st'.H.length + 3 ≠ s'.H.length := by have := (uB hlp); omega
    simp [hs4l, hs42, w1, w2, List.getElem_set_ne w3]
    refine obP_intro cyx fun p hp => ?_
    obtain ⟨r, s6⟩ := p
    obtain ⟨r1, r2, r3, r4, r5⟩ := hp
    simp only [List.length_set, List.length_append, List.length_cons, List.length_nil, Nat.zero_add] at r1 r2 r3 r4 r5
    subst r1
    simp [hs4l]
    have hlp6 := r5 (st'.H.length + 3) _ (by omega) (List.getElem?_set_self (by simp; omega))
    refine endP_in hlp6 ?_
    have hk5 : ∀ q z, B ≤ q → q ≠ st'.H.length + 3 → s'.H[q]? = some z → s6.H[q]? = some z := fun q z hq hne e => r5 q z hq (by rw [List.getElem?_set_ne (Ne.symm hne)]; exact getE_old e)
    refine ⟨rfl, ⟨hI.dep _ s6 _ r2 (fun q hq => List.getElem?_set_ne (by omega)) rfl, fun q hq1 hq2 => ?_⟩, by simp; omega, r4, fun q z hq e => ?_⟩
    ·by_cases hq3 : q = st'.H.length + 3
     ·subst hq3
      show (s6.H.set _ _)[_]? = _
      rw [List.getElem?_set_self (uB hlp6)]; simp
     ·show (s6.H.set _ _)[q]? = _
      rw [List.getElem?_set_ne (Ne.symm hq3), ← hv3 q hq1 hq2]
      have hql : q < s'.H.length := by omega
      rw [List.getElem?_eq_getElem hql]
      exact hk5 q _ hq1 hq3 (List.getElem?_eq_getElem hql)
    ·show (s6.H.set _ _)[q]? = _
     rw [List.getElem?_set_ne (by omega)]
     exact hk5 q z (by omega) (by omega) e
   have cI := ih t (by omega) E (st'.H.length + 3) (st'.H.length + 4) (K + 1) W (fun v s' => Inv v s' ∧ ∀ q, B ≤ q → q < st'.H.length + 4 → s'.H[q]? = (st'.H ++ [.cells 24 t.enc, .cells 24 t.enc, .dfr, lp])[q]?) hWb
    ⟨fun v s1 s2 ⟨x1, x2⟩ hx hxi => ⟨hI.dep _ s1 _ x1 (fun q hq => hx q (by omega)) hxi, fun q hq1 hq2 => by rw [hx q hq2]; exact x2 q hq1 hq2⟩⟩ hyi (by omega)
    ⟨st'.H ++ [.cells 24 t.enc, .cells 24 t.enc, .dfr, lp], st'.I⟩ vs' (st'.H.length + 1) (by omega)
    ⟨hI.dep _ st' _ hiv (fun q hq => List.getElem?_append_left (by omega)) rfl, fun _ _ _ => rfl⟩ (hEs.of (by simp) (by simp)) (by simp)
    (fun v s' ⟨_, x2⟩ => by rw [x2 _ (by omega) (by omega)]; simp) k (by omega)
   refine obP_intro cI fun p hp => ?_
   obtain ⟨r, s7⟩ := p
   obtain ⟨r1, ⟨r2, r3⟩, r4, r5, r6⟩ := hp
   simp only [List.length_append, List.length_cons, List.length_nil, Nat.zero_add, Nat.reduceAdd] at r1 r2 r3 r4 r5 r6
   subst r1
   have h7 : s7.H[st'.H.length + 3]? = some lp := by rw [r3 _ (by omega) (by omega)]; simp
   subst hB4
   refine ⟨_, _, _, _, _, _, _, _, h7, nofun, ?_⟩
   simp [AJump.exit', hs4l, hs417, hwj]
   have hk7 : ∀ q z, B ≤ q → st'.H[q]? = some z → s7.H[q]? = some z := fun q z hq e => by
    rw [r3 q hq (by have := (uB e); omega)]; exact getE_old e
   refine ⟨_, by omega, j + 1, decT t vs', by omega, rfl, by simp [hs4l], by simp [hs4l, hs41], by simp [hs4l, hs42], by simp [hs4l, hs415], by simp [hs4l, hs416], by simp [hs4l], hI.dep _ s7 _ r2 (fun q hq => List.getElem?_set_ne (by omega)) rfl, by have := decT_len t vs'; omega, hq, by simp; omega, by show st2.I.length ≤ s7.I.length; have h : st'.I.length ≤ s7.I.length := r5; omega, fun q z hq e => ?_, ?_, ?_⟩
   ·show (s7.H.set _ _)[q]? = _
    have hz := hkeep q z hq e
    have hzl := uB hz
    rw [List.getElem?_set_ne (by omega)]
    exact hk7 q z hq hz
   ·rw [List.nodup_cons]
    refine ⟨fun hm => ?_, hnd⟩
    have := (List.getElem?_eq_some_iff.1 (hdf _ hm).2).1
    omega
   ·intro d hd
    rcases List.mem_cons.1 hd with rfl | hd
    ·refine ⟨by omega, ?_⟩
     show (s7.H.set _ _)[_]? = _
     rw [List.getElem?_set_ne (by omega), r3 _ (by omega) (by omega)]; simp
    ·have hz := (hdf d hd).2
     have hzl := uB hz
     refine ⟨(hdf d hd).1, ?_⟩
     show (s7.H.set _ _)[d]? = _
     rw [List.getElem?_set_ne (by omega)]
     exact hk7 d _ (by have := (hdf d hd).1; omega) hz
  ·have hq : vs' = decL ls vs1 := by rw [← hq, List.drop_eq_nil_of_le (by omega)]; rfl
   obtain ⟨H', et, hl', hg'⟩ := takeAll_ok m st' hnd (fun d hd => (hdf d hd).2)
   have hnm : ∀ j, j < st2.H.length → ¬ j ∈ m := fun j hj hm => by have := (hdf j hm).1; omega
   simp [hs, e16, e17, hc, endQ, et]
   refine ⟨hq ▸ hI.dep _ st' _ hiv (fun j hj => hg' j (hnm j (by omega))) rfl, by omega, by omega, fun j x hj e => ?_⟩
   have hj2 := hg0 j x hj e
   rw [hg' j (hnm j (uB hj2))]
   exact hkeep j x hj hj2
structure Fin62 (E : Env) (st0 : St) (a nm mk p : AV) (t : T) (vs : List ByteArray) (st : St) : Prop where
 f : ∃ vv, st.H[st0.H.length + 3]? = some (.cells 108 [a, nm, p, vv, mk, .map (st0.H.length + 2)]) ∧ AccS E st.I vs vv ∧ ∀ j, owns vv = some j → st0.I.length ≤ j
 m : st.H[st0.H.length + 2]? = some (.map (plcF 0 vs))
 p : st.H[st0.H.length + 4]? = some (.cells 104 [.ptr (st0.H.length + 3) 0])
 b : st.H[st0.H.length + 1]? = some (.cells 24 t.enc)
 old : ∀ j, j < st0.H.length → st.H[j]? = st0.H[j]?
 ifr : IFr none st0.I st.I
theorem Fin62.dep {E st0 a nm mk p t vs st st'} (h : Fin62 E st0 a nm mk p t vs st) (hb : ∀ j, j < st0.H.length + 5 → st'.H[j]? = st.H[j]?) (hi : st'.I = st.I) : Fin62 E st0 a nm mk p t vs st' := by
 obtain ⟨⟨vv, f1, f2, f3⟩, m, p', b, o, i⟩ := h
 exact ⟨⟨vv, by rw [hb _ (by omega)]; exact f1, by rw [hi]; exact f2, f3⟩, by rw [hb _ (by omega)]; exact m, by rw [hb _ (by omega)]; exact p', by rw [hb _ (by omega)]; exact b, fun j hj => by rw [hb _ (by omega)]; exact o j hj, by rw [hi]; exact i⟩
theorem Fin62.decl {E st0 a nm mk p t vs st} (h : Fin62 E st0 a nm mk p t vs st) (s : ByteArray) (h0 : E.Wf st0) (hE : E.Wf st) (hl : vs.length ≤ 100000000000) (k : Nat) (hk : 1 ≤ k) :
  CallQ k E 94 [.ptr (st0.H.length + 3) 0, .str s] st fun r st' => r = .ok (.tup []) ∧ Fin62 E st0 a nm mk p t (withS vs s) st' ∧ st'.H.length = st.H.length ∧ st.I.length ≤ st'.I.length ∧ ∀ j, st0.H.length + 5 ≤ j → st'.H[j]? = st.H[j]? := by
 obtain ⟨⟨vv, f1, f2, f3⟩, m, p', b, o, i⟩ := h
 have h1 := h0.base
 have h2 := h0.rob
 refine obP_intro (f94 s hE f1 m f2 (by omega) (by omega) (by omega) (by omega) (by omega) hl k hk) fun q hq => ?_
 obtain ⟨r, st'⟩ := q
 obtain ⟨r1, vv', r2, r3, r4, r5, r6, r7, r8⟩ := hq
 refine ⟨r1, ⟨⟨vv', r2, r6, fun j hj => ?_⟩, r3, by rw [r4 _ (by omega) (by omega)]; exact p', by rw [r4 _ (by omega) (by omega)]; exact b, fun j hj => by rw [r4 _ (by omega) (by omega)]; exact o j hj, ?_⟩, r5, r7.len, fun j hj => r4 j (by omega) (by omega)⟩
 ·rcases r8 with e | ⟨j', e, hj'⟩
  ·exact f3 j (by rw [← e, hj])
  ·rw [e] at hj; cases hj; have := i.len; omega
 ·refine ⟨by have := i.len; have := r7.len; omega, fun j x _ e => r7.get j x (fun hj => ?_) (i.get j x (by simp) e)⟩
  have := f3 j hj.symm
  have := uB e
  omega
theorem f62 (a : Int) (nm : ByteArray) (mk : Nat) (ps : List T) (pv : AV) (hpv : (ps = [] ∧ pv = .nils) ∨ pv = .sl none ps.length (T.encL ps)) (s : ByteArray) (t : T) (E : Env) (st : St) (hE : E.Wf st) (hw : T.wtL ps + t.wt ≤ 10000000000) (k : Nat) (hk : 4 * t.wt + 30 + ps.length ≤ k) :
  CallQ k E 62 [.agg [.int .i64 a, .str nm, .int .i64 0, .nils, .int .i64 mk], pv, .str s, .agg t.enc] st fun r st' => ∃ fb, r = .ok (.ptr fb 0) ∧ st.H.length ≤ fb ∧ st.H.length ≤ st'.H.length ∧ (∀ j, j < st.H.length → st'.H[j]? = st.H[j]?) ∧ IFr none st.I st'.I ∧
   ∀ rb, rb < st.H.length → FR st'.H rb fb { around := a, name := nm, params := (ps.foldl (fun o x => withS o x.s) []).length, vars := decT t (if s = ⟨#[]⟩ then ps.foldl (fun o x => withS o x.s) [] else withS (ps.foldl (fun o x => withS o x.s) []) s), mark := mk } := by
 obtain ⟨k, rfl⟩ := uK (k := k) (by omega)
 have hmw := mayWrite_new hE
 have hmw4 : ∀ x y, mayWrite E (st.H.length + 4) x y = true := fun x y => hmw _ _ _ (by omega)
 refine call_in4 rfl rfl (by decide) fun s0 hs e0 e1 e2 e3 => ?_
 have hpl : lenA false pv = some (.int .i64 ps.length) := by rcases hpv with ⟨rfl, rfl⟩ | rfl <;> simp [lenA]
 obtain ⟨op, ts, tn, tl, tx⟩ := t
 rw [WP_assoc, WP_assoc, WP_assoc, WP_assoc]
 generalize hpp : ps.foldl (fun o x => withS o x.s) [] = pp
 generalize hv1 : (if s = ⟨#[]⟩ then pp else withS pp s) = v1
 refine WP_seqM (fun s1 m st' => m = [] ∧ s1.length = 58 ∧ lk s1 7 = .ptr (st.H.length + 1) 0 ∧ lk s1 9 = .ptr (st.H.length + 4) 0 ∧ Fin62 E st (.int .i64 a) (.str nm) (.int .i64 mk) (.int .i64 pp.length) (.mk op ts tn tl tx) v1 st' ∧ st.H.length + 5 ≤ st'.H.length ∧ v1.length ≤ ps.length + 1) ?_ ?_
 rotate_left
 ·rintro s1 _ st1 ⟨rfl, hs1, g7, g9, hF, hHl, hvl⟩
  clear hs e0 e1 e2 e3 s0
  have hE1 : E.Wf st1 := hE.of (by omega) hF.ifr.len
  have hgb := hF.b
  have hgp := hF.p
  have c95 := f95 (.mk op ts tn tl tx) k (by omega) E st1
  simp only [T.enc] at hgb c95
  simp [hs1, g7, hgb]
  refine obP_intro c95 fun p hp => ?_
  obtain ⟨r, st2⟩ := p
  obtain ⟨hr, hst2⟩ := hp
  simp only at hr hst2
  subst hr hst2
  simp [hs1]
  refine WP_rf0 (g := 143) (a := []) (b := [.ptr st1.H.length 0]) (by simp [hs1]) (st1.H.length + 1) (st1.H.length + 2) (by simp) (by simp) ?_
  simp
  have hs4l : (((s1.set 43 (AV.agg [AV.int IntKind.i64 op, AV.str ts, AV.int IntKind.i64 tn, AV.sl none tl.length (T.encL tl), AV.int IntKind.i64 tx])).set 44 (AV.fn 143 [] [AV.ptr st1.H.length 0]))).length = 58 := by simp [hs1]
  have hs49 : lk ((s1.set 43 (AV.agg [AV.int IntKind.i64 op, AV.str ts, AV.int IntKind.i64 tn, AV.sl none tl.length (T.encL tl), AV.int IntKind.i64 tx])).set 44 (AV.fn 143 [] [AV.ptr st1.H.length 0])) 9 = .ptr (st.H.length + 4) 0 := by simp [hs1, g9]
  generalize (s1.set 43 (AV.agg [AV.int IntKind.i64 op, AV.str ts, AV.int IntKind.i64 tn, AV.sl none tl.length (T.encL tl), AV.int IntKind.i64 tx])).set 44 (AV.fn 143 [] [AV.ptr st1.H.length 0]) = s4 at hs4l hs49
  clear hs1 g7 g9 s1
  generalize hB4 : ABlk.loop LState.ready none 0 s4 [45] (ACode.reg [{ dst := some 12, op := AOp.alloc 24 [AV.int IntKind.i64 0, AV.str { data := #[] }, AV.int IntKind.i64 0, AV.nils, AV.int IntKind.i64 0], guard := none }, { dst := none, op := AOp.st 5 (AO.t 12) (AO.t 45), guard := none }]) (ACode.block 3 ((ACode.reg [{ dst := some 46, op := AOp.fa 0 (AO.t 12), guard := none }, { dst := some 47, op := AOp.ld none (AO.t 46), guard := none }]).seq (ACode.block 4 (((ACode.reg [{ dst := some 49, op := AOp.bin BK.num BinOp.eql (AO.t 47) (AO.c (AV.int IntKind.i64 30)), guard := none }, { dst := some 48, op := AOp.mv (AO.t 49), guard := none }]).seq (ACode.cond (AO.t 48) ACode.skip ((ACode.reg [{ dst := some 50, op := AOp.bin BK.num BinOp.eql (AO.t 47) (AO.c (AV.int IntKind.i64 35)), guard := none }, { dst := some 48, op := AOp.mv (AO.t 50), guard := none }]).seq (ACode.cond (AO.t 48) ACode.skip ((ACode.reg [{ dst := some 51, op := AOp.bin BK.num BinOp.eql (AO.t 47) (AO.c (AV.int IntKind.i64 38)), guard := none }, { dst := some 48, op := AOp.mv (AO.t 51), guard := none }]).seq (ACode.cond (AO.t 48) ACode.skip (ACode.reg [{ dst := some 52, op := AOp.bin BK.num BinOp.eql (AO.t 47) (AO.c (AV.int IntKind.i64 41)), guard := none }, { dst := some 48, op := AOp.mv (AO.t 52), guard := none }]))))))).seq (ACode.cond (AO.t 48) (ACode.reg [{ dst := some 53, op := AOp.ld none (AO.t 9), guard := none }, { dst := some 54, op := AOp.fa 1 (AO.t 12), guard := none }, { dst := some 55, op := AOp.ld none (AO.t 54), guard := none }, { dst := some 56, op := AOp.call Tr.no 94 [AO.t 53, AO.t 55], guard := none }]) ACode.skip))))) (st1.H.length + 1) = lp
  have henc : (T.mk op ts tn tl tx).enc = [AV.int IntKind.i64 op, AV.str ts, AV.int IntKind.i64 tn, AV.sl none tl.length (T.encL tl), AV.int IntKind.i64 tx] := rfl
  rw [← henc]
  have hyi : YOK E (st1.H.length + 2) (st1.H.length + 3) 3 (v1.length + (T.mk op ts tn tl tx).wt) (fun v s' => Fin62 E st (.int .i64 a) (.str nm) (.int .i64 mk) (.int .i64 pp.length) (.mk op ts tn tl tx) v s' ∧ ∀ q, st.H.length + 5 ≤ q → q < st1.H.length + 3 → s'.H[q]? = (st1.H ++ [.cells 24 (T.mk op ts tn tl tx).enc, .dfr, lp])[q]?) := by
   intro k2 hk2 v s' x hW2 hv2 hE' hB'
   obtain ⟨k2, rfl⟩ : ∃ k', k2 = k' + 1 := ⟨k2 - 1, by omega⟩
   obtain ⟨hv2, hv3⟩ := hv2
   have hmw' := mayWrite_new hE'
   have hlp : s'.H[st1.H.length + 2]? = some lp := by rw [hv3 _ (by omega) (by omega)]; simp
   subst hB4
   refine round_in hlp rfl (by have := hE1.rob; omega) ?_
   have hxe := T.enc_eq x
   rw [hxe]
   simp [hs4l, storeA, hmw', wrC]
   refine asgQ_in (getE_old hlp) ?_
   have w1 : ∀ y z, ((s'.H ++ y).set (st1.H.length + 2) z)[st.H.length + 4]? = some (.cells 104 [.ptr (st.H.length + 3) 0]) := fun y z => by rw [List.getElem?_set_ne (by omega)]; exact getE_old hv2.p
   have w3 : st1.H.length + 2 ≠ s'.H.length := by have := (uB hlp); omega
   have w2 : ∀ y z, ((s'.H ++ y).set (st1.H.length + 2) z)[s'.H.length]? = y[0]? := fun y z => by rw [List.getElem?_set_ne w3]; simp
   have c94 := fun z => (hv2.dep (st' := ⟨(s'.H ++ [ABlk.cells 24 x.enc]).set (st1.H.length + 2) z, s'.I⟩) (fun j hj => by show (List.set _ _ _)[_]? = _; rw [List.getElem?_set_ne (by omega), List.getElem?_append_left (by omega)]) rfl).decl x.s hE (hE'.of (by simp) (by simp)) (by have := T.len_wtL ps; omega) k2 (by omega)
   rw [hxe] at c94
   have hdx : dec1 x v = if isDec x.op then withS v x.s else v := rfl
   by_cases hd : isDec x.op
   ·rw [if_pos hd] at hdx
    simp only [isDec, Bool.or_eq_true, decide_eq_true_eq] at hd
    rcases hd with ((hd | hd) | hd) | hd
    all_goals
     rw [hd] at c94
     simp [hs4l, hs49, w1, w2, List.getElem_set_ne w3, hd]
     refine obP_intro (c94 _) fun p hp => ?_
     obtain ⟨r, s6⟩ := p
     obtain ⟨r1, r2, r3, r4, r5⟩ := hp
     simp only [List.length_set, List.length_append, List.length_cons, List.length_nil, Nat.zero_add] at r1 r2 r3 r4 r5
     subst r1
     simp [hs4l]
     have hlp6 := r5 (st1.H.length + 2) (by omega)
     rw [List.getElem?_set_self (by simp; omega)] at hlp6
     refine endP_in hlp6 ?_
     refine ⟨rfl, ⟨hdx ▸ r2.dep (fun q hq => List.getElem?_set_ne (by omega)) rfl, fun q hq1 hq2 => ?_⟩, by simp; omega, r4, fun q z hq e => ?_⟩
     ·by_cases hq3 : q = st1.H.length + 2
      ·subst hq3
       show (s6.H.set _ _)[_]? = _
       rw [List.getElem?_set_self (uB hlp6)]; simp
      ·show (s6.H.set _ _)[q]? = _
       rw [List.getElem?_set_ne (Ne.symm hq3), ← hv3 q hq1 hq2, r5 q hq1, List.getElem?_set_ne (Ne.symm hq3), List.getElem?_append_left (by omega)]
     ·show (s6.H.set _ _)[q]? = _
      rw [List.getElem?_set_ne (by omega), r5 q (by omega), List.getElem?_set_ne (by omega)]
      exact getE_old e
   ·rw [if_neg hd] at hdx
    simp only [isDec, Bool.or_eq_true, decide_eq_true_eq, not_or] at hd
    obtain ⟨⟨⟨hd1, hd2⟩, hd3⟩, hd4⟩ := hd
    simp [hs4l, hs49, w1, w2, List.getElem_set_ne w3, hd1, hd2, hd3, hd4]
    refine endP_in (List.getElem?_set_self (by simp; omega)) ?_
    rw [hdx]
    refine ⟨rfl, ⟨hv2.dep (fun q hq => ?_) rfl, fun q hq1 hq2 => ?_⟩, by simp, Nat.le_refl _, fun q z hq e => ?_⟩
    ·show ((List.set (List.set _ _ _) _ _))[q]? = _
     rw [List.getElem?_set_ne (by omega), List.getElem?_set_ne (by omega), List.getElem?_append_left (by omega)]
    ·by_cases hq3 : q = st1.H.length + 2
     ·subst hq3
      show ((List.set (List.set _ _ _) _ _))[_]? = _
      rw [List.getElem?_set_self (by simp; omega)]; simp
     ·show ((List.set (List.set _ _ _) _ _))[q]? = _
      rw [List.getElem?_set_ne (Ne.symm hq3), List.getElem?_set_ne (Ne.symm hq3), List.getElem?_append_left (by omega)]
      exact hv3 q hq1 hq2
    ·show ((List.set (List.set _ _ _) _ _))[q]? = _
     rw [List.getElem?_set_ne (by omega), List.getElem?_set_ne (by omega)]
     exact getE_old e
  have cI := f143 (T.mk op ts tn tl tx).wt (.mk op ts tn tl tx) (Nat.le_refl _) E (st1.H.length + 2) (st1.H.length + 3) 3 (v1.length + (T.mk op ts tn tl tx).wt) _ (by have := T.len_wtL ps; omega)
   ⟨fun v s1 s2 ⟨x1, x2⟩ hx hxi => ⟨x1.dep (fun q hq => hx q (by omega)) hxi, fun q hq1 hq2 => by rw [hx q hq2]; exact x2 q hq1 hq2⟩⟩ hyi (by omega)
   ⟨st1.H ++ [.cells 24 (T.mk op ts tn tl tx).enc, .dfr, lp], st1.I⟩ v1 st1.H.length (Nat.le_refl _)
   ⟨hF.dep (fun q hq => List.getElem?_append_left (by omega)) rfl, fun _ _ _ => rfl⟩ (hE1.of (by simp) (by simp)) (by simp)
   (fun v s' ⟨_, x2⟩ => by rw [x2 _ (by omega) (by omega)]; simp) k (by omega)
  refine obP_intro cI fun p hp => ?_
  obtain ⟨r, s7⟩ := p
  obtain ⟨r1, ⟨r2, r3⟩, r4, r5, r6⟩ := hp
  simp only [List.length_append, List.length_cons, List.length_nil, Nat.zero_add, Nat.reduceAdd] at r1 r2 r3 r4 r5 r6
  subst r1
  have h7 : s7.H[st1.H.length + 2]? = some lp := by rw [r3 _ (by omega) (by omega)]; simp
  have hd7 : s7.H[st1.H.length + 1]? = some .dfr := by rw [r3 _ (by omega) (by omega)]; simp
  have hp7 := r2.p
  have w4 : ∀ z, (s7.H.set (st1.H.length + 2) z)[st.H.length + 4]? = some (.cells 104 [.ptr (st.H.length + 3) 0]) := fun z => by rw [List.getElem?_set_ne (by omega)]; exact hp7
  have w5 : ∀ z, (s7.H.set (st1.H.length + 2) z)[st1.H.length + 1]? = some .dfr := fun z => by rw [List.getElem?_set_ne (by omega)]; exact hd7
  subst hB4
  refine ⟨_, _, _, _, _, _, _, _, h7, nofun, ?_⟩
  simp [AJump.exit', hs4l, hs49, w4, w5, endQ, takeAll]
  have hg8 : ∀ x y q, q < st1.H.length + 1 → ((s7.H.set (st1.H.length + 2) x).set (st1.H.length + 1) y)[q]? = s7.H[q]? := fun x y q hq => by rw [List.getElem?_set_ne (by omega), List.getElem?_set_ne (by omega)]
  obtain ⟨⟨vv, x1, x2, x3⟩, x4, x5, x6, x7, x8⟩ := r2
  refine ⟨by omega, fun q hq => by rw [hg8 _ _ q (by omega)]; exact x7 q hq, x8, fun rb hrb => ⟨by omega, st.H.length + 2, vv, by omega, by rw [hg8 _ _ _ (by omega)]; exact x1, x2.vv, by rw [hg8 _ _ _ (by omega)]; exact x4⟩⟩
 simp [-lenA, hs, e0, e1, e2, e3, storeA, hmw4, wrC, fillA, hpl]
 have hwl : ps.length ≤ T.wtL ps := T.len_wtL ps
 refine WP_loop (fun n s1 m st' => ∃ (j : Nat) (vs' : List ByteArray), j ≤ ps.length ∧ n = ps.length - j ∧ s1.length = 58 ∧ m = [] ∧ lk s1 2 = .str s ∧ lk s1 7 = .ptr (st.H.length + 1) 0 ∧ lk s1 9 = .ptr (st.H.length + 4) 0 ∧ lk s1 17 = pv ∧ lk s1 18 = .int .i64 ps.length ∧ lk s1 19 = .int .i64 j ∧
  Fin62 E st (.int .i64 a) (.str nm) (.int .i64 mk) (.int .i64 0) (.mk op ts tn tl tx) vs' st' ∧ vs'.length ≤ j ∧ (ps.drop j).foldl (fun o x => withS o x.s) vs' = pp ∧ st.H.length + 5 ≤ st'.H.length) ps.length (by omega)
  ⟨0, [], by omega, by omega, by simp [hs], rfl, by simp [hs, e2], by simp [hs], by simp [hs], by simp [hs], by simp [hs], by simp [hs],
   ⟨⟨.nils, by simp, .inl ⟨rfl, rfl⟩, nofun⟩, by simp [plcF], by simp, by simp [T.enc], fun j hj => List.getElem?_append_left hj, .refl _ _⟩, by simp, by simpa using hpp, by simp⟩ ?_
 clear hs e0 e1 e2 e3 s0
 rintro _ s0 m st' ⟨j, vs', hj, rfl, hs, rfl, e2, e7, e9, e17, e18, e19, hF, hvl, hq, hHl⟩
 have hEs : E.Wf st' := hE.of (by omega) hF.ifr.len
 by_cases hc : j < ps.length
 ·obtain ⟨x, hg⟩ : ∃ x, ps[j]? = some x := ⟨_, List.getElem?_eq_getElem hc⟩
  rw [T.drop_cons hg, List.foldl_cons] at hq
  have hrd := T.rd hg
  have hwj := wrap64 (n := (j : Int) + 1) (by omega)
  have hmw2 := mayWrite_new hEs
  have hpv' : pv = .sl none ps.length (T.encL ps) := by
   rcases hpv with ⟨rfl, _⟩ | h
   ·simp at hc
   ·exact h
  subst hpv'
  have c94 := (hF.dep (st' := ⟨st'.H ++ [.cells 24 x.enc], st'.I⟩) (fun j hj => List.getElem?_append_left (by omega)) rfl).decl x.s hE (hEs.of (by simp) (by simp)) (by omega) k (by omega)
  have hp4 := hF.p
  have hxe := T.enc_eq x
  rw [hxe] at hrd c94
  simp [hs, e7, e9, e17, e18, e19, hc, hrd, storeA, hmw2, wrC, getE_old hp4]
  refine obP_intro c94 fun p hp => ?_
  obtain ⟨r, st2⟩ := p
  obtain ⟨r1, r2, r3, r4, r5⟩ := hp
  simp only at r1 r2 r3 r4 r5
  subst r1
  simp [hs, e19, hwj]
  exact ⟨_, by omega, j + 1, _, by omega, rfl, by simp [hs], rfl, by simp [hs, e2], by simp [hs, e7], by simp [hs, e9], by simp [hs, e17], by simp [hs, e18], by simp [hs], r2, by have := withS_len vs' x.s; omega, hq, by rw [r3]; simp; omega⟩
 have hvp : vs' = pp := by rw [← hq, List.drop_eq_nil_of_le (by omega)]; rfl
 subst hvp
 obtain ⟨⟨vv, f1, f2, f3⟩, m1, p1, b1, o1, i1⟩ := id hF
 have hln := f2.len
 have hb1 := hE.base
 have hb2 := hE.rob
 have hmw3 : ∀ x y, mayWrite E (st.H.length + 3) x y = true := fun x y => hmw _ _ _ (by omega)
 have hfl : st.H.length + 3 < st'.H.length := by omega
 have hg : ∀ z j, j ≠ st.H.length + 3 → (st'.H.set (st.H.length + 3) z)[j]? = st'.H[j]? := fun z j h => List.getElem?_set_ne (Ne.symm h)
 have hF2 : Fin62 E st (.int .i64 a) (.str nm) (.int .i64 mk) (.int .i64 vs'.length) (.mk op ts tn tl tx) vs' ⟨st'.H.set (st.H.length + 3) (.cells 108 [.int .i64 a, .str nm, .int .i64 vs'.length, vv, .int .i64 mk, .map (st.H.length + 2)]), st'.I⟩ :=
  ⟨⟨vv, List.getElem?_set_self hfl, f2, f3⟩, by show (List.set _ _ _)[_]? = _; rw [hg _ _ (by omega)]; exact m1, by show (List.set _ _ _)[_]? = _; rw [hg _ _ (by omega)]; exact p1, by show (List.set _ _ _)[_]? = _; rw [hg _ _ (by omega)]; exact b1,
   fun j hj => by show (List.set _ _ _)[_]? = _; rw [hg _ _ (by omega)]; exact o1 j hj, i1⟩
 have hw1 : vs'.length ≤ ps.length := by omega
 have c94 := hF2.decl s hE (hEs.of (by simp) (by simp)) (by omega) k (by omega)
 have hg2 : ∀ z, (st'.H.set (st.H.length + 3) z)[st.H.length + 4]? = some (.cells 104 [.ptr (st.H.length + 3) 0]) := fun z => by rw [hg _ _ (by omega)]; exact p1
 by_cases hse : s = ⟨#[]⟩
 ·subst hse
  rw [if_pos rfl] at hv1; subst hv1
  simp [-lenA, Nat.testBit, hs, e2, e9, e18, e19, hc, p1, f1, hln, storeA, hmw3, wrC]
  exact ⟨rfl, rfl, by simp [hs], by simp [hs, e7], by simp [hs, e9], hF2, by simp; omega, by omega⟩
 ·rw [if_neg hse] at hv1; subst hv1
  simp [-lenA, Nat.testBit, hs, e2, e9, e18, e19, hc, p1, f1, hln, storeA, hmw3, wrC, hse, hg2]
  refine obP_intro c94 fun p hp => ?_
  obtain ⟨r, st2⟩ := p
  obtain ⟨r1, r2, r3, r4, r5⟩ := hp
  simp only [List.length_set] at r1 r2 r3 r4 r5
  subst r1
  simp [hs]
  exact ⟨rfl, rfl, by simp [hs], by simp [hs, e7], by simp [hs, e9], r2, by omega, by have := withS_len vs' s; omega⟩
def PPost (E : Env) (b i : Nat) (st : St) (t : T) (w : Wk) (r : Rt AV) (st' : St) : Prop :=
 HFr b st.H st'.H ∧ IFr (some i) st.I st'.I ∧ ((w.e = 0 ∧ ∃ v, r = .ok v ∧ NodeV st.I.length st'.I.length v t ∧ RSt E st' b i w.fs w.mark) ∨ (w.e ≠ 0 ∧ r = .pan (faultV w.e w.line)))
def PTree (n : Nat) : Prop := ∀ t : T, t.wt ≤ n → t.fk → ∀ (at_ : Nat) (loop : Bool) (w : Wk) (E : Env) (st : St) (b i : Nat), RSt E st b i w.fs w.mark → w.e = 0 → E.base ≤ b → E.Wf st → FsOk w.fs → at_ < w.fs.length → w.mark + 2 * t.wt ≤ 10000000000 → t.wt ≤ 4000000000 →
 ∀ k, 5 * t.wt + 700 ≤ k → CallQ k E 63 [.ptr b 0, .agg t.enc, .int .i64 at_, .bool loop] st (PPost E b i st (wT at_ loop t w).1 (wT at_ loop t w).2)
def PFun (n : Nat) : Prop := ∀ t : T, t.wt ≤ n → t.fk → isFn t.op = true → ∀ (at_ : Nat) (loop : Bool) (w : Wk) (E : Env) (st : St) (b i : Nat), RSt E st b i w.fs w.mark → w.e = 0 → E.base ≤ b → E.Wf st → FsOk w.fs → at_ < w.fs.length → w.mark + 2 * t.wt ≤ 10000000000 → t.wt ≤ 4000000000 →
 ∀ k, 5 * t.wt + 699 ≤ k → CallQ k E 97 [.ptr b 0, .agg t.enc, .int .i64 at_] st (PPost E b i st (wT at_ loop t w).1 (wT at_ loop t w).2)
theorem RSt.lt {E st b i fs mark} (h : RSt E st b i fs mark) : b < st.H.length := by
 obtain ⟨-, -, bs, -, hb, -⟩ := h
 exact uB hb
theorem RSt.app {E : Env} {H : List ABlk} {I : List (Nat × Nat)} {b i fs mark} (h : RSt E ⟨H, I⟩ b i fs mark) (l : List ABlk) : RSt E ⟨H ++ l, I⟩ b i fs mark :=
 h.fr (HFr.app b H l) (List.getElem?_append_left h.lt) rfl
theorem RSt.set24 {E : Env} {H : List ABlk} {I : List (Nat × Nat)} {b i fs mark j c} {x : ABlk} (h : RSt E ⟨H, I⟩ b i fs mark) (hj : H[j]? = some (.cells 24 c)) : RSt E ⟨H.set j x, I⟩ b i fs mark := by
 obtain ⟨h1, h2, bs, h3, h4, h5, h6⟩ := h
 simp only at h4 h5 h6
 have hne : ∀ {q y}, H[q]? = some y → y ≠ ABlk.cells 24 c → (H.set j x)[q]? = some y := fun {q y} e hy => by
  rw [List.getElem?_set_ne]; exact e
  rintro rfl; rw [hj] at e; cases e; exact hy rfl
 refine ⟨h1, h2, bs, h3, hne h4 (by simp), h5, fun q f hq => ?_⟩
 obtain ⟨fb, e, g1, mb, vv, g2, g3, g4, g5⟩ := h6 q f hq
 exact ⟨fb, e, g1, mb, vv, g2, hne g3 (by simp), g4, hne g5 (by simp)⟩
theorem f99r {E : Env} {st : St} {b i fs mark} (h : RSt E st b i fs mark) (n : Nat) (hm : mark + n ≤ 100000000000) (k : Nat) (hk : 1 ≤ k) :
  ∃ H', doCall (aCall prog k) E .keep (.fn 99) [.ptr b 0, .int .i64 n] st = some (.ok (.int .i64 mark), ⟨H', st.I⟩) ∧ HFr b st.H H' ∧ H'.length = st.H.length ∧ RSt E ⟨H', st.I⟩ b i fs (mark + n) := by
 obtain ⟨h1, h2, bs, h3, h4, h5, h6⟩ := h
 refine ⟨_, f99k h4 h1 n hm k hk, .set _ _ _, by simp, h1, h2, bs, h3, List.getElem?_set_self (uB h4), h5, fun q f hq => ?_⟩
 obtain ⟨fb, e, g⟩ := h6 q f hq
 exact ⟨fb, e, g.fr (.set _ _ _)⟩
theorem f63s {n : Nat} (ihT : PTree n) (ihF : PFun (n + 1)) : PTree (n + 1) := by
 intro t ht hfk at_ loop w E st b i hw he hbase hE hf ha hm hmx k hk
 obtain ⟨k, rfl⟩ := uK (k := k) (by omega)
 have hbl := hw.lt
 have hmw := mayWrite_new hE
 have c96 := (f96 t k (by omega)).full (E := E) (st := ⟨st.H ++ [.cells 24 t.enc, .cells 24 [.int .i64 0, .str ⟨#[]⟩, .int .i64 0, .nils, .int .i64 0]], st.I⟩) rfl (hE.of (by simp) (by simp))
 have hmw1 : ∀ x y, mayWrite E (st.H.length + 1) x y = true := fun x y => hmw _ _ _ (by omega)
 by_cases hfn : isFn t.op = true
 ·have cF := ihF t ht hfk hfn at_ loop w E ⟨st.H ++ [.cells 24 t.enc, .cells 24 [.int .i64 0, .str ⟨#[]⟩, .int .i64 0, .nils, .int .i64 0]], st.I⟩ b i (hw.app _) he hbase (hE.of (by simp) (by simp)) hf ha hm hmx k (by omega)
  generalize wT at_ loop t w = res at cF ⊢
  obtain ⟨op, s0, nn, l, line⟩ := t
  simp only [T.op_mk] at hfn
  simp only [T.enc, T.op_mk, hfn] at cF c96
  refine call_in4 rfl rfl (by decide) fun s hs e0 e1 e2 e3 => ?_
  simp [hs, e0, e1, e2, e3, c96]
  refine obP_intro cF fun p hp => ?_
  obtain ⟨r, st'⟩ := p
  obtain ⟨h1, h2, h3⟩ := hp
  simp only at h1 h2 h3
  rcases h3 with ⟨hz, v, rfl, h3, h4⟩ | ⟨hz, rfl⟩
  ·obtain ⟨lv, rfl, hlv, -, -⟩ := h3.cells
   have q1 : st'.H[st.H.length + 1]? = some (.cells 24 [.int .i64 0, .str ⟨#[]⟩, .int .i64 0, .nils, .int .i64 0]) := h1.get _ _ (by omega) (by simp)
   have hql := uB q1
   have qs : ∀ x, (st'.H.set (st.H.length + 1) x)[st.H.length + 1]? = some x := fun x => List.getElem?_set_self hql
   simp [hs, q1, storeA, hmw1, wrC, hlv, qs]
   refine ⟨((HFr.app b st.H _).trans h1).setN (by omega), h2, .inl ⟨hz, _, rfl, h3, h4.set24 q1⟩⟩
  ·simp [endQ]
   exact ⟨(HFr.app b st.H _).trans h1, h2, .inr ⟨hz, rfl⟩⟩
 obtain ⟨op, s0, nn, l, line⟩ := t
 simp only [T.op_mk] at hfn
 have hfn' : isFn op = false := by simpa using hfn
 simp only [T.wt] at hk hm hmx ht
 simp only [T.enc, T.op_mk, hfn'] at c96
 have hres : wT at_ loop (.mk op s0 nn l line) w = (let q := stepN at_ loop op s0 nn line w; let r := wL at_ (q.2.1 || decide (op = 35)) l q.2.2; (.mk op s0 q.1 r.1 line, r.2)) := by
  simp only [wT, he, ne_eq, not_true, if_false, hfn', Bool.false_eq_true]
 rw [hres]
 simp only
 have hle := stepN_le at_ loop op s0 nn line w hf
 have hw0 := hw.app [.cells 24 [.int .i64 op, .str s0, .int .i64 nn, .sl none l.length (T.encL l), .int .i64 line], .cells 24 [.int .i64 0, .str ⟨#[]⟩, .int .i64 0, .nils, .int .i64 0]]
 have hE1 : E.Wf ⟨st.H ++ [.cells 24 [.int .i64 op, .str s0, .int .i64 nn, .sl none l.length (T.encL l), .int .i64 line], .cells 24 [.int .i64 0, .str ⟨#[]⟩, .int .i64 0, .nils, .int .i64 0]], st.I⟩ := hE.of (by simp) (by simp)
 have c98 := full_of (w := .int .i64 (varNo w.fs at_ s0)) (f98 hf hw0 s0 at_ (by omega) (by omega) k (by omega)) (fun _ => rfl) rfl (E := E)
 refine call_in4 rfl rfl (by decide) fun s hs e0 e1 e2 e3 => ?_
 rw [WP_assoc, WP_assoc, WP_assoc]
 refine WP_seqM (fun s' m' st' => m' = [] ∧ s'.length = 93 ∧ lk s' 0 = .ptr b 0 ∧ lk s' 2 = .int .i64 at_ ∧ lk s' 3 = .bool ((stepN at_ loop op s0 nn line w).2.1 || decide (op = 35)) ∧ lk s' 5 = .ptr st.H.length 0 ∧ lk s' 8 = .ptr (st.H.length + 1) 0 ∧ lk s' 9 = .int .i64 (stepN at_ loop op s0 nn line w).2.2.e ∧
  ((stepN at_ loop op s0 nn line w).2.2.e ≠ 0 → (stepN at_ loop op s0 nn line w).2.2.line = line) ∧ st'.I = st.I ∧ HFr b st.H st'.H ∧ RSt E st' b i (stepN at_ loop op s0 nn line w).2.2.fs (stepN at_ loop op s0 nn line w).2.2.mark ∧
  st'.H[st.H.length]? = some (.cells 24 [.int .i64 op, .str s0, .int .i64 (stepN at_ loop op s0 nn line w).1, .sl none l.length (T.encL l), .int .i64 line]) ∧ st'.H[st.H.length + 1]? = some (.cells 24 [.int .i64 0, .str ⟨#[]⟩, .int .i64 0, .nils, .int .i64 0]) ∧ st.H.length + 2 ≤ st'.H.length) ?_ ?_
 ·have hA : ∀ z, RSt E ⟨st.H ++ [.cells 24 [.int .i64 op, .str s0, .int .i64 z, .sl none l.length (T.encL l), .int .i64 line], .cells 24 [.int .i64 0, .str ⟨#[]⟩, .int .i64 0, .nils, .int .i64 0]], st.I⟩ b i w.fs w.mark := fun z => hw.app _
  obtain ⟨H', c99, hH1, hH2, hH3⟩ := f99r hw0 1 (by omega) k (by omega)
  simp only [List.length_append, List.length_cons, List.length_nil, Nat.zero_add, Nat.reduceAdd, Int.natCast_one] at hH1 hH2 c99
  have k1 : H'[st.H.length]? = some (.cells 24 [.int .i64 op, .str s0, .int .i64 nn, .sl none l.length (T.encL l), .int .i64 line]) := hH1.get _ _ (by omega) (by simp)
  have k2 : H'[st.H.length + 1]? = some (.cells 24 [.int .i64 0, .str ⟨#[]⟩, .int .i64 0, .nils, .int .i64 0]) := hH1.get _ _ (by omega) (by simp)
  have hmk : ∀ x y, mayWrite E st.H.length x y = true := fun x y => hmw _ _ _ (Nat.le_refl _)
  by_cases o1 : op = 1
  ·subst o1
   simp [hs, e0, e1, e2, e3, c96, c98, storeA, hmw, wrC]
   refine wIf_dec (fun hv => ?_) (fun hv => ?_)
   ·simp [hs]
    exact ⟨rfl, rfl, by simp [hs], by simp [hs, e0], by simp [hs, e2], by simp [hs, e3, stepN, hv], by simp [hs], by simp [hs], by simp [hs, stepN, Wk.fail, he, hv], by simp [stepN, Wk.fail, he, hv], rfl, .app _ _ _, by simpa [stepN, hv] using hA _, by simp [stepN, hv], by simp, by simp⟩
   ·simp [hs]
    exact ⟨rfl, rfl, by simp [hs], by simp [hs, e0], by simp [hs, e2], by simp [hs, e3, stepN, hv], by simp [hs], by simp [hs], by simp [hs, stepN, Wk.fail, he, hv], by simp [stepN, Wk.fail, he, hv], rfl, .app _ _ _, by simpa [stepN, hv] using hA _, by simp [stepN, hv], by simp, by simp⟩
  by_cases o30 : op = 30
  ·subst o30
   simp [hs, e0, e1, e2, e3, c96, c98, storeA, hmw, wrC]
   exact ⟨rfl, rfl, by simp [hs], by simp [hs, e0], by simp [hs, e2], by simp [hs, e3, stepN], by simp [hs], by simp [hs], by simp [hs, stepN, Wk.fail, he], by simp [stepN, Wk.fail, he], rfl, .app _ _ _, by simpa [stepN] using hA _, by simp [stepN], by simp, by simp⟩
  by_cases o35 : op = 35
  ·subst o35
   simp [hs, e0, e1, e2, e3, c96, c98, storeA, hmw, wrC]
   exact ⟨rfl, rfl, by simp [hs], by simp [hs, e0], by simp [hs, e2], by simp [hs, e3, stepN], by simp [hs], by simp [hs], by simp [hs, stepN, Wk.fail, he], by simp [stepN, Wk.fail, he], rfl, .app _ _ _, by simpa [stepN] using hA _, by simp [stepN], by simp, by simp⟩
  by_cases o38 : op = 38
  ·subst o38
   simp [hs, e0, e1, e2, e3, c96, c98, storeA, hmw, wrC]
   exact ⟨rfl, rfl, by simp [hs], by simp [hs, e0], by simp [hs, e2], by simp [hs, e3, stepN], by simp [hs], by simp [hs], by simp [hs, stepN, Wk.fail, he], by simp [stepN, Wk.fail, he], rfl, .app _ _ _, by simpa [stepN] using hA _, by simp [stepN], by simp, by simp⟩
  by_cases o11 : op = 11
  ·subst o11
   simp [hs, e0, e1, e2, e3, c96, c99, storeA, hmw, wrC]
   simp [hs, e0, e2, e3, k1, storeA, hmk, wrC]
   exact ⟨rfl, rfl, by simp [hs], by simp [hs, e0], by simp [hs, e2], by simp [hs, e3, stepN], by simp [hs], by simp [hs], by simp [hs, stepN, he], by simp [stepN, he], rfl, ((HFr.app b st.H _).trans hH1).setN (Nat.le_refl _), by simpa [stepN] using hH3.set24 k1, by simpa [stepN] using List.getElem?_set_self (uB k1), by simpa using k2, by simp; omega⟩
  by_cases o16 : op = 16
  ·subst o16
   simp [hs, e0, e1, e2, e3, c96, c99, storeA, hmw, wrC]
   simp [hs, e0, e2, e3, k1, storeA, hmk, wrC]
   exact ⟨rfl, rfl, by simp [hs], by simp [hs, e0], by simp [hs, e2], by simp [hs, e3, stepN], by simp [hs], by simp [hs], by simp [hs, stepN, he], by simp [stepN, he], rfl, ((HFr.app b st.H _).trans hH1).setN (Nat.le_refl _), by simpa [stepN] using hH3.set24 k1, by simpa [stepN] using List.getElem?_set_self (uB k1), by simpa using k2, by simp; omega⟩
  by_cases o15 : op = 15
  ·subst o15
   simp [hs, e0, e1, e2, e3, c96, c99, storeA, hmw, wrC]
   simp [hs, e0, e2, e3, k1, storeA, hmk, wrC]
   exact ⟨rfl, rfl, by simp [hs], by simp [hs, e0], by simp [hs, e2], by simp [hs, e3, stepN], by simp [hs], by simp [hs], by simp [hs, stepN, he], by simp [stepN, he], rfl, ((HFr.app b st.H _).trans hH1).setN (Nat.le_refl _), by simpa [stepN] using hH3.set24 k1, by simpa [stepN] using List.getElem?_set_self (uB k1), by simpa using k2, by simp; omega⟩
  by_cases o36 : op = 36
  ·subst o36
   by_cases ha0 : at_ = 0
   ·simp [hs, e0, e1, e2, e3, c96, c98, storeA, hmw, wrC, ha0]
    exact ⟨rfl, rfl, by simp [hs], by simp [hs, e0], by simp [hs, e2], by simp [hs, e3, stepN, ha0], by simp [hs], by simp [hs], by simp [hs, stepN, Wk.fail, he, ha0], by simp [stepN, Wk.fail, he, ha0], rfl, .app _ _ _, by simpa [stepN, ha0] using hA _, by simp [stepN, ha0], by simp, by simp⟩
   ·simp [hs, e0, e1, e2, e3, c96, c98, storeA, hmw, wrC, ha0]
    exact ⟨rfl, rfl, by simp [hs], by simp [hs, e0], by simp [hs, e2], by simp [hs, e3, stepN, ha0], by simp [hs], by simp [hs], by simp [hs, stepN, Wk.fail, he, ha0], by simp [stepN, Wk.fail, he, ha0], rfl, .app _ _ _, by simpa [stepN, ha0] using hA _, by simp [stepN, ha0], by simp, by simp⟩
  by_cases o39 : op = 39
  ·subst o39
   cases loop
   ·simp [hs, e0, e1, e2, e3, c96, c98, storeA, hmw, wrC]
    exact ⟨rfl, rfl, by simp [hs], by simp [hs, e0], by simp [hs, e2], by simp [hs, e3, stepN], by simp [hs], by simp [hs], by simp [hs, stepN, Wk.fail, he], by simp [stepN, Wk.fail, he], rfl, .app _ _ _, by simpa [stepN] using hA _, by simp [stepN], by simp, by simp⟩
   ·simp [hs, e0, e1, e2, e3, c96, c98, storeA, hmw, wrC]
    exact ⟨rfl, rfl, by simp [hs], by simp [hs, e0], by simp [hs, e2], by simp [hs, e3, stepN], by simp [hs], by simp [hs], by simp [hs, stepN, Wk.fail, he], by simp [stepN, Wk.fail, he], rfl, .app _ _ _, by simpa [stepN] using hA _, by simp [stepN], by simp, by simp⟩
  by_cases o40 : op = 40
  ·subst o40
   cases loop
   ·simp [hs, e0, e1, e2, e3, c96, c98, storeA, hmw, wrC]
    exact ⟨rfl, rfl, by simp [hs], by simp [hs, e0], by simp [hs, e2], by simp [hs, e3, stepN], by simp [hs], by simp [hs], by simp [hs, stepN, Wk.fail, he], by simp [stepN, Wk.fail, he], rfl, .app _ _ _, by simpa [stepN] using hA _, by simp [stepN], by simp, by simp⟩
   ·simp [hs, e0, e1, e2, e3, c96, c98, storeA, hmw, wrC]
    exact ⟨rfl, rfl, by simp [hs], by simp [hs, e0], by simp [hs, e2], by simp [hs, e3, stepN], by simp [hs], by simp [hs], by simp [hs, stepN, Wk.fail, he], by simp [stepN, Wk.fail, he], rfl, .app _ _ _, by simpa [stepN] using hA _, by simp [stepN], by simp, by simp⟩
  by_cases o34 : op = 34
  ·subst o34
   simp [hs, e0, e1, e2, e3, c96, c98, storeA, hmw, wrC]
   exact ⟨rfl, rfl, by simp [hs], by simp [hs, e0], by simp [hs, e2], by simp [hs, e3, stepN], by simp [hs], by simp [hs], by simp [hs, stepN, Wk.fail, he], by simp [stepN, Wk.fail, he], rfl, .app _ _ _, by simpa [stepN] using hA _, by simp [stepN], by simp, by simp⟩
  simp [hs, e0, e1, e2, e3, c96, c98, storeA, hmw, wrC, o1, o30, o35, o38, o11, o16, o15, o36, o39, o40, o34]
  exact ⟨rfl, rfl, by simp [hs], by simp [hs, e0], by simp [hs, e2], by simp [hs, e3, stepN, o1, o30, o35, o38, o11, o16, o15, o36, o39, o40, o34], by simp [hs], by simp [hs], by simp [hs, stepN, Wk.fail, he, o1, o30, o35, o38, o11, o16, o15, o36, o39, o40, o34], by simp [stepN, Wk.fail, he, o1, o30, o35, o38, o11, o16, o15, o36, o39, o40, o34], rfl, .app _ _ _, by simpa [stepN, o1, o30, o35, o38, o11, o16, o15, o36, o39, o40, o34] using hA _, by simp [stepN, o1, o30, o35, o38, o11, o16, o15, o36, o39, o40, o34], by simp, by simp⟩
 clear e0 e1 e2 e3 hs c98 c96 hE1 hw0
 rintro s _ st1 ⟨rfl, hs, e0, e2, e3, e5, e8, e9, hln, hI1, hH1, hR1, hN, hZ, hL1⟩
 generalize hst : stepN at_ loop op s0 nn line w = q at e3 e9 hln hR1 hN hle ⊢
 obtain ⟨n1, L0, w1⟩ := q
 simp only at e3 e9 hln hR1 hN hle ⊢
 generalize (L0 || decide (op = 35)) = L1 at e3 ⊢
 have hlw := T.len_wtL l
 have hw1m := hle.1.mark
 have ha1 : at_ < w1.fs.length := by rw [hle.2]; exact ha
 have hil : i < st.I.length := by
  obtain ⟨-, -, bs, -, -, h5, -⟩ := hw
  exact uB h5
 by_cases hz : w1.e = 0
 rotate_left
 ·rw [wL_err at_ L1 l w1 hz]
  simp [hs, e9, hz, e5, hN, fillA, wrC, endQ]
  refine ⟨hH1, by rw [hI1]; exact .refl _ _, .inr ⟨hz, by rw [hln hz]; rfl⟩⟩
 obtain ⟨-, hfkl⟩ := hfk
 generalize hres2 : wL at_ L1 l w1 = res
 simp [hs, e9, hz, e5, hN]
 refine WP_loop (fun n s m st' => ∃ (j : Nat) (ts : List T) (lv : AV) (w' : Wk), j ≤ l.length ∧ n = l.length - j ∧ s.length = 93 ∧ m = [] ∧ lk s 0 = .ptr b 0 ∧ lk s 2 = .int .i64 at_ ∧ lk s 3 = .bool L1 ∧ lk s 5 = .ptr st.H.length 0 ∧
  lk s 8 = .ptr (st.H.length + 1) 0 ∧ lk s 10 = lv ∧ lk s 75 = .sl none l.length (T.encL l) ∧ lk s 76 = .int .i64 l.length ∧ lk s 77 = .int .i64 j ∧
  st'.H[st.H.length]? = some (.cells 24 [.int .i64 op, .str s0, .int .i64 n1, .sl none l.length (T.encL l), .int .i64 line]) ∧ st'.H[st.H.length + 1]? = some (.cells 24 [.int .i64 0, .str ⟨#[]⟩, .int .i64 0, .nils, .int .i64 0]) ∧ st.H.length + 2 ≤ st'.H.length ∧
  HFr b st.H st'.H ∧ RSt E st' b i w'.fs w'.mark ∧ AccT st.I.length st'.I ts lv ∧ IFr (some i) st.I st'.I ∧ ts.length = j ∧ WkLe w1 w' (T.wtL (l.take j)) ∧ w'.e = 0 ∧
  (ts ++ (wL at_ L1 (l.drop j) w').1, (wL at_ L1 (l.drop j) w').2) = res) l.length (by omega)
  ⟨0, [], .nils, w1, by omega, by omega, by simp [hs], rfl, by simp [hs, e0], by simp [hs, e2], by simp [hs, e3], by simp [hs, e5], by simp [hs, e8], by simp [hs], by simp [hs], by simp [hs], by simp [hs], hN, hZ, hL1, hH1, hR1, .inl ⟨rfl, rfl⟩, by rw [hI1]; exact .refl _ _, rfl, .refl hle.1.fs _, hz, by simpa using hres2⟩ ?_
 clear e0 e2 e3 e5 e8 e9 hs hN hZ hL1 hH1 hR1 hI1 hln hres2 st1
 rintro _ s m st1 ⟨j, ts, lv, w', hj, rfl, hs, rfl, e0, e2, e3, e5, e8, e10, e75, e76, e77, hN, hZ, hL1, hH1, hR1, hacc, hIf, htl, hwk, hz', hq⟩
 by_cases hc : j < l.length
 ·obtain ⟨t, hg⟩ : ∃ t, l[j]? = some t := ⟨_, List.getElem?_eq_getElem hc⟩
  rw [T.drop_cons hg, wL] at hq
  have hrd := T.rd hg
  have hwj := wrap64 (n := (j : Int) + 1) (by omega)
  have hwt := wtL_split hg
  have hwt1 := wtL_take_succ hg
  have hEs : E.Wf st1 := hE.of (by omega) hIf.len
  have hE2 : E.Wf ⟨st1.H ++ [.cells 24 t.enc], st1.I⟩ := hEs.of (by simp) (by simp)
  have hmk := hwk.mark
  have hmw2 := mayWrite_new hEs
  have hal : at_ < w'.fs.length := Nat.lt_of_lt_of_le ha1 hwk.pre.length_le
  have cT := ihT t (by omega) (T.fkL_get hfkl hg) at_ L1 w' E ⟨st1.H ++ [.cells 24 t.enc], st1.I⟩ b i (hR1.app _) hz' hbase hE2 hwk.fs hal (by omega) (by omega) k (by omega)
  have hle2 := wT_le at_ L1 t w' hwk.fs hal
  generalize wT at_ L1 t w' = r1 at cT hq hle2
  obtain ⟨t', w2⟩ := r1
  simp only at cT hq hle2
  have hlvo := hacc.one
  rw [T.enc_eq] at hrd cT
  simp [hs, e0, e2, e3, e5, e8, e10, e75, e76, e77, hc, hrd, storeA, hmw2, wrC]
  refine obP_intro cT fun p hp => ?_
  obtain ⟨r, st2⟩ := p
  obtain ⟨h1, h2, h3⟩ := hp
  simp only at h1 h2 h3
  have hH2 : HFr b st1.H st2.H := (HFr.app b st1.H _).trans h1
  rcases h3 with ⟨hz2, v, rfl, h3, h4⟩ | ⟨hz2, rfl⟩
  ·obtain ⟨lv2, rfl, hlv, hfin, -⟩ := h3.cells
   have hacc2 := (hacc.fr (fun q e => by cases e; exact hil) h2).old (I' := st2.I ++ [(1, 5)]) get_push
   have hIl := hIf.len
   have h2l := h2.len
   obtain ⟨v', I3, happ, hacc3, hold⟩ := hacc2.app (E := E) (H := st2.H) (by simp; omega) hE.rom (by omega) t' st2.I.length
   rw [T.enc_eq] at happ
   simp [Nat.testBit, hs, e10, fillA, wrC, hlv, hfin, happ]
   simp [hs, e77, hwj]
   have hN2 := hH2.get _ _ (by omega) hN
   have hZ2 := hH2.get _ _ (by omega) hZ
   refine ⟨_, by omega, j + 1, ts ++ [t'], v', w2, by omega, rfl, by simp [hs], rfl, by simp [hs, e0], by simp [hs, e2], by simp [hs, e3], by simp [hs, e5], by simp [hs, e8], by simp [hs], by simp [hs, e75], by simp [hs, e76], by simp [hs], hN2, hZ2, Nat.le_trans hL1 hH2.len, hH1.trans hH2, ?_, hacc3, ?_, by simp [htl], ?_, hz2, by simpa using hq⟩
   ·refine h4.fr (.refl _ _) rfl ?_
    obtain ⟨-, -, bs, -, -, h5, -⟩ := h4
    rw [h5]
    exact hold.get i _ hil (get_push i _ h5)
   ·refine ⟨Nat.le_trans (Nat.le_trans hIl h2l) (by have := hold.len; simp at this; show st2.I.length ≤ I3.length; omega), fun q x hq e => ?_⟩
    have hql := uB e
    exact hold.get q x hql (get_push q x (h2.get q x hq (hIf.get q x hq e)))
   ·exact hwk.trans hle2 (by omega)
  ·rw [wL_err at_ L1 _ w2 hz2] at hq
   simp [endQ]
   rw [← hq]
   exact ⟨hH1.trans hH2, hIf.trans h2, .inr ⟨hz2, rfl⟩⟩
 ·rw [List.drop_eq_nil_of_le (by omega)] at hq
  simp only [wL, List.append_nil] at hq
  subst hq
  have hlvo := hacc.one
  have hlvc := hacc.cells
  have hmk : ∀ x y, mayWrite E st.H.length x y = true := fun x y => hmw _ _ _ (Nat.le_refl _)
  have hNl : st.H.length < st1.H.length := by omega
  have g1 : ∀ x, (st1.H.set st.H.length x)[st.H.length]? = some x := fun x => List.getElem?_set_self hNl
  have g2 : ∀ x, (st1.H.set st.H.length x)[st.H.length + 1]? = some (.cells 24 [.int .i64 0, .str ⟨#[]⟩, .int .i64 0, .nils, .int .i64 0]) := fun x => by rw [List.getElem?_set_ne (by omega)]; exact hZ
  have g3 : ∀ x y, ((st1.H.set st.H.length x).set (st.H.length + 1) y)[st.H.length + 1]? = some y := fun x y => List.getElem?_set_self (by simp; omega)
  simp [hs, e10, e76, e77, hc, e5, e8, hN, storeA, hmk, hmw1, wrC, hlvo, hlvc, g1, g2, g3]
  refine ⟨(hH1.setN (Nat.le_refl _)).setN (by omega), hIf, .inl ⟨hz', _, rfl, hacc.node op s0 n1 line, (hR1.set24 hN).set24 (g2 _)⟩⟩
theorem f144 {E : Env} {st : St} (o : Option Nat) (l : List T) (h1 : 1 ≤ l.length) (h2 : l.length ≤ 1048576) (k : Nat) (hk : 1 ≤ k) :
  CallQ k E 144 [.sl o l.length (T.encL l)] st fun r st' => r = .ok (.hs st.H.length l.length) ∧ st' = ⟨st.H ++ [.cells 24 (T.encL l)], st.I⟩ := by
 obtain ⟨k, rfl⟩ := uK (k := k) (by omega)
 have hone := T.encL_one l
 refine ⟨(.ok (.hs st.H.length l.length), ⟨st.H ++ [.cells 24 (T.encL l)], st.I⟩), ?_, rfl, rfl⟩
 show ov144 (aCall prog k) E [.sl o l.length (T.encL l)] st = _
 simp [-List.all_eq_true, ov144, h1, h2, T.encL_fin, hone]
theorem finL_app (m : Nat) : ∀ a b : List AV, AV.finL m (a ++ b) = AV.finL m a ++ AV.finL m b
 | [], b => by simp
 | x :: a, b => by simp [finL_app m a b]
theorem wrC_n (a r : List T) (t : T) (v : Int) (i : Nat) (hi : a.length = i) : wrC (T.encL (a ++ t :: r)) (i * 5 + 2) [.int .i64 v] = T.encL (a ++ t.setN v :: r) := by
 subst hi
 obtain ⟨op, s, n, l, x⟩ := t
 have h1 : (T.encL a).length = a.length * 5 := T.encL_length a
 simp only [wrC, T.encL_append, T.encL_cons, T.setN, T.enc, T.op_mk, T.s_mk, T.n_mk, T.l_mk, T.line_mk]
 rw [← h1, List.take_append, List.drop_append, List.take_of_length_le (by omega), List.drop_eq_nil_of_le (by simp; omega), show (T.encL a).length + 2 + [AV.int IntKind.i64 v].length - (T.encL a).length = 3 by simp; omega, show (T.encL a).length + 2 - (T.encL a).length = 2 by omega]
 simp
theorem wrC_last (a : List T) (t : T) (vs : List AV) (i : Nat) (hi : a.length = i) (hv : vs.length = 5) : wrC (T.encL (a ++ [t])) (i * 5) vs = T.encL a ++ vs := by
 subst hi
 have h1 : (T.encL a).length = a.length * 5 := T.encL_length a
 have h2 : (T.encL (a ++ [t])).length = a.length * 5 + 5 := by simp; omega
 simp only [wrC, hv]
 rw [List.drop_eq_nil_of_le (by omega), List.append_nil, T.encL_append, List.take_append_of_le_length (by omega), List.take_of_length_le (by omega)]
theorem f97s {n : Nat} (ihT : PTree n) : PFun (n + 1) := by
  intro t ht hfk hfn at_ loop w E st b i hw he hbase hE hf ha hm hmx k hk
  obtain ⟨k, rfl⟩ := uK (k := k) (by omega)
  have hbl := hw.lt
  have hmw := mayWrite_new hE
  have hmw1 : ∀ x y, mayWrite E (st.H.length + 1) x y = true := fun x y => hmw _ _ _ (by omega)
  have hmw0 : ∀ x y, mayWrite E st.H.length x y = true := fun x y => hmw _ _ _ (Nat.le_refl _)
  obtain ⟨op, s0, nn, l, line⟩ := t
  simp only [T.op_mk] at hfn
  obtain ⟨hl0, hfkl⟩ := hfk
  have hl1m := (hl0 hfn).2
  obtain ⟨ps, bd, rfl⟩ : ∃ ps bd, l = ps ++ [bd] := ⟨l.dropLast, l.getLast (hl0 hfn).1, (List.dropLast_concat_getLast _).symm⟩
  simp only [T.wt] at hk hm hmx ht
  generalize hl : ps ++ [bd] = l at *
  have hlw := T.len_wtL l
  have hll : l.length = ps.length + 1 := by rw [← hl]; simp
  have hlm := wrap64 (n := (l.length : Int) - 1) (by omega)
  have hlp := wrap64 (n := (ps.length : Int)) (by omega)
  have hki : ((l.length : Int) - 1) = (ps.length : Nat) := by omega
  have hgb : l[ps.length]? = some bd := by rw [← hl]; simp
  have hrb := T.rd hgb
  have hwb := T.wtL_get hgb
  have hkl : ps.length < l.length := by omega
  have htk : (T.encL l).take (ps.length * 5) = T.encL ps := by rw [← hl, T.encL_append, List.take_left' (by simp)]
  have hww : T.wtL ps + bd.wt ≤ T.wtL l := by have := wtL_split hgb; rwa [show l.take ps.length = ps by rw [← hl]; simp] at this
  refine call_in3 rfl rfl (by decide) fun s hs e0 e1 e2 => ?_
  rw [WP_assoc, WP_assoc, WP_assoc]
  generalize hs1 : (if op = 10 then s0 else ⟨#[]⟩) = s1
  refine WP_seqM (fun s' m' st' => m' = [] ∧ s'.length = 77 ∧ lk s' 0 = .ptr b 0 ∧ lk s' 2 = .int .i64 at_ ∧ lk s' 4 = .ptr st.H.length 0 ∧ lk s' 6 = .ptr (st.H.length + 1) 0 ∧ lk s' 7 = .int .i64 ps.length ∧ lk s' 8 = .str s1 ∧
    st' = ⟨st.H ++ [.cells 24 [.int .i64 op, .str s0, .int .i64 nn, .sl none l.length (T.encL l), .int .i64 line], .cells 24 [.int .i64 0, .str ⟨#[]⟩, .int .i64 0, .nils, .int .i64 0]], st.I⟩) ?_ ?_
  · by_cases o10 : op = 10
    · rw [if_pos o10] at hs1
      simp [hs, e0, e1, e2, hki, hlp, o10]
      exact ⟨rfl, rfl, by simp [hs], by simp [hs, e0], by simp [hs, e2], by simp [hs], by simp [hs], by simp [hs], by simp [hs, hs1], by simp [o10]⟩
    · rw [if_neg o10] at hs1
      simp [hs, e0, e1, e2, hki, hlp, o10]
      exact ⟨rfl, rfl, by simp [hs], by simp [hs, e0], by simp [hs, e2], by simp [hs], by simp [hs], by simp [hs], by simp [hs, hs1], by simp⟩
  clear hs e0 e1 e2 s
  rintro s _ _ ⟨rfl, hs, e0, e2, e4, e6, e7, e8, rfl⟩
  have hw0 := hw.app [.cells 24 [.int .i64 op, .str s0, .int .i64 nn, .sl none l.length (T.encL l), .int .i64 line], .cells 24 [.int .i64 0, .str ⟨#[]⟩, .int .i64 0, .nils, .int .i64 0]]
  obtain ⟨H', c99, hH1, hH2, hH3⟩ := f99r hw0 2 (by omega) k (by omega)
  simp only [List.length_append, List.length_cons, List.length_nil, Nat.zero_add, Nat.reduceAdd, Int.cast_ofNat_Int] at hH1 hH2 c99
  have k1 : H'[st.H.length]? = some (.cells 24 [.int .i64 op, .str s0, .int .i64 nn, .sl none l.length (T.encL l), .int .i64 line]) := hH1.get _ _ (by omega) (by simp)
  have k2 : H'[st.H.length + 1]? = some (.cells 24 [.int .i64 0, .str ⟨#[]⟩, .int .i64 0, .nils, .int .i64 0]) := hH1.get _ _ (by omega) (by simp)
  have hE1 : E.Wf ⟨H', st.I⟩ := hE.of (by omega) (Nat.le_refl _)
  have hkle : ps.length ≤ l.length := by omega
  have c62 := f62 at_ s0 w.mark ps (.sl none ps.length (T.encL ps)) (.inr rfl) s1 bd E ⟨H', st.I⟩ hE1 (by omega) k (by omega)
  have hbe := T.enc_eq bd
  rw [hbe] at hrb c62
  simp [Nat.testBit, hs, e0, e2, e4, e6, e7, e8, c99, k1, htk, hkl, hkle, hrb, fillA, wrC]
  refine obP_intro c62 fun p hp => ?_
  obtain ⟨r, st2⟩ := p
  obtain ⟨fb, r1, r2, r3, r4, r5, r6⟩ := hp
  simp only at r1 r2 r3 r4 r5 r6
  subst r1
  have hF2 := r6 b (by omega)
  have hK : HFr b H' st2.H := ⟨r3, fun j x _ e => by rw [r4 j (uB e)]; exact e⟩
  have hR2 : RSt E st2 b i w.fs (w.mark + 2) := hH3.fr hK (r4 b (by omega)) (by
    obtain ⟨-, -, bs, -, -, h5, -⟩ := hH3
    rw [h5]; exact r5.get i _ (by simp) h5)
  have hE2 : E.Wf st2 := hE1.of r3 r5.len
  have k1' : st2.H[st.H.length]? = _ := hK.get _ _ (by omega) k1
  have k2' : st2.H[st.H.length + 1]? = _ := hK.get _ _ (by omega) k2
  generalize hFe : ({ around := (at_ : Int), name := s0, params := (ps.foldl (fun o x => withS o x.s) []).length, vars := decT bd (if s1 = ⟨#[]⟩ then ps.foldl (fun o x => withS o x.s) [] else withS (ps.foldl (fun o x => withS o x.s) []) s1), mark := w.mark } : Fn) = F at hF2
  have hfo : fnOf' op s0 l at_ w.mark = F := by
    have hpar : paramsOf l = ps.foldl (fun o x => withS o x.s) [] := by rw [← hl]; simp [paramsOf]
    have hgl : l.getLast? = some bd := by rw [← hl]; simp
    rw [← hFe]
    simp only [fnOf', hpar, hgl, Option.getD_some]
    congr 2
    by_cases o10 : op = 10
    · rw [if_pos o10] at hs1; subst hs1
      by_cases hse : s0 = ⟨#[]⟩ <;> simp [o10, hse]
    · rw [if_neg o10] at hs1; subst hs1
      simp [o10]
  have hwT : wT at_ loop (.mk op s0 nn l line) w = if w.fs.length = 500 ∨ 200 < F.vars.length then (.mk op s0 nn l line, ({ w with mark := w.mark + 2 } : Wk).fail 52 line) else
      ((.mk op s0 w.fs.length (wP w.fs.length l { w with mark := w.mark + 2, fs := w.fs ++ [F] }).1 line), (wP w.fs.length l { w with mark := w.mark + 2, fs := w.fs ++ [F] }).2) := by
    simp only [wT, he, ne_eq, not_true, if_false, hfn, if_true, hfo]
  rw [hwT]
  have hlen500 := hf.len
  have hHst2 : HFr b st.H st2.H := ((HFr.app b st.H _).trans hH1).trans hK
  by_cases hlim : w.fs.length = 500 ∨ 200 < F.vars.length
  · rw [if_pos hlim]
    simp only
    have c61 : CallQ k E 61 [.ptr b 0, .ptr fb 0, .int .i64 line] st2 fun r st' => r = .pan (faultV 52 line) ∧ st' = st2 := by
      obtain ⟨-, -, bs, hbs, hb, -⟩ := hR2
      exact f61p hb (by simp [lenA, hbs]) hF2 hlim line k (by omega)
    simp [Nat.testBit, hs, e0, e2, e4, e6, e7, e8, k1, k1']
    refine obP_intro c61 fun p hp => ?_
    obtain ⟨r, st3⟩ := p
    obtain ⟨q1, q2⟩ := hp
    simp only at q1 q2
    subst q1 q2
    simp [endQ, isEff, aDead, Nat.testBit]
    refine ⟨hHst2, ⟨r5.len, fun q x _ e => r5.get q x (by simp) e⟩, .inr ⟨by simp [Wk.fail, he], by simp [Wk.fail, he]⟩⟩
  have c61 := f61a hE2 hR2 hbase hF2 (by omega) (by omega) line k (by omega)
  rw [if_neg hlim]
  simp only
  simp [Nat.testBit, hs, e0, e2, e4, e6, e7, e8, k1, k1']
  refine obP_intro c61 fun p hp => ?_
  obtain ⟨r, st3⟩ := p
  obtain ⟨q1, q2, q3, q4, q5⟩ := hp
  simp only at q1 q2 q3 q4 q5
  subst q1
  have k1'' : st3.H[st.H.length]? = _ := q3.get _ _ (by omega) k1'
  have k2'' : st3.H[st.H.length + 1]? = _ := q3.get _ _ (by omega) k2'
  have hNl : st.H.length < st3.H.length := by omega
  have k3 : ∀ x, (st3.H.set st.H.length x)[st.H.length]? = some x := fun x => List.getElem?_set_self hNl
  have c144 := f144 (E := E) (st := ⟨st3.H.set st.H.length (.cells 24 [.int .i64 op, .str s0, .int .i64 w.fs.length, .sl none l.length (T.encL l), .int .i64 line]), st3.I⟩) none l (by omega) (by omega) k (by omega)
  simp [Nat.testBit, hs, e0, e2, e4, e6, e7, e8, k1'', storeA, hmw0, wrC, k3]
  refine obP_intro c144 fun p hp => ?_
  obtain ⟨r, st4⟩ := p
  obtain ⟨q6, q7⟩ := hp
  simp only [List.length_set] at q6 q7
  subst q6
  simp [hs, e7]
  have hR4 : RSt E ⟨st3.H.set st.H.length (.cells 24 [.int .i64 op, .str s0, .int .i64 w.fs.length, .sl none l.length (T.encL l), .int .i64 line]), st3.I⟩ b i (w.fs ++ [F]) (w.mark + 2) := q2.set24 k1''
  have hA4 := k3 (.cells 24 [.int .i64 op, .str s0, .int .i64 w.fs.length, .sl none l.length (T.encL l), .int .i64 line])
  have hZ4 : (st3.H.set st.H.length (.cells 24 [.int .i64 op, .str s0, .int .i64 w.fs.length, .sl none l.length (T.encL l), .int .i64 line]))[st.H.length + 1]? = some (.cells 24 [.int .i64 0, .str ⟨#[]⟩, .int .i64 0, .nils, .int .i64 0]) := by rw [List.getElem?_set_ne (by omega)]; exact k2''
  have hF4 : HFr b st.H (st3.H.set st.H.length (.cells 24 [.int .i64 op, .str s0, .int .i64 w.fs.length, .sl none l.length (T.encL l), .int .i64 line])) := (hHst2.trans q3).setN (Nat.le_refl _)
  have hI4 : IFr (some i) st.I st3.I := ⟨Nat.le_trans r5.len q5.len, fun q x hq e => q5.get q x hq (r5.get q x (by simp) e)⟩
  have hL4 : (st3.H.set st.H.length (.cells 24 [.int .i64 op, .str s0, .int .i64 w.fs.length, .sl none l.length (T.encL l), .int .i64 line])).length = st3.H.length := by simp
  generalize st3.H.set st.H.length (.cells 24 [.int .i64 op, .str s0, .int .i64 w.fs.length, .sl none l.length (T.encL l), .int .i64 line]) = H4 at hR4 hA4 hZ4 hF4 hL4 q7
  have hL3 : st.H.length + 2 ≤ st3.H.length := by omega
  generalize hI3 : st3.I = I3 at hR4 hI4 q7
  generalize hh : st3.H.length = hb at hL4 hL3
  have hf2 : FsOk (w.fs ++ [F]) := hf.push (by omega) (by omega) (by rw [← hFe]; simp <;> omega) (by rw [← hFe]; simp <;> omega)
  have hme : (w.fs ++ [F]).length = w.fs.length + 1 := by simp
  refine WP_loop (fun n s m st' => ∃ j : Nat, j ≤ ps.length ∧ n = ps.length - j ∧ s.length = 77 ∧ m = [] ∧ lk s 0 = .ptr b 0 ∧ lk s 4 = .ptr st.H.length 0 ∧ lk s 6 = .ptr (st.H.length + 1) 0 ∧ lk s 7 = .int .i64 ps.length ∧ lk s 9 = .int .i64 w.fs.length ∧ lk s 10 = .hs hb l.length ∧ lk s 47 = .int .i64 ps.length ∧ lk s 48 = .int .i64 j ∧
    st' = ⟨H4 ++ [.cells 24 (T.encL ((ps.take j).map (fun x => x.setN (varNo (w.fs ++ [F]) w.fs.length x.s)) ++ l.drop j))], I3⟩) ps.length (by omega)
    ⟨0, by omega, by omega, by simp [hs], rfl, by simp [hs, e0], by simp [hs, e4], by simp [hs, e6], by simp [hs, e7], by simp [hs], by simp [hs], by simp [hs], by simp [hs], by simp [q7]⟩ ?_
  clear hs e0 e2 e4 e6 e7 e8 s
  rintro _ s m _ ⟨j, hj, rfl, hs, rfl, e0, e4, e6, e7, e9, e10, e47, e48, rfl⟩
  have hmwb : ∀ x y, mayWrite E hb x y = true := fun x y => hmw _ _ _ (by omega)
  have g1 : ∀ x, (H4 ++ [x])[hb]? = some x := fun x => by rw [← hL4]; simp
  have g2 : ∀ x y, (H4 ++ [x]).set hb y = H4 ++ [y] := fun x y => by rw [← hL4]; simp
  by_cases hc : j < ps.length
  · obtain ⟨t, hg⟩ : ∃ t, ps[j]? = some t := ⟨_, List.getElem?_eq_getElem hc⟩
    have hgl : l[j]? = some t := by rw [← hl, List.getElem?_append_left hc]; exact hg
    have hjl : j < l.length := by omega
    have hwj := wrap64 (n := (j : Int) + 1) (by omega)
    rw [T.drop_cons hgl]
    have hAl : ((ps.take j).map (fun x => x.setN (varNo (w.fs ++ [F]) w.fs.length x.s))).length = j := by simp; omega
    have hwr := wrC_n ((ps.take j).map (fun x => x.setN (varNo (w.fs ++ [F]) w.fs.length x.s))) (l.drop (j + 1)) t (varNo (w.fs ++ [F]) w.fs.length t.s) j hAl
    have hat : ((ps.take j).map (fun x => x.setN (varNo (w.fs ++ [F]) w.fs.length x.s)) ++ t :: l.drop (j + 1))[j]? = some t := by rw [List.getElem?_append_right (by omega), hAl]; simp
    have hcs := T.cell hat 1 (by omega)
    have hts : t.enc[1]? = some (.str t.s) := by rw [T.enc_eq]; rfl
    rw [hts] at hcs
    have hlen : (T.encL ((ps.take j).map (fun x => x.setN (varNo (w.fs ++ [F]) w.fs.length x.s)) ++ t :: l.drop (j + 1))).length = l.length * 5 := by rw [T.encL_length]; simp; omega
    have hnew : (ps.take (j + 1)).map (fun x => x.setN (varNo (w.fs ++ [F]) w.fs.length x.s)) ++ l.drop (j + 1) = (ps.take j).map (fun x => x.setN (varNo (w.fs ++ [F]) w.fs.length x.s)) ++ t.setN (varNo (w.fs ++ [F]) w.fs.length t.s) :: l.drop (j + 1) := by
      rw [List.take_add_one, hg]; simp
    generalize (ps.take j).map (fun x => x.setN (varNo (w.fs ++ [F]) w.fs.length x.s)) ++ t :: l.drop (j + 1) = ls at hwr hat hcs hlen ⊢
    have c98 := full_of (w := .int .i64 (varNo (w.fs ++ [F]) w.fs.length t.s)) (f98 hf2 (hR4.app [.cells 24 (T.encL ls)]) t.s w.fs.length (by omega) (by omega) k (by omega)) (fun _ => rfl) rfl (E := E)
    have hb2 : j * 5 + 2 + 1 ≤ l.length * 5 := by omega
    simp [hs, e0, e4, e6, e7, e9, e10, e47, e48, hc, hjl, g1, hcs, c98]
    simp [hs, storeA, g1, g2, hmwb, hlen, hb2, hwr]
    simp [hs, e48, hwj]
    exact ⟨_, by omega, j + 1, by omega, rfl, by simp [hs], rfl, by simp [hs, e0], by simp [hs, e4], by simp [hs, e6], by simp [hs, e7], by simp [hs, e9], by simp [hs, e10], by simp [hs, e47], by simp [hs], by rw [hnew, List.map_take]⟩
  have hjp : j = ps.length := by omega
  subst hjp
  have hdl : l.drop ps.length = [bd] := by rw [← hl]; simp
  have hwP : wP w.fs.length l { w with mark := w.mark + 2, fs := w.fs ++ [F] } = (ps.map (fun x => x.setN (varNo (w.fs ++ [F]) w.fs.length x.s)) ++ [(wT w.fs.length false bd { w with mark := w.mark + 2, fs := w.fs ++ [F] }).1], (wT w.fs.length false bd { w with mark := w.mark + 2, fs := w.fs ++ [F] }).2) := by rw [← hl]; exact wP_eq _ _ _ _
  rw [hwP, hdl, List.take_length]
  have hAl : (ps.map (fun x => x.setN (varNo (w.fs ++ [F]) w.fs.length x.s))).length = ps.length := by simp
  generalize ps.map (fun x => x.setN (varNo (w.fs ++ [F]) w.fs.length x.s)) = A at hAl ⊢
  have hat : (A ++ [bd])[ps.length]? = some bd := by rw [← hAl]; simp
  have hrd := T.rd hat
  have hI3l := hI4.len
  have hE4 : E.Wf ⟨H4 ++ [.cells 24 (T.encL (A ++ [bd]))], I3⟩ := hE.of (by simp; omega) hI3l
  have cT := ihT bd (by omega) (T.fkL_get hfkl hgb) w.fs.length false { w with mark := w.mark + 2, fs := w.fs ++ [F] } E ⟨H4 ++ [.cells 24 (T.encL (A ++ [bd]))], I3⟩ b i (hR4.app _) he hbase hE4 hf2 (by simp) (by simp; omega) (by omega) k (by omega)
  generalize wT w.fs.length false bd { w with mark := w.mark + 2, fs := w.fs ++ [F] } = r1 at cT ⊢
  obtain ⟨t', w3⟩ := r1
  simp only at cT ⊢
  rw [hbe] at cT hrd
  have hlen : (T.encL (A ++ [bd])).length = l.length * 5 := by rw [T.encL_length]; simp; omega
  have hwr := fun vs h => wrC_last A bd vs ps.length hAl h
  generalize hls : T.encL (A ++ [bd]) = ls at hlen hwr cT hrd ⊢
  simp [hs, e0, e4, e6, e7, e9, e10, e47, e48, hkl, g1, hrd]
  refine obP_intro cT fun p hp => ?_
  obtain ⟨r, st5⟩ := p
  obtain ⟨h1, h2, h3⟩ := hp
  simp only at h1 h2 h3
  have hH5 : HFr b st.H st5.H := (hF4.trans (.app _ _ _)).trans h1
  have hI5 : IFr (some i) st.I st5.I := hI4.trans h2
  rcases h3 with ⟨hz, v, rfl, h3, h4⟩ | ⟨hz, rfl⟩
  rotate_left
  · simp [endQ]
    exact ⟨hH5, hI5, .inr ⟨hz, rfl⟩⟩
  obtain ⟨lv, rfl, hlv, hfin, -⟩ := h3.cells
  have j1 : st5.H[hb]? = some (.cells 24 ls) := h1.get _ _ (by omega) (g1 _)
  have j2 : st5.H[st.H.length]? = _ := h1.get _ _ (by omega) (getE_old hA4)
  have j3 : st5.H[st.H.length + 1]? = _ := h1.get _ _ (by omega) (getE_old hZ4)
  have hb2 : ps.length * 5 + 5 ≤ l.length * 5 := by omega
  have hw2 := hwr [.int .i64 t'.op, .str t'.s, .int .i64 t'.n, lv, .int .i64 t'.line] rfl
  simp [hs, e4, e6, e7, e10, hkl, j1, storeA, hmwb, hlv, hlen, hb2, hw2]
  have hl5 : hb < st5.H.length := uB j1
  have hrob2 : E.rob ≤ hb := by have := hE.rob; omega
  have hfv : AV.finL 0 (T.encL A ++ [.int .i64 t'.op, .str t'.s, .int .i64 t'.n, lv, .int .i64 t'.line]) = T.encL (A ++ [t']) := by
    rw [finL_app, T.encL_append, T.encL_fin, T.encL_cons, T.encL_nil, T.enc_eq]
    simp [hfin]
  have hll2 : (A ++ [t']).length = l.length := by simp; omega
  have hR5 := (h4.set24 j1 (x := .cells 24 (T.encL A ++ [.int .i64 t'.op, .str t'.s, .int .i64 t'.n, lv, .int .i64 t'.line]))).set24 (List.getElem?_set_self hl5) (x := .opq)
  generalize hX : (T.encL A ++ [AV.int IntKind.i64 t'.op, AV.str t'.s, AV.int IntKind.i64 t'.n, lv, AV.int IntKind.i64 t'.line]) = X at hfv hR5 ⊢
  rw [List.set_set] at hR5
  have y1 : (st5.H.set hb (.cells 24 X))[hb]? = some (.cells 24 X) := List.getElem?_set_self hl5
  have y2 : (st5.H.set hb .opq)[st.H.length]? = some (.cells 24 [.int .i64 op, .str s0, .int .i64 w.fs.length, .sl none l.length (T.encL l), .int .i64 line]) := by rw [List.getElem?_set_ne (by omega)]; exact j2
  have y3 : (st5.H.set hb .opq)[st.H.length + 1]? = some (.cells 24 [.int .i64 0, .str ⟨#[]⟩, .int .i64 0, .nils, .int .i64 0]) := by rw [List.getElem?_set_ne (by omega)]; exact j3
  have hH6 : HFr b st.H (st5.H.set hb .opq) := hH5.setN (by omega)
  have hl6 : (st5.H.set hb ABlk.opq).length = st5.H.length := by simp
  simp [frzA, y1, hrob2, hfv, hs, e4]
  generalize st5.H.set hb .opq = H6 at hR5 y2 y3 hH6 hl6 ⊢
  have y4 : ∀ x, (H6.set st.H.length x)[st.H.length]? = some x := fun x => List.getElem?_set_self (by omega)
  have y5 : ∀ x, (H6.set st.H.length x)[st.H.length + 1]? = some (.cells 24 [.int .i64 0, .str ⟨#[]⟩, .int .i64 0, .nils, .int .i64 0]) := fun x => by rw [List.getElem?_set_ne (by omega)]; exact y3
  have y6 : ∀ x y, ((H6.set st.H.length x).set (st.H.length + 1) y)[st.H.length + 1]? = some y := fun x y => List.getElem?_set_self (by simp; omega)
  simp [hs, e4, e6, y2, storeA, hmw0, hmw1, wrC, y4, y5, y6]
  refine ⟨(hH6.setN (Nat.le_refl _)).setN (by omega), hI5, .inl ⟨hz, _, rfl, ⟨_, rfl, .inr ⟨none, by rw [← hll2]; rfl, nofun⟩⟩, (hR5.set24 y2).set24 (y5 _)⟩⟩
theorem PT_all : ∀ n, PTree n
 | 0 => fun t ht => absurd ht (by cases t; simp [T.wt])
 | n + 1 => f63s (PT_all n) (f97s (PT_all n))
theorem f60 {E : Env} {st : St} (hE : E.Wf st) (o : Option Nat) (e x : Int) (k : Nat) (hk : 10 ≤ k) :
  CallQ k E 60 [.sl o 1 [faultV e x]] st fun r st' => ∃ j w, r = .ok (.iface 151 (.ptr j 0)) ∧ st.H.length ≤ j ∧ st'.H[j]? = some (.cells 153 [.sl w 1 [faultV e x]]) ∧ Grow st st' := by
 obtain ⟨k, rfl⟩ : ∃ k', k = k' + 5 := ⟨k - 5, by omega⟩
 have hmw := mayWrite_new hE
 refine call_in1 rfl rfl (by decide) fun s hs e0 => ?_
 have w1 := wrap64 (n := (1 : Int)) (by omega)
 have hrom := hE.rom
 have hrob := hE.rob
 simp [hs, e0, WP_un, WL_succ, faultV, w1, fillA, wrC, storeA, hmw, appA, srcA, hrom]
 exact Grow.app _ _ _
def okQ (P : List AV → St → Prop) : QR := fun r st => match r with | .ok s => P s st | .pan _ => False
@[simp ↓] theorem okQ_ok (P s st) : okQ P (.ok s) st = P s st := rfl
def nrm0 (P : St → Prop) : Q4 := fun x _ m st => x = .nrm ∧ m = [] ∧ P st
theorem dfr_in {C : CSem} {E : Env} {caps : List AV} {rv : AV} {st : St} {P : St → Prop}
  (h : WO C E a59x (put (caps ++ List.replicate 13 AV.undef) (some 6) rv) st (okQ fun s1 st1 => WP C E 1 none a59y s1 [] st1 (nrm0 P))) : obP (dfr59 C E caps rv st) P := by
 obtain ⟨⟨r, st1⟩, e, q⟩ := h
 rcases r with s1 | v
 ·obtain ⟨⟨x, s2, m2, st2⟩, e2, q1, q2, q3⟩ := q
  simp only at q1 q2 q3
  subst q1 q2
  exact ⟨st2, by simp only [dfr59, e, obind_some, e2], q3⟩
 ·exact q.elim
def resQ (C : CSem) (E : Env) (p2 p3 p4 : AV) (Q : Rt AV → St → Prop) : Q4 := fun x _ m st => m = [] ∧ match x with
 | .ret => obP (dfr59 C E [p2, p3, p4] .nili st) fun st4 => ∃ a b c, loadA st4 none p2 = some a ∧ loadA st4 (some 5) p3 = some b ∧ loadA st4 none p4 = some c ∧ Q (.ok (.tup [a, b, c])) st4
 | .pan v => obP (dfr59 C E [p2, p3, p4] v st) fun st4 => ∃ a b c, loadA st4 none p2 = some a ∧ loadA st4 (some 5) p3 = some b ∧ loadA st4 none p4 = some c ∧ Q (.ok (.tup [a, b, c])) st4
 | _ => False
theorem ov42_in (p2 p3 p4 : AV) {k : Nat} {E : Env} {args : List AV} {st : St} {Q : Rt AV → St → Prop}
  (h : WO (aCall prog k) E a42x (args ++ List.replicate (40 - args.length) AV.undef) st (okQ fun s0 st0 => WO (aCall prog k) E a42y s0 st0 (okQ fun s1 st1 => 10 < s1.length ∧ lk s1 2 = p2 ∧ lk s1 3 = p3 ∧ lk s1 4 = p4 ∧
   WP (aCall prog k) E 1000 none a42z (s1.set 10 (.fn 59 [] [p2, p3, p4])) [] st1 (resQ (aCall prog k) E p2 p3 p4 Q)))) :
  CallQ (k + 1) E 42 args st Q := by
 obtain ⟨⟨r, st0⟩, e0, q⟩ := h
 rcases r with s0 | v
 rotate_left
 ·exact q.elim
 obtain ⟨⟨r, st1⟩, e1, q⟩ := q
 rcases r with s1 | v
 rotate_left
 ·exact q.elim
 obtain ⟨hl, rfl, rfl, rfl, ⟨x, s3, m3, st3⟩, e3, q1, q2⟩ := q
 have q1 : m3 = [] := q1
 subst q1
 have e : aCall prog (k + 1) E (.fn 42) args st = ov42 (aCall prog k) E args st := rfl
 show obP (aCall prog (k + 1) E (.fn 42) args st) _
 rw [e]
 have l2 : lk (s1.set 10 (AV.fn 59 [] [lk s1 2, lk s1 3, lk s1 4])) 2 = lk s1 2 := by rw [lk_set]; simp
 have l3 : lk (s1.set 10 (AV.fn 59 [] [lk s1 2, lk s1 3, lk s1 4])) 3 = lk s1 3 := by rw [lk_set]; simp
 have l4 : lk (s1.set 10 (AV.fn 59 [] [lk s1 2, lk s1 3, lk s1 4])) 4 = lk s1 4 := by rw [lk_set]; simp
 have hres : ∀ st4 a b c, loadA st4 none (lk s1 2) = some a → loadA st4 (some 5) (lk s1 3) = some b → loadA st4 none (lk s1 4) = some c → resAll (s1.set 10 (AV.fn 59 [] [lk s1 2, lk s1 3, lk s1 4])) st4 res42 = some [a, b, c] := by
  intro st4 a b c h1 h2 h3
  simp only [res42, resAll, resA, l2, l3, l4, h1, h2, h3, obind_some]
 cases x with
 | ret =>
  obtain ⟨st4, f1, a, b, c, f2, f3, f4, f5⟩ := q2
  have f1 : dfr59 (aCall prog k) E _ _ st3 = some st4 := f1
  exact ⟨(.ok (.tup [a, b, c]), st4), by simp only [ov42, e0, obind_some, e1, hl, decide_true, guardb_true, e3, l2, l3, l4, f1, hres _ _ _ _ f2 f3 f4, okv_eq, oneOr], f5⟩
 | pan v =>
  obtain ⟨st4, f1, a, b, c, f2, f3, f4, f5⟩ := q2
  have f1 : dfr59 (aCall prog k) E _ _ st3 = some st4 := f1
  exact ⟨(.ok (.tup [a, b, c]), st4), by simp only [ov42, e0, obind_some, e1, hl, decide_true, guardb_true, e3, l2, l3, l4, f1, hres _ _ _ _ f2 f3 f4, okv_eq, oneOr], f5⟩
 | nrm => exact q2.elim
 | exit => exact q2.elim
theorem dfr_ok {E : Env} {st : St} (hE : E.Wf st) (p2 p3 p4 : AV) (k : Nat) : obP (dfr59 (aCall prog k) E [p2, p3, p4] .nili st) fun st4 => st4 = ⟨st.H ++ [.cells 65 [.int .i64 0, .int .i64 0]], st.I⟩ := by
 refine dfr_in ?_
 have hmw := mayWrite_new hE
 have hs : (put ([p2, p3, p4] ++ List.replicate 13 AV.undef) (some 6) .nili).length = 16 := by simp [put]
 have e6 : lk (put ([p2, p3, p4] ++ List.replicate 13 AV.undef) (some 6) .nili) 6 = .nili := rfl
 generalize put ([p2, p3, p4] ++ List.replicate 13 AV.undef) (some 6) .nili = s at hs e6
 rw [a59x]
 simp [hs, e6, taA, storeA, hmw, wrC]
 rw [a59y]
 simp [hs]
 exact ⟨rfl, rfl, rfl⟩
theorem dfr_pan {E : Env} {st : St} (hE : E.Wf st) (N : Nat) (hb : E.base ≤ N) (hr : E.rob ≤ N) {x y0 : AV} {c : List AV} (h1 : st.H[N + 1]? = some (.cells 27 [x])) (h2 : st.H[N + 2]? = some (.cells 24 c)) (hc : c.length = 5) (h3 : st.H[N + 3]? = some (.cells 61 [y0])) (e ln : Int) (k : Nat) (hk : 20 ≤ k)
    {P : St → Prop} (hP : ∀ (st4 : St) (j : Nat) (w : Option Nat), st4.H[N + 1]? = some (.cells 27 [.nils]) → st4.H[N + 2]? = some (.cells 24 [.int .i64 0, .str ⟨#[]⟩, .int .i64 0, .nils, .int .i64 0]) → st4.H[N + 3]? = some (.cells 61 [.iface 151 (.ptr j 0)]) →
      st4.H[j]? = some (.cells 153 [.sl w 1 [faultV e ln]]) → (∀ q z, q < N → st.H[q]? = some z → st4.H[q]? = some z) → st.H.length ≤ st4.H.length → IFr none st.I st4.I → P st4) :
    obP (dfr59 (aCall prog k) E [.ptr (N + 1) 0, .ptr (N + 2) 0, .ptr (N + 3) 0] (faultV e ln) st) P := by
  refine dfr_in ?_
  have hmw := mayWrite_new hE
  have hmw0 : ∀ j x y, mayWrite E (N + j) x y = true := fun j x y => by simp [mayWrite]; omega
  have hs : (put ([AV.ptr (N + 1) 0, .ptr (N + 2) 0, .ptr (N + 3) 0] ++ List.replicate 13 AV.undef) (some 6) (faultV e ln)).length = 16 := by simp [put]
  have e6 : lk (put ([AV.ptr (N + 1) 0, .ptr (N + 2) 0, .ptr (N + 3) 0] ++ List.replicate 13 AV.undef) (some 6) (faultV e ln)) 6 = .iface 65 (.agg [.int .i64 e, .int .i64 ln]) := rfl
  have e0 : lk (put ([AV.ptr (N + 1) 0, .ptr (N + 2) 0, .ptr (N + 3) 0] ++ List.replicate 13 AV.undef) (some 6) (faultV e ln)) 0 = .ptr (N + 1) 0 := rfl
  have e1 : lk (put ([AV.ptr (N + 1) 0, .ptr (N + 2) 0, .ptr (N + 3) 0] ++ List.replicate 13 AV.undef) (some 6) (faultV e ln)) 1 = .ptr (N + 2) 0 := rfl
  have e2 : lk (put ([AV.ptr (N + 1) 0, .ptr (N + 2) 0, .ptr (N + 3) 0] ++ List.replicate 13 AV.undef) (some 6) (faultV e ln)) 2 = .ptr (N + 3) 0 := rfl
  generalize put ([AV.ptr (N + 1) 0, .ptr (N + 2) 0, .ptr (N + 3) 0] ++ List.replicate 13 AV.undef) (some 6) (faultV e ln) = s at hs e6 e0 e1 e2
  rw [a59x]
  have hE1 : E.Wf ⟨st.H ++ [.cells 65 [.int .i64 e, .int .i64 ln]], st.I⟩ := hE.of (by simp) (by simp)
  have c60 := f60 (st := ⟨st.H ++ [.cells 65 [.int .i64 e, .int .i64 ln]], st.I ++ [(1, 1)]⟩) (hE.of (by simp) (by simp)) (some st.I.length) e ln k (by omega)
  simp only [faultV] at c60
  simp [hs, e6, taA, storeA, hmw, wrC]
  rw [a59y]
  simp [hs, fillA, wrC]
  refine obP_intro c60 fun p hp => ?_
  obtain ⟨r, st2⟩ := p
  obtain ⟨j, w, r1, r2, r3, r4⟩ := hp
  simp only [List.length_append, List.length_cons, List.length_nil] at r1 r2 r3 r4
  subst r1
  have g1 := r4.get (getE_old h1)
  have g2 := r4.get (getE_old h2)
  have g3 := r4.get (getE_old h3)
  have hl2 : st.H.length + 1 ≤ st2.H.length := by have := r4.H.length_le; simpa using this
  have hlt := uB h3
  have y1 : ∀ x, (st2.H.set (N + 1) x)[N + 2]? = some (.cells 24 c) := fun x => by rw [List.getElem?_set_ne (by omega)]; exact g2
  have y2 : ∀ x y, ((st2.H.set (N + 1) x).set (N + 2) y)[N + 3]? = some (.cells 61 [y0]) := fun x y => by rw [List.getElem?_set_ne (by omega), List.getElem?_set_ne (by omega)]; exact g3
  simp [hs, e0, e1, e2, g1, storeA, hmw0, wrC, hc, y1, y2]
  have hc5 : c.drop 5 = [] := List.drop_eq_nil_of_le (by omega)
  have y3 : ∀ x y z q, q ≠ N + 1 → q ≠ N + 2 → q ≠ N + 3 → (((st2.H.set (N + 1) x).set (N + 2) y).set (N + 3) z)[q]? = st2.H[q]? := fun x y z q h1 h2 h3 => by
    rw [List.getElem?_set_ne (by omega), List.getElem?_set_ne (by omega), List.getElem?_set_ne (by omega)]
  refine ⟨rfl, rfl, hP _ j w ?_ ?_ ?_ ?_ (fun q z hq e => ?_) (by simp; omega) ?_⟩
  · show (List.set _ _ _)[N + 1]? = _
    rw [List.getElem?_set_ne (by omega), List.getElem?_set_ne (by omega), List.getElem?_set_self (by omega)]
  · show (List.set _ _ _)[N + 2]? = _
    rw [List.getElem?_set_ne (by omega), List.getElem?_set_self (by simp; omega), hc5]
  · show (List.set _ _ _)[N + 3]? = _
    rw [List.getElem?_set_self (by simp; omega)]
  · show (List.set _ _ _)[j]? = _
    rw [y3 _ _ _ _ (by omega) (by omega) (by omega)]; exact r3
  · show (List.set _ _ _)[q]? = _
    rw [y3 _ _ _ _ (by omega) (by omega) (by omega)]; exact r4.get (getE_old e)
  · exact ⟨by have := r4.I.length_le; simp at this; show st.I.length ≤ st2.I.length; omega, fun q z _ e => by
      obtain ⟨tl, ht⟩ := r4.I
      show st2.I[q]? = _
      rw [← ht, List.append_assoc, List.getElem?_append_left (uB e)]; exact e⟩
theorem VV.fin {vs vv} (h : VV vs vv) : vv.fin 0 = .sl none vs.length (vs.map .str) := by
 rcases h with ⟨rfl, rfl⟩ | ⟨o, rfl⟩
 ·rfl
 ·cases o <;> simp [finS]
theorem VV.one {vs vv} (h : VV vs vv) : vv.one = true := by rcases h with ⟨rfl, rfl⟩ | ⟨o, rfl⟩ <;> rfl
def AccF (m : Nat) (I : List (Nat × Nat)) (fs : List Fn) (v : AV) : Prop :=
 (fs = [] ∧ v = .nils) ∨ ∃ j, v = .sl (some j) fs.length (encFs fs) ∧ m ≤ j ∧ I[j]? = some (fs.length, 5)
theorem AccF.one {m I fs v} (h : AccF m I fs v) : v.one = true := by rcases h with ⟨-, rfl⟩ | ⟨j, rfl, -, -⟩ <;> rfl
theorem AccF.cells {m I fs v} (h : AccF m I fs v) : v.cells = [v] := by rcases h with ⟨-, rfl⟩ | ⟨j, rfl, -, -⟩ <;> rfl
theorem AccF.app {E : Env} {H : List ABlk} {m : Nat} {I : List (Nat × Nat)} {fs : List Fn} {v : AV} (h : AccF m I fs v) (hm : m ≤ I.length) (hr : E.rom ≤ m) (hl : fs.length ≤ 100000000000) (f : Fn) (vv : AV) (hv : VV f.vars vv) (q : Nat) :
  ∃ v' I', appA E ⟨H, I ++ [(1, 5)]⟩ 5 64 v (.sl (some q) 1 [.int .i64 f.around, .str f.name, .int .i64 f.params, vv, .int .i64 f.mark]) = some (v', ⟨H, I'⟩) ∧ AccF m I' (fs ++ [f]) v' ∧ IOld m I I' := by
 have hfin := hv.fin
 have hone := hv.one
 rcases h with ⟨rfl, rfl⟩ | ⟨j, rfl, hj, hi⟩
 ·refine ⟨.sl (some (I.length + 1)) 1 (encFs [f]), I ++ [(1, 5), (1, 5)], ?_, .inr ⟨I.length + 1, by simp, by omega, by simp⟩, ⟨by simp, fun j x _ e => by rw [List.getElem?_append_left (uB e)]; exact e⟩⟩
  simp [appA, srcA, hone, hfin, encFs_cons, encFs_nil, Fn.enc]
 ·have hj1 : E.rom ≤ j := by omega
  have hi2 : (I ++ [(1, 5)])[j]? = some (fs.length, 5) := get_push j _ hi
  have hb1 : (fs.length + 1) * 64 ≤ 70368744177664 := by omega
  have hb2 : fs.length + 1 ≤ 70368744177664 := by omega
  refine ⟨.sl (some j) (fs.length + 1) (encFs fs ++ f.enc), (I ++ [(1, 5)]).set j (fs.length + 1, 5), ?_, .inr ⟨j, by simp [encFs_append, encFs_cons, encFs_nil], hj, ?_⟩, ⟨by simp, fun q x hq e => ?_⟩⟩
  ·simp [appA, srcA, hone, hfin, hj1, hi2, hb1, hb2, Fn.enc]
  ·rw [List.getElem?_set_self (uB hi2)]; simp
  ·rw [List.getElem?_set_ne (by omega)]; exact get_push q x e
def Wk0 (t : T) : Wk := { fs := [{ around := -1, name := ⟨#[]⟩, params := 0, vars := decT t [], mark := 0 }], mark := 4, e := 0, line := 0 }
def resW (t : T) : T × Wk := if 200 < (decT t []).length then (t, (Wk0 t).fail 52 t.line) else wT 0 false t (Wk0 t)
theorem resolve_eq (t : T) (h : right t = true) : resolve t = if (resW t).2.e ≠ 0 then ([], .mk 0 ⟨#[]⟩ 0 [] 0, (resW t).2.line, (resW t).2.e) else ((resW t).2.fs, (resW t).1, 0, 0) := by
 simp only [resolve, h, Bool.not_true, Bool.false_eq_true, if_false, resW]
 split
 ·simp [Wk0, Wk.fail]
 ·rfl
def Post42 (t : T) (st : St) (r : Rt AV) (st' : St) : Prop :=
    (∀ (j : Nat) (x : ABlk), st.H[j]? = some x → st'.H[j]? = some x) ∧ IFr none st.I st'.I ∧
    (((resW t).2.e = 0 ∧ ∃ fv v, r = .ok (.tup [fv, v, .nili]) ∧ NodeV st.I.length st'.I.length v (resW t).1 ∧ AccF st.I.length st'.I (resW t).2.fs fv) ∨
     ((resW t).2.e ≠ 0 ∧ ∃ (j : Nat) (w : Option Nat), r = .ok (.tup [.nils, .agg [.int .i64 0, .str ⟨#[]⟩, .int .i64 0, .nils, .int .i64 0], .iface 151 (.ptr j 0)]) ∧ st'.H[j]? = some (.cells 153 [.sl w 1 [faultV (resW t).2.e (resW t).2.line]])))
theorem f42 (t : T) (hfk : t.fk) (hwt : t.wt ≤ 4000000000) (E : Env) (st : St) (hE : E.Wf st) (k : Nat) (hk : 5 * t.wt + 2000 ≤ k) : CallQ k E 42 [.agg t.enc] st (Post42 t st) := by
 obtain ⟨k, rfl⟩ := uK (k := k) (by omega)
 have hmw := mayWrite_new hE
 have hmw0 : ∀ j x y, mayWrite E (st.H.length + j) x y = true := fun j x y => hmw _ _ _ (by omega)
 have hE1 : E.Wf ⟨st.H ++ [.cells 24 t.enc, .cells 27 [.nils], .cells 24 [.int .i64 0, .str ⟨#[]⟩, .int .i64 0, .nils, .int .i64 0], .cells 61 [.nili], .cells 100 [.nils, .int .i64 4]], st.I⟩ := hE.of (by simp) (by simp)
 have c62 := f62 (-1) ⟨#[]⟩ 0 [] .nils (.inl ⟨rfl, rfl⟩) ⟨#[]⟩ t E _ hE1 (by simp [T.wtL]; omega) k (by simp; omega)
 obtain ⟨op, s0, nn, l, line⟩ := t
 simp only [T.enc] at c62 hE1
 refine ov42_in (.ptr (st.H.length + 1) 0) (.ptr (st.H.length + 2) 0) (.ptr (st.H.length + 3) 0) ?_
 have hs : ([AV.agg (T.mk op s0 nn l line).enc] ++ List.replicate (40 - [AV.agg (T.mk op s0 nn l line).enc].length) AV.undef).length = 40 := by simp
 have e0 : lk ([AV.agg (T.mk op s0 nn l line).enc] ++ List.replicate (40 - [AV.agg (T.mk op s0 nn l line).enc].length) AV.undef) 0 = .agg (T.mk op s0 nn l line).enc := rfl
 generalize [AV.agg (T.mk op s0 nn l line).enc] ++ List.replicate (40 - [AV.agg (T.mk op s0 nn l line).enc].length) AV.undef = s at hs e0 ⊢
 rw [a42x]
 simp [hs, e0]
 rw [a42y]
 simp [hs, fillA, wrC]
 rw [a42z]
 have hs' : ((((((((s.set 1 (AV.ptr st.H.length 0)).set 2 (AV.ptr (st.H.length + 1) 0)).set 3 (AV.ptr (st.H.length + 2) 0)).set 4 (AV.ptr (st.H.length + 3) 0)).set 8 (AV.agg [AV.nils, AV.int IntKind.i64 4])).set 9 (AV.ptr (st.H.length + 4) 0)).set 5 (AV.ptr (st.H.length + 4) 0)).set 10 (AV.fn 59 [] [AV.ptr (st.H.length + 1) 0, AV.ptr (st.H.length + 2) 0, AV.ptr (st.H.length + 3) 0])).length = 40 := by simp [hs]
 have e1 : lk ((((((((s.set 1 (AV.ptr st.H.length 0)).set 2 (AV.ptr (st.H.length + 1) 0)).set 3 (AV.ptr (st.H.length + 2) 0)).set 4 (AV.ptr (st.H.length + 3) 0)).set 8 (AV.agg [AV.nils, AV.int IntKind.i64 4])).set 9 (AV.ptr (st.H.length + 4) 0)).set 5 (AV.ptr (st.H.length + 4) 0)).set 10 (AV.fn 59 [] [AV.ptr (st.H.length + 1) 0, AV.ptr (st.H.length + 2) 0, AV.ptr (st.H.length + 3) 0])) 1 = .ptr st.H.length 0 := by simp [hs]
 have e2 : lk ((((((((s.set 1 (AV.ptr st.H.length 0)).set 2 (AV.ptr (st.H.length + 1) 0)).set 3 (AV.ptr (st.H.length + 2) 0)).set 4 (AV.ptr (st.H.length + 3) 0)).set 8 (AV.agg [AV.nils, AV.int IntKind.i64 4])).set 9 (AV.ptr (st.H.length + 4) 0)).set 5 (AV.ptr (st.H.length + 4) 0)).set 10 (AV.fn 59 [] [AV.ptr (st.H.length + 1) 0, AV.ptr (st.H.length + 2) 0, AV.ptr (st.H.length + 3) 0])) 2 = .ptr (st.H.length + 1) 0 := by simp [hs]
 have e3 : lk ((((((((s.set 1 (AV.ptr st.H.length 0)).set 2 (AV.ptr (st.H.length + 1) 0)).set 3 (AV.ptr (st.H.length + 2) 0)).set 4 (AV.ptr (st.H.length + 3) 0)).set 8 (AV.agg [AV.nils, AV.int IntKind.i64 4])).set 9 (AV.ptr (st.H.length + 4) 0)).set 5 (AV.ptr (st.H.length + 4) 0)).set 10 (AV.fn 59 [] [AV.ptr (st.H.length + 1) 0, AV.ptr (st.H.length + 2) 0, AV.ptr (st.H.length + 3) 0])) 3 = .ptr (st.H.length + 2) 0 := by simp [hs]
 have e4 : lk ((((((((s.set 1 (AV.ptr st.H.length 0)).set 2 (AV.ptr (st.H.length + 1) 0)).set 3 (AV.ptr (st.H.length + 2) 0)).set 4 (AV.ptr (st.H.length + 3) 0)).set 8 (AV.agg [AV.nils, AV.int IntKind.i64 4])).set 9 (AV.ptr (st.H.length + 4) 0)).set 5 (AV.ptr (st.H.length + 4) 0)).set 10 (AV.fn 59 [] [AV.ptr (st.H.length + 1) 0, AV.ptr (st.H.length + 2) 0, AV.ptr (st.H.length + 3) 0])) 4 = .ptr (st.H.length + 3) 0 := by simp [hs]
 have e5 : lk ((((((((s.set 1 (AV.ptr st.H.length 0)).set 2 (AV.ptr (st.H.length + 1) 0)).set 3 (AV.ptr (st.H.length + 2) 0)).set 4 (AV.ptr (st.H.length + 3) 0)).set 8 (AV.agg [AV.nils, AV.int IntKind.i64 4])).set 9 (AV.ptr (st.H.length + 4) 0)).set 5 (AV.ptr (st.H.length + 4) 0)).set 10 (AV.fn 59 [] [AV.ptr (st.H.length + 1) 0, AV.ptr (st.H.length + 2) 0, AV.ptr (st.H.length + 3) 0])) 5 = .ptr (st.H.length + 4) 0 := by simp [hs]
 generalize (((((((s.set 1 (AV.ptr st.H.length 0)).set 2 (AV.ptr (st.H.length + 1) 0)).set 3 (AV.ptr (st.H.length + 2) 0)).set 4 (AV.ptr (st.H.length + 3) 0)).set 8 (AV.agg [AV.nils, AV.int IntKind.i64 4])).set 9 (AV.ptr (st.H.length + 4) 0)).set 5 (AV.ptr (st.H.length + 4) 0)).set 10 (AV.fn 59 [] [AV.ptr (st.H.length + 1) 0, AV.ptr (st.H.length + 2) 0, AV.ptr (st.H.length + 3) 0]) = s1 at hs' e1 e2 e3 e4 e5 ⊢
 clear hs e0 s
 have hs := hs'
 simp [Nat.testBit, hs, e1, e5, fillA, wrC]
 refine obP_intro c62 fun p hp => ?_
 obtain ⟨r, st2⟩ := p
 obtain ⟨fb, r1, r2, r3, r4, r5, r6⟩ := hp
 simp only [List.length_append, List.length_cons, List.length_nil, Nat.zero_add, Nat.reduceAdd] at r1 r2 r3 r4 r5 r6
 subst r1
 have hF := r6 (st.H.length + 4) (by omega)
 have hE2 : E.Wf st2 := hE.of (by omega) r5.len
 have b0 := r4 st.H.length (by omega)
 have b1 := r4 (st.H.length + 1) (by omega)
 have b2 := r4 (st.H.length + 2) (by omega)
 have b3 := r4 (st.H.length + 3) (by omega)
 have b4 := r4 (st.H.length + 4) (by omega)
 simp at b0 b1 b2 b3 b4 hF
 have hold2 : ∀ q z, q < st.H.length → st.H[q]? = some z → st2.H[q]? = some z := fun q z hq e => by rw [r4 q (by omega)]; exact getE_old e
 generalize hF0 : ({ around := -1, name := ⟨#[]⟩, params := 0, vars := decT (.mk op s0 nn l line) [], mark := 0 } : Fn) = F at hF
 have hW0 : Wk0 (.mk op s0 nn l line) = { fs := [F], mark := 4, e := 0, line := 0 } := by rw [← hF0]; rfl
 have hvars : decT (.mk op s0 nn l line) [] = F.vars := by rw [← hF0]
 have hRW : resW (.mk op s0 nn l line) = if 200 < F.vars.length then (.mk op s0 nn l line, ({ fs := [F], mark := 4, e := 0, line := 0 } : Wk).fail 52 line) else wT 0 false (.mk op s0 nn l line) { fs := [F], mark := 4, e := 0, line := 0 } := by rw [resW, hW0, hvars]; rfl
 simp [Nat.testBit, hs, e1, e5, b0]
 have hN := hE.base
 have hN2 := hE.rob
 by_cases hlim : 200 < F.vars.length
 ·have c61 := f61p (E := E) b4 (n := 0) rfl hF (.inr hlim) line k (by omega)
  rw [if_pos hlim] at hRW
  refine obP_intro c61 fun p hp => ?_
  obtain ⟨r, st3⟩ := p
  obtain ⟨q1, q2⟩ := hp
  simp only at q1 q2
  subst q1 q2
  simp [isEff, aDead, Nat.testBit]
  refine ⟨rfl, dfr_pan hE2 st.H.length hN hN2 b1 b2 rfl b3 52 line k (by omega) fun st4 j w x1 x2 x3 x4 x5 x6 x7 => ⟨.nils, .agg [.int .i64 0, .str ⟨#[]⟩, .int .i64 0, .nils, .int .i64 0], .iface 151 (.ptr j 0), by simp [loadA, x1, rdC], by simp [loadA, x2, rdC], by simp [loadA, x3, rdC], ?_, ?_, .inr ?_⟩⟩
  ·exact fun q z e => x5 q z (uB e) (hold2 q z (uB e) e)
  ·exact r5.trans x7
  ·rw [hRW]; exact ⟨by simp [Wk.fail], j, w, rfl, by simpa [Wk.fail] using x4⟩
 have c61 := f61b hE2 b4 (by omega) (by omega) hF (by omega) line k (by omega)
 rw [if_neg hlim] at hRW
 refine obP_intro c61 fun p hp => ?_
 obtain ⟨r, st3⟩ := p
 obtain ⟨q1, i, q2, q3, q4, q5, q6⟩ := hp
 simp only at q1 q2 q3 q4 q5 q6
 subst q1
 have hE3 : E.Wf st3 := hE2.of (by omega) q6.len
 have hP := PT_all (T.mk op s0 nn l line).wt (.mk op s0 nn l line) (Nat.le_refl _) hfk 0 false { fs := [F], mark := 4, e := 0, line := 0 } E st3 (st.H.length + 4) i q3 rfl (by omega) hE3
  ⟨by simp, fun i f h => by
   rcases i with _ | i
   ·simp at h; subst h; rw [← hF0] at hlim ⊢; exact ⟨by simp, by simp, by simp at hlim ⊢; omega⟩
   ·simp at h⟩ (by simp) (by simp only []; omega) hwt k (by omega)
 have c0 := q4.get _ _ (by omega) b0
 have c1 := q4.get _ _ (by omega) b1
 have c2 := q4.get _ _ (by omega) b2
 have c3 := q4.get _ _ (by omega) b3
 simp only [T.enc, Int.natCast_zero] at hP
 simp [Nat.testBit, hs, e1, e5, b0, c0]
 rw [← hRW] at hP
 refine obP_intro hP fun p hp => ?_
 obtain ⟨r, st4⟩ := p
 obtain ⟨h1, h2, h3⟩ := hp
 simp only at h1 h2 h3
 have c0 := h1.get _ _ (by omega) c0
 have c1 := h1.get _ _ (by omega) c1
 have c2 := h1.get _ _ (by omega) c2
 have c3 := h1.get _ _ (by omega) c3
 have hE4 : E.Wf st4 := hE3.of h1.len h2.len
 have hI4 : IFr none st.I st4.I := ⟨Nat.le_trans r5.len (Nat.le_trans q6.len h2.len), fun q x hq e => by
  have := q6.get q x hq (r5.get q x hq e)
  refine h2.get q x (fun e' => ?_) this
  have h := Option.some.inj e'; have := (uB e); have := r5.len; omega⟩
 have hold4 : ∀ q z, q < st.H.length → st.H[q]? = some z → st4.H[q]? = some z := fun q z hq e => h1.get _ _ (by omega) (q4.get _ _ (by omega) (hold2 q z hq e))
 have hl4 := h1.len
 rcases h3 with ⟨hz, v, rfl, h3, h4⟩ | ⟨hz, rfl⟩
 rotate_left
 ·simp
  refine ⟨rfl, dfr_pan hE4 st.H.length hN hN2 c1 c2 rfl c3 _ _ k (by omega) fun st5 j w x1 x2 x3 x4 x5 x6 x7 => ⟨.nils, .agg [.int .i64 0, .str ⟨#[]⟩, .int .i64 0, .nils, .int .i64 0], .iface 151 (.ptr j 0), by simp [loadA, x1, rdC], by simp [loadA, x2, rdC], by simp [loadA, x3, rdC], ?_, ?_, .inr ?_⟩⟩
  ·exact fun q z e => x5 q z (uB e) (hold4 q z (uB e) e)
  ·exact hI4.trans x7
  ·exact ⟨hz, j, w, rfl, x4⟩
 obtain ⟨lv, rfl, hlv, hfin, -⟩ := h3.cells
 have hR5 : RSt E ⟨st4.H.set (st.H.length + 2) (.cells 24 [.int .i64 (resW (.mk op s0 nn l line)).1.op, .str (resW (.mk op s0 nn l line)).1.s, .int .i64 (resW (.mk op s0 nn l line)).1.n, lv, .int .i64 (resW (.mk op s0 nn l line)).1.line]), st4.I⟩ (st.H.length + 4) i (resW (.mk op s0 nn l line)).2.fs (resW (.mk op s0 nn l line)).2.mark := h4.set24 c2
 obtain ⟨-, -, bs, hbl, hb, hi, hfr⟩ := hR5
 simp only at hb hi hfr
 have hlt2 := uB c2
 have d1 : (st4.H.set (st.H.length + 2) (.cells 24 [.int .i64 (resW (.mk op s0 nn l line)).1.op, .str (resW (.mk op s0 nn l line)).1.s, .int .i64 (resW (.mk op s0 nn l line)).1.n, lv, .int .i64 (resW (.mk op s0 nn l line)).1.line]))[st.H.length + 1]? = some (.cells 27 [.nils]) := by rw [List.getElem?_set_ne (by omega)]; exact c1
 have d2 : (st4.H.set (st.H.length + 2) (.cells 24 [.int .i64 (resW (.mk op s0 nn l line)).1.op, .str (resW (.mk op s0 nn l line)).1.s, .int .i64 (resW (.mk op s0 nn l line)).1.n, lv, .int .i64 (resW (.mk op s0 nn l line)).1.line]))[st.H.length + 2]? = some (.cells 24 [.int .i64 (resW (.mk op s0 nn l line)).1.op, .str (resW (.mk op s0 nn l line)).1.s, .int .i64 (resW (.mk op s0 nn l line)).1.n, lv, .int .i64 (resW (.mk op s0 nn l line)).1.line]) := List.getElem?_set_self hlt2
 have d3 : (st4.H.set (st.H.length + 2) (.cells 24 [.int .i64 (resW (.mk op s0 nn l line)).1.op, .str (resW (.mk op s0 nn l line)).1.s, .int .i64 (resW (.mk op s0 nn l line)).1.n, lv, .int .i64 (resW (.mk op s0 nn l line)).1.line]))[st.H.length + 3]? = some (.cells 61 [.nili]) := by rw [List.getElem?_set_ne (by omega)]; exact c3
 have hold5 : ∀ q z, q < st.H.length → st.H[q]? = some z → (st4.H.set (st.H.length + 2) (.cells 24 [.int .i64 (resW (.mk op s0 nn l line)).1.op, .str (resW (.mk op s0 nn l line)).1.s, .int .i64 (resW (.mk op s0 nn l line)).1.n, lv, .int .i64 (resW (.mk op s0 nn l line)).1.line]))[q]? = some z := fun q z hq e => by rw [List.getElem?_set_ne (by omega)]; exact hold4 q z hq e
 simp [hs, e3, e5, c2, storeA, hmw0, wrC, hlv, hb]
 generalize hH5 : st4.H.set (st.H.length + 2) (.cells 24 [.int .i64 (resW (.mk op s0 nn l line)).1.op, .str (resW (.mk op s0 nn l line)).1.s, .int .i64 (resW (.mk op s0 nn l line)).1.n, lv, .int .i64 (resW (.mk op s0 nn l line)).1.line]) = H5 at d1 d2 d3 hb hfr hold5 ⊢
 have hfl : (resW (.mk op s0 nn l line)).2.fs.length ≤ 500 := by
  rw [hRW]
  refine (wT_le 0 false (.mk op s0 nn l line) _ ⟨by simp, fun i f h => ?_⟩ (by simp)).fs.len
  rcases i with _ | i
  ·simp at h; subst h; rw [← hF0] at hlim ⊢; exact ⟨by simp, by simp, by simp at hlim ⊢; omega⟩
  ·simp at h
 have hfle : st.I.length ≤ st4.I.length := hI4.len
 have hPost : ∀ (fv : AV) (st' : St), (∀ (q : Nat) (z : ABlk), st.H[q]? = some z → st'.H[q]? = some z) → IOld st.I.length st4.I st'.I → AccF st.I.length st'.I (resW (.mk op s0 nn l line)).2.fs fv → Post42 (.mk op s0 nn l line) st (.ok (.tup [fv, .agg [.int .i64 (resW (.mk op s0 nn l line)).1.op, .str (resW (.mk op s0 nn l line)).1.s, .int .i64 (resW (.mk op s0 nn l line)).1.n, lv, .int .i64 (resW (.mk op s0 nn l line)).1.line], .nili])) st' := by
  intro fv st' x1 x2 x3
  refine ⟨x1, ⟨Nat.le_trans hfle x2.len, fun q z hq e => x2.get q z (uB e) (hI4.get q z hq e)⟩, .inl ⟨hz, fv, _, rfl, ?_, x3⟩⟩
  obtain ⟨lv', e, h⟩ := h3
  refine ⟨lv', by simpa using e, ?_⟩
  rcases h with h | ⟨o, e', h⟩
  ·exact .inl h
  ·refine .inr ⟨o, e', fun j hj => ?_⟩
   have := h j hj; have := q6.len; have := r5.len; have := x2.len; omega
 generalize (resW (.mk op s0 nn l line)).2.fs = fs at hbl hfr hfl hPost
 refine WP_loop (fun n s m st' => ∃ (j : Nat) (fv : AV), j ≤ bs.length ∧ n = bs.length - j ∧ s.length = 40 ∧ m = [] ∧ lk s 2 = .ptr (st.H.length + 1) 0 ∧ lk s 3 = .ptr (st.H.length + 2) 0 ∧ lk s 4 = .ptr (st.H.length + 3) 0 ∧ lk s 24 = .sl (some i) bs.length (bs.map fun b => .ptr b 0) ∧ lk s 25 = .int .i64 bs.length ∧ lk s 26 = .int .i64 j ∧
  st'.H[st.H.length + 1]? = some (.cells 27 [fv]) ∧ (∀ q, q ≠ st.H.length + 1 → st'.H[q]? = H5[q]?) ∧ AccF st.I.length st'.I (fs.take j) fv ∧ IOld st.I.length st4.I st'.I) bs.length (by omega)
  ⟨0, .nils, by omega, by omega, by simp [hs], rfl, by simp [hs, e2], by simp [hs, e3], by simp [hs, e4], by simp [hs], by simp [hs], by simp [hs], d1, fun _ _ => rfl, .inl ⟨rfl, rfl⟩, .refl _ _⟩ ?_
 clear hs hs' e1 e2 e3 e4 e5 s1
 rintro _ s m st' ⟨j, fv, hj, rfl, hs, rfl, e2, e3, e4, e24, e25, e26, x1, x2, hac, hio⟩
 by_cases hc : j < bs.length
 ·obtain ⟨f, hg⟩ : ∃ f, fs[j]? = some f := ⟨_, List.getElem?_eq_getElem (by omega)⟩
  obtain ⟨fb', hgb, -, mb, vv, -, hfb, hvv, -⟩ := hfr j f hg
  have hgb' : bs[j]'hc = fb' := by rw [List.getElem?_eq_getElem hc] at hgb; simpa using hgb
  have hwj := wrap64 (n := (j : Int) + 1) (by omega)
  have hne : fb' ≠ st.H.length + 1 := by rintro rfl; rw [d1] at hfb; cases hfb
  have hfb2 := hfb
  rw [← x2 _ hne] at hfb2
  have hil := hio.len
  obtain ⟨v', I', happ, hac2, hio2⟩ := hac.app (E := E) (H := st'.H) (by omega) hE.rom (by simp; omega) f (.sl none f.vars.length (f.vars.map .str)) (.inr ⟨none, rfl⟩) st'.I.length
  have hvf := hvv.fin
  have hvo := hac2.one
  have hvc := hac2.cells
  have hvv1 := hvv.one
  simp [hs, e2, e24, e25, e26, hc, hgb']
  have hrd : rdC (some 5) [AV.int IntKind.i64 f.around, AV.str f.name, AV.int IntKind.i64 f.params, vv, AV.int IntKind.i64 f.mark, AV.map mb] 0 = some (.agg [.int .i64 f.around, .str f.name, .int .i64 f.params, vv, .int .i64 f.mark]) := by simp [rdC]
  simp [Nat.testBit, hs, e2, x1, hfb2, fillA, wrC, hvv1, hrd, hvf, happ, storeA, hmw0, hvc, hvo]
  simp [hs, e26, hwj]
  have hl1 := uB x1
  refine ⟨_, by omega, j + 1, v', by omega, rfl, by simp [hs], rfl, by simp [hs, e2], by simp [hs, e3], by simp [hs, e4], by simp [hs, e24], by simp [hs, e25], by simp [hs], List.getElem?_set_self hl1, fun q hq => ?_, by rw [List.take_add_one, hg]; exact hac2, hio.trans hio2⟩
  rw [← x2 q hq]
  exact List.getElem?_set_ne (Ne.symm hq)
 have hjb : fs.take j = fs := List.take_of_length_le (by omega)
 rw [hjb] at hac
 have hl1 := uB x1
 have y2 : st'.H[st.H.length + 2]? = _ := (x2 _ (by omega)).trans d2
 have y3 : st'.H[st.H.length + 3]? = _ := (x2 _ (by omega)).trans d3
 have hl2 := uB y2
 have hl3 := uB y3
 have hfo := hac.one
 have hfc := hac.cells
 have hrd2 : rdC (some 5) [AV.int IntKind.i64 (resW (.mk op s0 nn l line)).1.op, .str (resW (.mk op s0 nn l line)).1.s, .int .i64 (resW (.mk op s0 nn l line)).1.n, lv, .int .i64 (resW (.mk op s0 nn l line)).1.line] 0 = some (.agg [.int .i64 (resW (.mk op s0 nn l line)).1.op, .str (resW (.mk op s0 nn l line)).1.s, .int .i64 (resW (.mk op s0 nn l line)).1.n, lv, .int .i64 (resW (.mk op s0 nn l line)).1.line]) := by simp [rdC]
 have w1 : ∀ x, (st'.H.set (st.H.length + 1) x)[st.H.length + 2]? = _ := fun x => (List.getElem?_set_ne (by omega)).trans y2
 have w2 : ∀ x y, ((st'.H.set (st.H.length + 1) x).set (st.H.length + 2) y)[st.H.length + 3]? = _ := fun x y => (List.getElem?_set_ne (by omega)).trans ((List.getElem?_set_ne (by omega)).trans y3)
 simp [Nat.testBit, hs, e2, e3, e4, e25, e26, hc, x1, y2, y3, hrd2, storeA, hmw0, hfo, hfc, wrC, hlv, w1, w2]
 have hE6 : E.Wf ⟨((st'.H.set (st.H.length + 1) (.cells 27 [fv])).set (st.H.length + 2) (.cells 24 [AV.int IntKind.i64 (resW (.mk op s0 nn l line)).1.op, .str (resW (.mk op s0 nn l line)).1.s, .int .i64 (resW (.mk op s0 nn l line)).1.n, lv, .int .i64 (resW (.mk op s0 nn l line)).1.line])).set (st.H.length + 3) (.cells 61 [.nili]), st'.I⟩ :=
  hE.of (by simp; omega) (Nat.le_trans hfle hio.len)
 refine ⟨rfl, obP_intro (dfr_ok hE6 _ _ _ k) fun st6 h6 => ?_⟩
 subst h6
 have v1 : ∀ y, (((st'.H.set (st.H.length + 1) (.cells 27 [fv])).set (st.H.length + 2) (.cells 24 [AV.int IntKind.i64 (resW (.mk op s0 nn l line)).1.op, .str (resW (.mk op s0 nn l line)).1.s, .int .i64 (resW (.mk op s0 nn l line)).1.n, lv, .int .i64 (resW (.mk op s0 nn l line)).1.line])).set (st.H.length + 3) (.cells 61 [.nili]) ++ y)[st.H.length + 1]? = some (.cells 27 [fv]) := fun y => getE_old (by rw [List.getElem?_set_ne (by omega), List.getElem?_set_ne (by omega), List.getElem?_set_self hl1])
 have v2 : ∀ y, (((st'.H.set (st.H.length + 1) (.cells 27 [fv])).set (st.H.length + 2) (.cells 24 [AV.int IntKind.i64 (resW (.mk op s0 nn l line)).1.op, .str (resW (.mk op s0 nn l line)).1.s, .int .i64 (resW (.mk op s0 nn l line)).1.n, lv, .int .i64 (resW (.mk op s0 nn l line)).1.line])).set (st.H.length + 3) (.cells 61 [.nili]) ++ y)[st.H.length + 2]? = some (.cells 24 [AV.int IntKind.i64 (resW (.mk op s0 nn l line)).1.op, .str (resW (.mk op s0 nn l line)).1.s, .int .i64 (resW (.mk op s0 nn l line)).1.n, lv, .int .i64 (resW (.mk op s0 nn l line)).1.line]) := fun y => getE_old (by rw [List.getElem?_set_ne (by omega), List.getElem?_set_self (by simp; omega)])
 have v3 : ∀ y, (((st'.H.set (st.H.length + 1) (.cells 27 [fv])).set (st.H.length + 2) (.cells 24 [AV.int IntKind.i64 (resW (.mk op s0 nn l line)).1.op, .str (resW (.mk op s0 nn l line)).1.s, .int .i64 (resW (.mk op s0 nn l line)).1.n, lv, .int .i64 (resW (.mk op s0 nn l line)).1.line])).set (st.H.length + 3) (.cells 61 [.nili]) ++ y)[st.H.length + 3]? = some (.cells 61 [.nili]) := fun y => getE_old (List.getElem?_set_self (by simp; omega))
 refine ⟨fv, _, .nili, by simp only [loadA, v1]; simp [rdC], by simp only [loadA, v2]; exact hrd2, by simp only [loadA, v3]; simp [rdC], hPost fv _ (fun q z e => ?_) hio hac⟩
 have hq := uB e
 refine getE_old ?_
 rw [List.getElem?_set_ne (by omega), List.getElem?_set_ne (by omega), List.getElem?_set_ne (by omega), x2 q (by omega)]
 exact hold5 q z hq e
theorem f43a {E : Env} {st : St} {b ty : Nat} {x y : AV} (hb : st.H[b]? = some (.cells ty [x, y])) (k : Nat) (hk : 1 ≤ k) :
  doCall (aCall prog k) E .full (.fn 43) [.nili, .iface 67 (.ptr b 0)] st = some (.ok (.bool false), st) := by
 obtain ⟨k, rfl⟩ := uK (k := k) (by omega)
 have h : aCall prog (k + 1) { E with base := st.H.length } (.fn 43) [.nili, .iface 67 (.ptr b 0)] st = some (.ok (.bool false), st) := by
  show ov43 (aCall prog k) { E with base := st.H.length } [.nili, .iface 67 (.ptr b 0)] st = _
  simp [ov43, hb]
 simp only [doCall, List.map_cons, List.map_nil, arg_nili, arg_iface, AV.fin, h, obind_some]
 simp
theorem f43b {E : Env} {st : St} {b j ty y : Nat} {w : Option Nat} {x1 x2 : AV} {e l : Int} (hb : st.H[b]? = some (.cells ty [x1, x2])) (hj : st.H[j]? = some (.cells y [.sl w 1 [faultV e l]])) (hr : E.rob ≤ b) (k : Nat) (hk : 1 ≤ k) :
  doCall (aCall prog k) E .full (.fn 43) [.iface 151 (.ptr j 0), .iface 67 (.ptr b 0)] st = some (.ok (.bool true), ⟨st.H.set b (.cells ty [.int .i64 e, .int .i64 l]), st.I⟩) := by
 obtain ⟨k, rfl⟩ := uK (k := k) (by omega)
 have h : aCall prog (k + 1) { E with base := st.H.length } (.fn 43) [.iface 151 (.ptr j 0), .iface 67 (.ptr b 0)] st = some (.ok (.bool true), ⟨st.H.set b (.cells ty [.int .i64 e, .int .i64 l]), st.I⟩) := by
  show ov43 (aCall prog k) { E with base := st.H.length } [.iface 151 (.ptr j 0), .iface 67 (.ptr b 0)] st = _
  simp [ov43, hb, hj, faultV, hr]
 simp only [doCall, List.map_cons, List.map_nil, arg_nili, arg_iface, AV.fin, h, obind_some]
 simp
 exact List.take_of_length_le (by simp)
theorem f20 (t : T) (ht : t.ok) (hw : t.wt ≤ 4000000000) (k : Nat) (hk : 5 * t.wt + 3000 ≤ k) : PureC k 20 [.agg t.enc] (resV (resolve t)) := by
  intro E st hE
  obtain ⟨k, rfl⟩ := uK (k := k) (by omega)
  have hmw := mayWrite_new hE
  have hE1 : E.Wf ⟨st.H ++ [.cells 24 t.enc, .cells 24 [.int .i64 0, .str ⟨#[]⟩, .int .i64 0, .nils, .int .i64 0]], st.I⟩ := hE.of (by simp) (by simp)
  have c41 := (f41 t ht k (by omega)).full rfl hE1
  have hmw1 : ∀ x y, mayWrite E (st.H.length + 1) x y = true := fun x y => hmw _ _ _ (by omega)
  cases hr : right t
  · rw [hr] at c41
    obtain ⟨op, s0, nn, l, line⟩ := t
    refine call_in1 rfl rfl (by decide) fun s hs e0 => ?_
    simp only [T.enc] at c41
    have hres : resolve (.mk op s0 nn l line) = ([], .mk 0 ⟨#[]⟩ 0 [] 0, 0, 30) := by simp [resolve, hr]
    rw [hres]
    simp [hs, e0, c41, fillA, wrC, storeA, hmw1]
    exact ⟨⟨List.prefix_append _ _, List.prefix_rfl⟩, rfl⟩
  rw [hr] at c41
  have c42 := f42 t (right_fk hr) hw E _ hE1 k (by omega)
  rw [resolve_eq t hr]
  have hrl : resW t = resW t := rfl
  generalize hRW : resW t = RW at hrl
  obtain ⟨op, s0, nn, l, line⟩ := t
  refine call_in1 rfl rfl (by decide) fun s hs e0 => ?_
  simp only [T.enc] at c41 c42
  simp [hs, e0, c41]
  refine obP_intro c42 fun p hp => ?_
  obtain ⟨r, st2⟩ := p
  obtain ⟨h1, h2, h3⟩ := hp
  rw [hRW] at h3
  simp only at h1 h2 h3
  have hl2 : st.H.length + 2 ≤ st2.H.length := by
    have := (List.getElem?_eq_some_iff.1 (h1 (st.H.length + 1) (.cells 24 [.int .i64 0, .str ⟨#[]⟩, .int .i64 0, .nils, .int .i64 0]) (by simp))).1; omega
  have hE2 : E.Wf st2 := hE.of (by omega) h2.len
  have hmw2 := mayWrite_new hE2
  have q1 := h1 (st.H.length + 1) (.cells 24 [.int .i64 0, .str ⟨#[]⟩, .int .i64 0, .nils, .int .i64 0]) (by simp)
  have hgr : ∀ (H : List ABlk), (∀ (q : Nat) (z : ABlk), q < st.H.length → st2.H[q]? = some z → H[q]? = some z) → st.H.length ≤ H.length → Grow st ⟨H, st2.I⟩ := fun H h h' => ⟨pre_of h' fun j z e => h j z (uB e) (h1 j z (getE_old e)), pre_of h2.len fun j z e => h2.get j z (by simp) e⟩
  rcases h3 with ⟨hz, fv, v, rfl, h3, h4⟩ | ⟨hz, j, w, rfl, h3⟩
  · obtain ⟨lv, rfl, hlv, hfin, -⟩ := h3.cells
    rw [if_neg (by simpa using hz)]
    have c43 := fun y => f43a (E := E) (st := ⟨st2.H ++ [y, .cells 65 [.int .i64 0, .int .i64 0]], st2.I⟩) (b := st2.H.length + 1) (ty := 65) (x := .int .i64 0) (y := .int .i64 0) (by simp) k (by omega)
    have hfo := h4.one
    have a1 : ∀ y, (st2.H ++ y)[st.H.length + 1]? = _ := fun y => getE_old q1
    have b1 : ∀ y x, ((st2.H ++ y).set (st.H.length + 1) x)[st.H.length + 1]? = some x := fun y x => List.getElem?_set_self (by rw [List.length_append]; omega)
    have b3 : ∀ y x, ((st2.H ++ y).set (st.H.length + 1) x)[st2.H.length]? = y[0]? := fun y x => by rw [List.getElem?_set_ne (by omega)]; simp
    simp [hs, storeA, hmw2, wrC, hlv]
    simp [hs, c43]
    have w3 : st.H.length + 1 ≠ st2.H.length := by omega
    simp [Nat.testBit, hs, a1, b1, b3, storeA, hmw1, wrC, hlv, List.getElem_set_ne w3]
    have hfn := h3.fin st.I.length (Nat.le_refl _)
    refine ⟨hgr _ (fun q z hq e => ?_) (by simp; omega), ?_⟩
    · rw [List.getElem?_set_ne (by omega)]; exact getE_old e
    · have hff : fv.fin st.I.length = .sl none RW.2.fs.length (encFs RW.2.fs) := by
        rcases h4 with ⟨h4, rfl⟩ | ⟨j, rfl, hj, -⟩
        · rw [h4]; rfl
        · have : ¬ j < st.I.length := by omega
          simp [encFs_fin, this]
      simp at hfn
      rw [hff, hfn]
      rfl
  · rw [if_pos (by simpa using hz)]
    have c43 := fun y => f43b (E := E) (st := ⟨st2.H ++ [y, .cells 65 [.int .i64 0, .int .i64 0]], st2.I⟩) (b := st2.H.length + 1) (ty := 65) (x1 := .int .i64 0) (x2 := .int .i64 0) (by simp) (getE_old h3) (by have := hE2.rob; omega) k (by omega)
    have a1 : ∀ y, (st2.H ++ y)[st.H.length + 1]? = _ := fun y => getE_old q1
    have a2 : ∀ x y, (st2.H ++ [x, y])[st2.H.length + 1]? = some y := fun x y => by simp
    have b1 : ∀ y x, ((st2.H ++ y).set (st.H.length + 1) x)[st.H.length + 1]? = some x := fun y x => List.getElem?_set_self (by rw [List.length_append]; omega)
    have b3 : ∀ x y z, ((st2.H ++ [x, y]).set (st.H.length + 1) z)[st2.H.length + 1]? = some y := fun x y z => by rw [List.getElem?_set_ne (by omega)]; simp
    simp [hs, storeA, hmw2, wrC]
    simp [hs, c43]
    have w3 : st.H.length + 1 ≠ st2.H.length + 1 := by omega
    simp [Nat.testBit, hs, a1, a2, b1, b3, storeA, hmw1, wrC, fillA, List.getElem_set_ne w3]
    refine ⟨hgr _ (fun q z hq e => ?_) (by simp; omega), rfl⟩
    rw [List.getElem?_set_ne (by omega)]; exact getE_old e
theorem f23 (n : Nat) : ∀ t : T, t.wt ≤ n → t.wt ≤ 100000000000 → ∀ k, n + 2 ≤ k → PureC k 23 [.agg t.enc, .agg t.enc] (.bool true) := by
 induction n with
 | zero => intro t h; cases t; simp [T.wt] at h
 | succ n ih =>
  intro t ht htm k hk E st hE
  obtain ⟨k, rfl⟩ := uK (k := k) (by omega)
  obtain ⟨op, s0, nn, l, line⟩ := t
  simp only [T.wt] at ht htm
  have hlw := T.len_wtL l
  have hE2 : E.Wf ⟨st.H ++ [.cells 24 [.int .i64 op, .str s0, .int .i64 nn, .sl none l.length (T.encL l), .int .i64 line], .cells 24 [.int .i64 op, .str s0, .int .i64 nn, .sl none l.length (T.encL l), .int .i64 line]], st.I⟩ := hE.of (by simp) (by simp)
  refine call_in2 rfl rfl (by decide) fun s hs e0 e1 => ?_
  simp [hs, e0, e1]
  refine WP_loop (fun n s m st' => ∃ j : Nat, j ≤ l.length ∧ n = l.length - j ∧ s.length = 60 ∧ m = [] ∧ lk s 2 = .ptr st.H.length 0 ∧ lk s 3 = .ptr (st.H.length + 1) 0 ∧ lk s 5 = .int .i64 j ∧
   st' = ⟨st.H ++ [.cells 24 [.int .i64 op, .str s0, .int .i64 nn, .sl none l.length (T.encL l), .int .i64 line], .cells 24 [.int .i64 op, .str s0, .int .i64 nn, .sl none l.length (T.encL l), .int .i64 line]], st.I⟩) l.length (by omega)
   ⟨0, by omega, by omega, by simp [hs], rfl, by simp [hs], by simp [hs], by simp [hs], rfl⟩ ?_
  clear hs e0 e1
  rintro _ s m _ ⟨j, hj, rfl, hs, rfl, e2, e3, e5, rfl⟩
  by_cases hc : j < l.length
  ·obtain ⟨t, hg⟩ : ∃ t, l[j]? = some t := ⟨_, List.getElem?_eq_getElem hc⟩
   have hrd := T.rd hg
   have hwj := wrap64 (n := (j : Int) + 1) (by omega)
   have hwt := T.wtL_get hg
   have c23 := (ih t (by omega) (by omega) k (by omega)).full rfl hE2
   rw [T.enc_eq] at hrd c23
   simp [Nat.testBit, hs, e2, e3, e5, hc, hrd, c23]
   simp [hs, e5, hwj]
   exact ⟨_, by omega, j + 1, by omega, rfl, by simp [hs], rfl, by simp [hs, e2], by simp [hs, e3], by simp [hs], rfl⟩
  ·simp [hs, e2, e3, e5, hc]
   exact Grow.appH _ _
theorem encFs_rd {fs : List Fn} {i : Nat} {f : Fn} (h : fs[i]? = some f) : rdC (some 5) (encFs fs) (i * 5) = some (.agg f.enc) := by
 have hlt := uB h
 have hd : fs.drop i = f :: fs.drop (i + 1) := by
  rw [List.drop_eq_getElem_cons hlt]; congr 1; exact uV h
 have hl : f.enc.length = 5 := by simp [Fn.enc]
 simp only [rdC, encFs_length, encFs_drop, hd, encFs_cons]
 rw [if_pos (by omega), List.take_append_of_le_length (by omega), ← hl, List.take_length]
theorem f22 (fs : List Fn) (hf : fs.length ≤ 100000000000) (hv : ∀ f ∈ fs, f.vars.length ≤ 1000000) (k : Nat) (hk : fs.length + 1000010 ≤ k) : PureC k 22 [.sl none fs.length (encFs fs), .sl none fs.length (encFs fs)] (.bool true) := by
 intro E st hE
 obtain ⟨k, rfl⟩ := uK (k := k) (by omega)
 have lsl : ∀ o n c, lenA false (.sl o n c) = some (.int .i64 n) := fun _ _ _ => rfl
 refine call_in2 rfl rfl (by decide) fun s hs e0 e1 => ?_
 simp [hs, e0, e1]
 refine WP_loop (fun n s m st' => ∃ (j : Nat) (H : List ABlk), j ≤ fs.length ∧ n = fs.length - j ∧ s.length = 81 ∧ m = [] ∧ lk s 0 = .sl none fs.length (encFs fs) ∧ lk s 1 = .sl none fs.length (encFs fs) ∧ lk s 5 = .int .i64 j ∧ st' = ⟨st.H ++ H, st.I⟩) fs.length (by omega)
  ⟨0, [], by omega, by omega, by simp [hs], rfl, by simp [hs, e0], by simp [hs, e1], by simp [hs], by simp⟩ ?_
 clear hs e0 e1
 rintro _ s m _ ⟨j, H, hj, rfl, hs, rfl, e0, e1, e5, rfl⟩
 have hE2 : E.Wf ⟨st.H ++ H, st.I⟩ := hE.of (by simp) (by simp)
 have hmw := mayWrite_new hE2
 by_cases hc : j < fs.length
 ·obtain ⟨f, hg⟩ : ∃ f, fs[j]? = some f := ⟨_, List.getElem?_eq_getElem hc⟩
  have hrd := encFs_rd hg
  have hwj := wrap64 (n := (j : Int) + 1) (by omega)
  have hvf := hv f (List.mem_of_getElem? hg)
  simp only [Fn.enc] at hrd
  simp [hs, e0, e1, e5, hc, hrd, storeA, hmw, wrC]
  have hF : (st.H ++ (H ++ [.cells 43 f.enc, .cells 43 f.enc]))[st.H.length + H.length]? = some (.cells 43 f.enc) := by rw [getE_app]; simp
  have hG : (st.H ++ (H ++ [.cells 43 f.enc, .cells 43 f.enc]))[st.H.length + (H.length + 1)]? = some (.cells 43 f.enc) := by rw [getE_app]; simp
  simp only [Fn.enc] at hF hG
  refine WP_loop (fun n s m st' => ∃ i : Nat, i ≤ f.vars.length ∧ n = f.vars.length - i ∧ s.length = 81 ∧ m = [] ∧ lk s 0 = .sl none fs.length (encFs fs) ∧ lk s 1 = .sl none fs.length (encFs fs) ∧ lk s 5 = .int .i64 j ∧ lk s 6 = .ptr (st.H.length + H.length) 0 ∧ lk s 7 = .ptr (st.H.length + (H.length + 1)) 0 ∧ lk s 8 = .int .i64 i ∧
   st' = ⟨st.H ++ (H ++ [.cells 43 [.int .i64 f.around, .str f.name, .int .i64 f.params, .sl none f.vars.length (f.vars.map .str), .int .i64 f.mark], .cells 43 [.int .i64 f.around, .str f.name, .int .i64 f.params, .sl none f.vars.length (f.vars.map .str), .int .i64 f.mark]]), st.I⟩) f.vars.length (by omega)
   ⟨0, by omega, by omega, by simp [hs], rfl, by simp [hs, e0], by simp [hs, e1], by simp [hs, e5], by simp [hs], by simp [hs]; try omega, by simp [hs], by simp⟩ ?_
  clear hs e0 e1 e5
  rintro _ s m _ ⟨i, hi, rfl, hs, rfl, e0, e1, e5, e6, e7, e8, rfl⟩
  by_cases hd : i < f.vars.length
  ·have hwi := wrap64 (n := (i : Int) + 1) (by omega)
   simp [Nat.testBit, hs, e6, e7, e8, hF, hG, hd]
   simp [hs, e8, hwi]
   exact ⟨_, by omega, i + 1, by omega, rfl, by simp [hs], rfl, by simp [hs, e0], by simp [hs, e1], by simp [hs, e5], by simp [hs, e6], by simp [hs, e7], by simp [hs], rfl⟩
  ·simp [hs, e6, e7, e8, hF, hG, hd, e5, hwj]
   exact ⟨_, by omega, j + 1, _, by omega, rfl, by simp [hs], rfl, by simp [hs, e0], by simp [hs, e1], by simp [hs], rfl⟩
 ·simp [hs, e0, e5, hc]
  exact Grow.appH _ _
mutual
theorem wT_wt (at_ : Nat) (loop : Bool) : ∀ (t : T) (w : Wk), (wT at_ loop t w).1.wt = t.wt
 | .mk op s n l x, w => by
  simp only [wT]
  split
  ·rfl
  ·split
   ·split
    ·rfl
    ·simp only [T.wt, wP_wt]
   ·simp only [T.wt, wL_wt]
theorem wL_wt (at_ : Nat) (loop : Bool) : ∀ (l : List T) (w : Wk), T.wtL (wL at_ loop l w).1 = T.wtL l
 | [], w => rfl
 | t :: r, w => by simp only [wL, T.wtL, wT_wt, wL_wt]
theorem wP_wt (me : Nat) : ∀ (l : List T) (w : Wk), T.wtL (wP me l w).1 = T.wtL l
 | [], w => rfl
 | [t], w => by simp only [wP, T.wtL, wT_wt]
 | t :: u :: r, w => by
  simp only [wP, T.wtL, wP_wt]
  obtain ⟨op, s, n, l, x⟩ := t
  simp only [T.setN, T.wt, T.op_mk, T.s_mk, T.l_mk, T.line_mk]
end
theorem resolve_wt (t : T) : (resolve t).2.1.wt ≤ t.wt := by
 have h1 : 1 ≤ t.wt := by cases t; simp [T.wt]; omega
 have hz : (T.mk 0 ⟨#[]⟩ 0 [] 0).wt = 1 := by simp [T.wt, T.wtL]; rfl
 unfold resolve
 simp only
 split
 ·rw [hz]; exact h1
 ·split
  ·rw [hz]; exact h1
  ·split
   ·rw [hz]; exact h1
   ·simp only [wT_wt]; exact Nat.le_refl _
theorem resolve_fs (t : T) : FsOk (resolve t).1 := by
 have h0 : FsOk [] := ⟨by simp, by simp⟩
 unfold resolve
 simp only
 split
 ·exact h0
 ·split
  ·exact h0
  ·rename_i hlim
   split
   ·exact h0
   ·refine (wT_le 0 false t _ ⟨by simp, fun i f h => ?_⟩ (by simp)).fs
    rcases i with _ | i
    ·simp at h; subst h; exact ⟨by simp, by simp, by simp; omega⟩
    ·simp at h
def OLe {α : Type} (x y : Option α) : Prop := ∀ r, x = some r → y = some r
theorem OLe.refl {α : Type} (x : Option α) : OLe x x := fun _ h => h
theorem OLe.none {α : Type} (y : Option α) : OLe none y := fun _ h => nomatch h
theorem OLe.trans {α : Type} {x y z : Option α} (h : OLe x y) (k : OLe y z) : OLe x z := fun r e => k r (h r e)
theorem OLe.bind {α β : Type} {x y : Option α} {f g : α → Option β} (h : OLe x y) (k : ∀ a, OLe (f a) (g a)) : OLe (obind x f) (obind y g) := by
 intro r e
 rcases x with _ | a
 ·cases e
 ·rw [h a rfl]; exact k a r e
theorem OLe.guard {α : Type} {b c : Bool} {x y : Option α} (h : b = true → c = true) (k : OLe x y) : OLe (guardb b x) (guardb c y) := by
 intro r e
 cases b
 ·cases e
 ·rw [h rfl]; exact k r e
def CLe (C D : CSem) : Prop := ∀ E cal args st, OLe (C E cal args st) (D E cal args st)
theorem doCall_le {C D : CSem} (h : CLe C D) (E tr cal args st) : OLe (doCall C E tr cal args st) (doCall D E tr cal args st) := by
 cases tr
 ·exact h _ _ _ _
 all_goals
  refine (h _ _ _ _).bind fun a => ?_
  obtain ⟨r, st'⟩ := a
  cases r <;> exact .refl _
section
variable {GT : Nat → Option (List AV)} {C D : CSem} {E : Env}
theorem aExec_le (h : CLe C D) (op s st) : OLe (aExec GT C E op s st) (aExec GT D E op s st) := by
 cases op
 case call tr f args => exact doCall_le h _ _ _ _ _
 case callv tr x args =>
  unfold aExec
  simp only
  cases evA GT s x <;> first | exact doCall_le h _ _ _ _ _ | exact .refl _
 all_goals exact .refl _
theorem aStep_le (h : CLe C D) (o s st) : OLe (aStep GT C E o s st) (aStep GT D E o s st) := by
 unfold aStep
 split
 ·refine (aExec_le h _ _ _).bind fun a => ?_
  obtain ⟨r, st'⟩ := a
  cases r <;> exact .refl _
 ·exact .refl _
theorem aOps_le (h : CLe C D) : ∀ ops s st, OLe (aOps GT C E ops s st) (aOps GT D E ops s st)
 | [], s, st => .refl _
 | o :: r, s, st => by
  refine (aStep_le h _ _ _).bind fun a => ?_
  obtain ⟨q, st'⟩ := a
  cases q
  ·exact aOps_le h r _ _
  ·exact .refl _
theorem sameAt_le (h : CLe C D) (o s st v) (e : sameAt GT C E o s st v = true) : sameAt GT D E o s st v = true := by
 unfold sameAt at e ⊢
 rcases hx : aExec GT C E o.op s st with _ | ⟨r, st'⟩
 ·rw [hx] at e; cases e
 ·rw [hx] at e; rw [aExec_le h _ _ _ _ hx]; exact e
theorem sameBack_le (h : CLe C D) (o s v m) : ∀ l, sameBack GT C E o s v m l = true → sameBack GT D E o s v m l = true
 | [], e => rfl
 | [(some q, st1)], e => rfl
 | (none, st1) :: r, e => by unfold sameBack; rfl
 | (some q, st1) :: (p, st) :: r, e => by
  unfold sameBack at e ⊢
  simp only [Bool.or_eq_true, Bool.and_eq_true] at e ⊢
  rcases e with e | ⟨e1, e2⟩
  ·exact .inl e
  ·exact .inr ⟨sameAt_le h _ _ _ _ e1, sameBack_le h o s v m _ e2⟩
theorem aDead_le (h : CLe C D) (p : Nat) : ∀ l sts s st, aDead GT C E p l sts s st = true → aDead GT D E p l sts s st = true
 | [], sts, s, st, e => rfl
 | (o, m) :: r, sts, s, st, e => by
  unfold aDead at e ⊢
  split at e
  ·rename_i hm; rw [if_pos hm]; exact aDead_le h p r _ _ _ e
  ·rename_i hm
   rw [if_neg hm]
   simp only [Bool.and_eq_true] at e ⊢
   refine ⟨e.1, ?_⟩
   have e2 := e.2
   split at e2
   ·rename_i hw
    rw [if_pos hw]
    rcases hx : aExec GT C E o.op s st with _ | ⟨r', st'⟩
    ·rw [hx] at e2; cases e2
    ·rw [hx] at e2; rw [aExec_le h _ _ _ _ hx]
     cases r'
     ·simp only [Bool.and_eq_true, Bool.or_eq_true] at e2 ⊢
      refine ⟨?_, aDead_le h p r _ _ _ e2.2⟩
      rcases e2.1 with e3 | e3
      ·exact .inl e3
      ·exact .inr (sameBack_le h _ _ _ _ _ e3)
     ·cases e2
   ·rename_i hw
    rw [if_neg hw]
    exact aDead_le h p r _ _ _ e2
theorem aDraw_le (h : CLe C D) : ∀ l i ds sts s st, OLe (aDraw GT C E i l ds sts s st) (aDraw GT D E i l ds sts s st)
 | [], i, ds, sts, s, st => .refl _
 | (o, m) :: r, i, ds, sts, s, st => by
  unfold aDraw
  split
  ·refine (aExec_le h _ _ _).bind fun a => ?_
   obtain ⟨q, st'⟩ := a
   cases q
   ·simp only
    split
    ·refine .guard (fun e => ?_) (aDraw_le h r _ _ _ _ _)
     rw [List.all_eq_true] at e ⊢
     intro d hd
     have := e d hd
     simp only [Bool.or_eq_true] at this ⊢
     rcases this with e | e
     ·exact .inl e
     ·exact .inr (sameAt_le h _ _ _ _ e)
    ·split
     ·exact .guard (sameBack_le h _ _ _ _ _) (aDraw_le h r _ _ _ _ _)
     ·exact aDraw_le h r _ _ _ _ _
   ·refine .guard (fun e => ?_) (.refl _)
    simp only [Bool.and_eq_true] at e ⊢
    exact ⟨e.1, aDead_le h _ _ _ _ _ e.2⟩
  ·split
   ·exact aDraw_le h r _ _ _ _ _
   ·exact aDraw_le h r _ _ _ _ _
theorem iter_le {f g : List AV → List Nat → St → RunRes} (h : ∀ s m st, OLe (f s m st) (g s m st)) : ∀ n n' s m st, n ≤ n' → OLe (iter f n s m st) (iter g n' s m st)
 | 0, _, s, m, st, _ => .none _
 | n + 1, 0, s, m, st, hn => by omega
 | n + 1, n' + 1, s, m, st, hn => by
  refine (h s m st).bind fun a => ?_
  obtain ⟨x, s', m', st'⟩ := a
  cases x <;> first | exact iter_le h n n' _ _ _ (by omega) | exact .refl _
theorem aRun_le (h : CLe C D) {lf lf' : Nat} (hl : lf ≤ lf') (rd : Option Nat) : ∀ c s m st, OLe (aRun GT C E lf rd c s m st) (aRun GT D E lf' rd c s m st) := by
 intro c
 induction c with
 | skip => intro s m st; simp only [aRun]; exact .refl _
 | reg ops =>
  intro s m st
  simp only [aRun]
  refine (aOps_le h _ _ _).bind fun a => ?_
  obtain ⟨q, st'⟩ := a
  cases q <;> exact .refl _
 | dreg ops =>
  intro s m st
  simp only [aRun]
  refine (aDraw_le h _ _ _ _ _ _).bind fun a => ?_
  obtain ⟨q, st'⟩ := a
  cases q <;> exact .refl _
 | seq a b iha ihb =>
  intro s m st
  simp only [aRun]
  refine (iha s m st).bind fun a => ?_
  obtain ⟨x, s', m', st'⟩ := a
  cases x <;> first | exact ihb _ _ _ | exact .refl _
 | cond c x y ihx ihy =>
  intro s m st
  simp only [aRun]
  cases evA GT s c <;> try exact .refl _
  rename_i b
  cases b
  ·exact ihy _ _ _
  ·exact ihx _ _ _
 | block id b ih =>
  intro s m st
  simp only [aRun]
  refine (ih s m st).bind fun a => ?_
  obtain ⟨x, s', m', st'⟩ := a
  cases x <;> exact .refl _
 | scope b ih => intro s m st; simp only [aRun]; exact ih _ _ _
 | loop b ih => intro s m st; simp only [aRun]; exact iter_le ih _ _ _ _ _ hl
 | rf f ps asg body _ _ =>
  intro s m st
  simp only [aRun]
  unfold rfCall
  refine OLe.bind (.refl _) fun a => ?_
  obtain ⟨d, m', st1⟩ := a
  simp only
  cases evA GT s f <;> try exact .refl _
  refine (h _ _ _ _).bind fun a => ?_
  exact .refl _
 | exit id => intro s m st; simp only [aRun]; exact .refl _
 | ret => intro s m st; simp only [aRun]; exact .refl _
 | bad => intro s m st; simp only [aRun]; exact .refl _
theorem aRound_le (h : CLe C D) {lf lf' : Nat} (hl : lf ≤ lf') (l args st) : OLe (aRound GT C E lf l args st) (aRound GT D E lf' l args st) := by
 unfold aRound
 split
 ·refine .guard (fun e => e) ((aRun_le h hl _ _ _ _ _).bind fun a => ?_)
  obtain ⟨x, s', m', st'⟩ := a
  cases x <;> try exact .refl _
  cases m' <;> try exact .refl _
  simp only
  split
  ·refine (aRun_le h hl _ _ _ _ _).bind fun a => ?_
   exact .refl _
  ·exact .refl _
 ·exact .refl _
end
theorem dfr59_le {C D : CSem} (h : CLe C D) (E caps rv st) : OLe (dfr59 C E caps rv st) (dfr59 D E caps rv st) := by
 unfold dfr59
 refine (aOps_le h _ _ _).bind fun a => ?_
 obtain ⟨q, st'⟩ := a
 cases q
 ·refine (aRun_le h (Nat.le_refl _) _ _ _ _ _).bind fun a => ?_
  exact .refl _
 ·exact .refl _
theorem ov42_le {C D : CSem} (h : CLe C D) (E args st) : OLe (ov42 C E args st) (ov42 D E args st) := by
 unfold ov42
 refine (aOps_le h _ _ _).bind fun a => ?_
 obtain ⟨q, st0⟩ := a
 cases q
 rotate_left
 ·exact .refl _
 refine (aOps_le h _ _ _).bind fun a => ?_
 obtain ⟨q, st1⟩ := a
 cases q
 rotate_left
 ·exact .refl _
 refine .guard (fun e => e) ((aRun_le h (Nat.le_refl _) _ _ _ _ _).bind fun a => ?_)
 obtain ⟨x, s', m', st'⟩ := a
 cases x with
 | ret =>
  cases m' with
  | nil => exact (dfr59_le h _ _ _ _).bind fun a => .refl _
  | cons _ _ => exact .none _
 | pan v =>
  cases m' with
  | nil => exact (dfr59_le h _ _ _ _).bind fun a => .refl _
  | cons _ _ => exact .none _
 | nrm => exact .none _
 | exit id => exact .none _
theorem aCall_succ : ∀ k, CLe (aCall prog k) (aCall prog (k + 1))
 | 0 => fun E cal args st => by unfold aCall; exact .none _
 | k + 1 => by
  intro E cal args st
  have ih := aCall_succ k
  rw [aCall, aCall]
  cases cal with
  | yld l => exact aRound_le ih (by omega) _ _ _
  | fn f =>
   simp only
   rcases hov : prog.ovr f with _ | g
   ·simp only
    rcases prog.fn f with _ | fn
    ·exact .refl _
    ·refine (aRun_le ih (by omega) _ _ _ _ _).bind fun a => ?_
     exact .refl _
   ·simp only
    have hg : ovOf f = some g := hov
    unfold ovOf at hg
    split at hg
    ·cases hg; exact ov42_le ih _ _ _
    ·cases hg; exact .refl _
    ·cases hg; exact .refl _
    ·cases hg
theorem aCall_mono {k k' : Nat} (h : k ≤ k') : CLe (aCall prog k) (aCall prog k') := by
 induction h with
 | refl => exact fun _ _ _ _ => .refl _
 | step _ ih => exact fun E cal args st => (ih E cal args st).trans (aCall_succ _ E cal args st)
section
variable {R : Type}
def fN (n : Nat) (k : Nat → R) : R := match n with
 | 0 => k 0
 | m + 1 => k (m + 1)
@[simp] theorem fN_eq (n : Nat) (k : Nat → R) : fN n k = k n := by cases n <;> rfl
def fI (n : Int) (k : Int → R) : R := match n with
 | .ofNat m => fN m fun m => k (.ofNat m)
 | .negSucc m => fN m fun m => k (.negSucc m)
@[simp] theorem fI_eq (n : Int) (k : Int → R) : fI n k = k n := by cases n <;> simp [fI]
def fB (b : Bool) (k : Bool → R) : R := match b with
 | true => k true
 | false => k false
@[simp] theorem fB_eq (b : Bool) (k : Bool → R) : fB b k = k b := by cases b <;> rfl
def fO (b : Option Nat) (k : Option Nat → R) : R := match b with
 | some i => fN i fun i => k (some i)
 | none => k none
@[simp] theorem fO_eq (b : Option Nat) (k : Option Nat → R) : fO b k = k b := by cases b <;> simp [fO]
def fBy : List UInt8 → (List UInt8 → R) → R
 | [], k => k []
 | b :: r, k => fN b.toNat fun n => fBy r fun r => k (UInt8.ofNat n :: r)
@[simp] theorem fBy_eq : ∀ (l : List UInt8) (k : List UInt8 → R), fBy l k = k l
 | [], k => rfl
 | b :: r, k => by simp [fBy, fBy_eq r]
def fS (s : ByteArray) (k : ByteArray → R) : R := fBy s.data.toList fun l => k ⟨⟨l⟩⟩
@[simp] theorem fS_eq (s : ByteArray) (k : ByteArray → R) : fS s k = k s := by simp [fS]
def fP {α : Type} : List α → (List α → R) → R
 | [], k => k []
 | v :: r, k => fP r fun r => k (v :: r)
@[simp] theorem fP_eq {α : Type} : ∀ (l : List α) (k : List α → R), fP l k = k l
 | [], k => rfl
 | v :: r, k => by simp [fP, fP_eq r]
def f0 (v : AV) : (AV → R) → R := match v with
 | .int j n => fun k => fI n fun n => k (.int j n)
 | .bool b => fun k => fB b fun b => k (.bool b)
 | .str s => fun k => k (.str s)
 | .nilp => fun k => k .nilp
 | .ptr b o => fun k => fN b fun b => fN o fun o => k (.ptr b o)
 | .eptr c o => fun k => fN o fun o => k (.eptr c o)
 | .nils => fun k => k .nils
 | .sl w n c => fun k => fO w fun w => fN n fun n => k (.sl w n c)
 | .hs b n => fun k => fN b fun b => fN n fun n => k (.hs b n)
 | .nilm => fun k => k .nilm
 | .map b => fun k => fN b fun b => k (.map b)
 | .nilf => fun k => k .nilf
 | .fn f x y => fun k => k (.fn f x y)
 | .yld b => fun k => fN b fun b => k (.yld b)
 | .nili => fun k => k .nili
 | .iface t v => fun k => k (.iface t v)
 | .agg c => fun k => k (.agg c)
 | .tup c => fun k => k (.tup c)
@[simp] theorem f0_eq (v : AV) (k : AV → R) : f0 v k = k v := by cases v <;> simp [f0]
def fL0 : List AV → (List AV → R) → R
 | [], k => k []
 | v :: r, k => f0 v fun v => fL0 r fun r => k (v :: r)
@[simp] theorem fL0_eq : ∀ (l : List AV) (k : List AV → R), fL0 l k = k l
 | [], k => rfl
 | v :: r, k => by simp [fL0, fL0_eq r]
def f1 (v : AV) : (AV → R) → R := match v with
 | .sl w n c => fun k => fO w fun w => fN n fun n => fL0 c fun c => k (.sl w n c)
 | .agg c => fun k => fL0 c fun c => k (.agg c)
 | .tup c => fun k => fL0 c fun c => k (.tup c)
 | .iface t v => fun k => f0 v fun v => k (.iface t v)
 | .int j n => fun k => fI n fun n => k (.int j n)
 | .bool b => fun k => fB b fun b => k (.bool b)
 | .str s => fun k => k (.str s)
 | .nilp => fun k => k .nilp
 | .ptr b o => fun k => fN b fun b => fN o fun o => k (.ptr b o)
 | .eptr c o => fun k => fN o fun o => k (.eptr c o)
 | .nils => fun k => k .nils
 | .hs b n => fun k => fN b fun b => fN n fun n => k (.hs b n)
 | .nilm => fun k => k .nilm
 | .map b => fun k => fN b fun b => k (.map b)
 | .nilf => fun k => k .nilf
 | .fn f x y => fun k => k (.fn f x y)
 | .yld b => fun k => fN b fun b => k (.yld b)
 | .nili => fun k => k .nili
@[simp] theorem f1_eq (v : AV) (k : AV → R) : f1 v k = k v := by cases v <;> simp [f1]
def fL1 : List AV → (List AV → R) → R
 | [], k => k []
 | v :: r, k => f1 v fun v => fL1 r fun r => k (v :: r)
@[simp] theorem fL1_eq : ∀ (l : List AV) (k : List AV → R), fL1 l k = k l
 | [], k => rfl
 | v :: r, k => by simp [fL1, fL1_eq r]
mutual
/-- A value, whole. -/
def fV : AV → (AV → R) → R
 | .sl w n c, k => fO w fun w => fN n fun n => fVL c fun c => k (.sl w n c)
 | .agg c, k => fVL c fun c => k (.agg c)
 | .tup c, k => fVL c fun c => k (.tup c)
 | .iface t v, k => fV v fun v => k (.iface t v)
 | .int j n, k => fI n fun n => k (.int j n)
 | .bool b, k => fB b fun b => k (.bool b)
 | .str s, k => fS s fun s => k (.str s)
 | .nilp, k => k .nilp
 | .ptr b o, k => fN b fun b => fN o fun o => k (.ptr b o)
 | .eptr c o, k => fVL c fun c => fN o fun o => k (.eptr c o)
 | .nils, k => k .nils
 | .hs b n, k => fN b fun b => fN n fun n => k (.hs b n)
 | .nilm, k => k .nilm
 | .map b, k => fN b fun b => k (.map b)
 | .nilf, k => k .nilf
 | .fn f x y, k => fVL x fun x => fVL y fun y => k (.fn f x y)
 | .yld b, k => fN b fun b => k (.yld b)
 | .nili, k => k .nili
def fVL : List AV → (List AV → R) → R
 | [], k => k []
 | v :: r, k => fV v fun v => fVL r fun r => k (v :: r)
end
mutual
theorem fV_eq : ∀ (v : AV) (k : AV → R), fV v k = k v
 | .sl w n c, k => by simp [fV, fVL_eq c]
 | .agg c, k => by simp [fV, fVL_eq c]
 | .tup c, k => by simp [fV, fVL_eq c]
 | .iface t v, k => by simp [fV, fV_eq v]
 | .eptr c o, k => by simp [fV, fVL_eq c]
 | .fn f x y, k => by simp [fV, fVL_eq x, fVL_eq y]
 | .int j n, k => by simp [fV]
 | .bool b, k => by simp [fV]
 | .str s, k => by simp [fV]
 | .nilp, k => by simp [fV]
 | .ptr b o, k => by simp [fV]
 | .nils, k => by simp [fV]
 | .hs b n, k => by simp [fV]
 | .nilm, k => by simp [fV]
 | .map b, k => by simp [fV]
 | .nilf, k => by simp [fV]
 | .yld b, k => by simp [fV]
 | .nili, k => by simp [fV]
theorem fVL_eq : ∀ (l : List AV) (k : List AV → R), fVL l k = k l
 | [], k => by simp [fVL]
 | v :: r, k => by simp [fVL, fV_eq v, fVL_eq r]
end
attribute [simp] fV_eq fVL_eq
noncomputable def fPut (l : List AV) : Nat → AV → (List AV → R) → R :=
 List.rec (motive := fun _ => Nat → AV → (List AV → R) → R) (fun _ _ k => k []) (fun u r ih d v k => Nat.rec (motive := fun _ => R) (k (v :: r)) (fun m _ => ih m v fun r => k (u :: r)) d) l
@[simp] theorem fPut_eq : ∀ (l : List AV) (d : Nat) (v : AV) (k : List AV → R), fPut l d v k = k (l.set d v)
 | [], _, _, k => rfl
 | _ :: r, 0, v, k => rfl
 | u :: r, d + 1, v, k => by
  have := fPut_eq r d v fun r => k (u :: r)
  exact this
def fBlk (b : ABlk) (k : ABlk → R) : R := match b with
 | .cells t c => fL1 c fun c => k (.cells t c)
 | b => k b
@[simp] theorem fBlk_eq (b : ABlk) (k : ABlk → R) : fBlk b k = k b := by cases b <;> simp [fBlk]
def fH : List ABlk → Nat → (List ABlk → R) → R
 | [], _, k => k []
 | b :: r, 0, k => fBlk b fun b => fP r fun r => k (b :: r)
 | b :: r, d + 1, k => fH r d fun r => k (b :: r)
@[simp] theorem fH_eq : ∀ (l : List ABlk) (d : Nat) (k : List ABlk → R), fH l d k = k l
 | [], _, k => rfl
 | b :: r, 0, k => by simp [fH]
 | b :: r, d + 1, k => by simp [fH, fH_eq r]
def fIs : List (Nat × Nat) → (List (Nat × Nat) → R) → R
 | [], k => k []
 | (a, b) :: r, k => fN a fun a => fN b fun b => fIs r fun r => k ((a, b) :: r)
@[simp] theorem fIs_eq : ∀ (l : List (Nat × Nat)) (k : List (Nat × Nat) → R), fIs l k = k l
 | [], k => rfl
 | (a, b) :: r, k => by simp [fIs, fIs_eq r]
def fSt (d : Nat) (st : St) (k : St → R) : R := fH st.H d fun H => fIs st.I fun I => k ⟨H, I⟩
@[simp] theorem fSt_eq (d : Nat) (st : St) (k : St → R) : fSt d st k = k st := by simp [fSt]
end
theorem enc_nat (a b : Nat) : decide ((a : Int) < b) = Nat.blt a b := by
 rw [Bool.eq_iff_iff]; simp [Nat.blt_eq]
noncomputable def lkF (s : List AV) : Nat → AV :=
 List.rec (motive := fun _ => Nat → AV) (fun _ => AV.undef) (fun v _ ih n => Nat.rec (motive := fun _ => AV) v (fun m _ => ih m) n) s
theorem lkF_eq : ∀ (s : List AV) (n : Nat), lkF s n = lk s n
 | [], n => by simp [lkF, lk]
 | v :: r, 0 => by show v = _; simp [lk]
 | v :: r, n + 1 => by
  have := lkF_eq r n
  simp only [lk, List.getElem?_cons_succ] at this ⊢
  exact this
noncomputable def evF (s : List AV) (o : AO) : AV := match o with
 | .t n => lkF s n
 | .c v => v
 | .g n => evA tabs s (.g n)
theorem evF_eq (s : List AV) : evF s = evA tabs s := by
 funext o; cases o <;> simp [evF, lkF_eq, evA]
noncomputable def putF {R : Type} (d : Option Nat) (v : AV) (s : List AV) (k : List AV → R) : R := match d with
 | some d => fPut s d v k
 | none => k s
@[simp] theorem putF_eq {R : Type} (d : Option Nat) (v : AV) (s : List AV) (k : List AV → R) : putF d v s k = k (put s d v) := by cases d <;> simp [putF, put]
abbrev RO := Option (Rt (List AV) × St)
abbrev KO := AV → List AV → St → RO
abbrev KP := AV → St → RO
def stepK (x : Option (Rt AV × St)) (d : Option Nat) (s : List AV) (k : KO) (kp : KP) : RO := match x with
 | some (.ok v, st') => k v (put s d v) st'
 | some (.pan v, st') => kp v st'
 | none => none
noncomputable def pureK (v : AV) (d : Option Nat) (s : List AV) (st : St) (k : KO) : RO := f1 v fun v => putF d v s fun s => k v s st
noncomputable def optK (x : Option AV) (d : Option Nat) (s : List AV) (st : St) (k : KO) : RO := match x with
 | some v => pureK v d s st k
 | none => none
noncomputable def effK (t : Nat) (x : Option (Rt AV × St)) (d : Option Nat) (s : List AV) (k : KO) (kp : KP) : RO := match x with
 | some (.ok v, st') => f1 v fun v => putF d v s fun s => fSt t st' fun st' => k v s st'
 | some (.pan v, st') => kp v st'
 | none => none
noncomputable def resK (x : Option (Rt AV × St)) (d : Option Nat) (s : List AV) (k : KO) (kp : KP) : RO := match x with
 | some (.ok v, st') => f1 v fun v => putF d v s fun s => k v s st'
 | some (.pan v, st') => kp v st'
 | none => none
noncomputable def calK (x : Option (Rt AV × St)) (d : Option Nat) (s : List AV) (k : KO) (kp : KP) : RO := match x with
 | some (.ok v, st') => fV v fun v => putF d v s fun s => fSt (st'.H.length + 1) st' fun st' => k v s st'
 | some (.pan v, st') => kp v st'
 | none => none
theorem pureK_eq (v d s st k kp) : pureK v d s st k = stepK (some (.ok v, st)) d s k kp := by simp [pureK, stepK]
theorem optK_eq (x d s st k kp) : optK x d s st k = stepK (okOf x st) d s k kp := by cases x <;> simp [optK, stepK, pureK]
theorem effK_eq (t x d s k kp) : effK t x d s k kp = stepK x d s k kp := by
 rcases x with _ | ⟨v | v, st'⟩ <;> simp [effK, stepK]
theorem resK_eq (x d s k kp) : resK x d s k kp = stepK x d s k kp := by
 rcases x with _ | ⟨v | v, st'⟩ <;> simp [resK, stepK]
theorem calK_eq (x d s k kp) : calK x d s k kp = stepK x d s k kp := by
 rcases x with _ | ⟨v | v, st'⟩ <;> simp [calK, stepK]
def wrapF (k : IntKind) (n : Int) : Int := match k, n with
 | .i64, .ofNat m => if Nat.blt m 4294967296 then .ofNat m else IntKind.i64.wrap (.ofNat m)
 | k, n => k.wrap n
theorem wrapF_eq (k n) : wrapF k n = k.wrap n := by
 unfold wrapF
 split
 ·rename_i m
  split
  ·rename_i h
   rw [Nat.blt_eq] at h
   have : (Int.ofNat m : Int) = (m : Int) := rfl
   rw [wrap64]
   rw [this]; omega
  ·rfl
 ·rfl
def ltF (a b : Int) : Bool := match a, b with
 | .ofNat a, .ofNat b => Nat.blt a b
 | a, b => decide (a < b)
theorem ltF_eq (a b) : ltF a b = decide (a < b) := by
 unfold ltF
 split
 ·rename_i a b; exact (enc_nat a b).symm
 ·rfl
def eqF (a b : Int) : Bool := match a, b with
 | .ofNat a, .ofNat b => Nat.beq a b
 | a, b => decide (a = b)
theorem eqF_eq (a b) : eqF a b = decide (a = b) := by
 unfold eqF
 split
 ·rename_i a b
  rw [Bool.eq_iff_iff]
  simp only [Nat.beq_eq, decide_eq_true_eq]
  constructor
  ·intro h; rw [h]
  ·intro h; exact Int.ofNat.inj h
 ·rfl
def kindF (k k' : IntKind) : Bool := match k, k' with
 | .i64, .i64 => true
 | .u8, .u8 => true
 | k, k' => decide (k = k')
theorem kindF_eq (k k') : kindF k k' = decide (k = k') := by cases k <;> cases k' <;> rfl
def iAdd (k k' : IntKind) (a b : Int) : Option AV := guardb (kindF k k') (some (.int k (wrapF k (a + b))))
def iSub (k k' : IntKind) (a b : Int) : Option AV := guardb (kindF k k') (some (.int k (wrapF k (a - b))))
def iEql (k k' : IntKind) (a b : Int) : Option AV := guardb (kindF k k') (some (.bool (eqF a b)))
def iNeq (k k' : IntKind) (a b : Int) : Option AV := guardb (kindF k k') (some (.bool (!eqF a b)))
def iLss (k k' : IntKind) (a b : Int) : Option AV := guardb (kindF k k') (some (.bool (ltF a b)))
def iLeq (k k' : IntKind) (a b : Int) : Option AV := guardb (kindF k k') (some (.bool (!ltF b a)))
def iGtr (k k' : IntKind) (a b : Int) : Option AV := guardb (kindF k k') (some (.bool (ltF b a)))
def iGeq (k k' : IntKind) (a b : Int) : Option AV := guardb (kindF k k') (some (.bool (!ltF a b)))
def iOth (op : BinOp) (k k' : IntKind) (a b : Int) : Option AV := binA .num op (.int k a) (.int k' b)
def intF (op : BinOp) : IntKind → IntKind → Int → Int → Option AV := match op with
 | .add => iAdd
 | .sub => iSub
 | .eql => iEql
 | .neq => iNeq
 | .lss => iLss
 | .leq => iLeq
 | .gtr => iGtr
 | .geq => iGeq
 | op => iOth op
theorem intF_eq (op k k' a b) : intF op k k' a b = binA .num op (.int k a) (.int k' b) := by
 have h1 : (!decide (b < a)) = decide (a ≤ b) := by rw [Bool.eq_iff_iff]; simp
 have h2 : (!decide (a < b)) = decide (b ≤ a) := by rw [Bool.eq_iff_iff]; simp
 cases op <;> simp [intF, iAdd, iSub, iEql, iNeq, iLss, iLeq, iGtr, iGeq, iOth, kindF_eq, wrapF_eq, eqF_eq, ltF_eq, h1, h2]
def beF : List UInt8 → List UInt8 → Bool
 | [], [] => true
 | a :: r, b :: q => match Nat.beq a.toNat b.toNat with
  | true => beF r q
  | false => false
 | _, _ => false
theorem beF_eq : ∀ a b, beF a b = decide (a = b)
 | [], [] => by simp [beF]
 | [], b :: q => by simp [beF]
 | a :: r, [] => by simp [beF]
 | a :: r, b :: q => by
  simp only [beF, beF_eq r q]
  rw [Bool.eq_iff_iff]
  cases h : Nat.beq a.toNat b.toNat
  ·simp only [Bool.false_eq_true, false_iff, decide_eq_true_eq, List.cons.injEq, not_and]
   rintro rfl
   simp at h
  ·simp only [decide_eq_true_eq, List.cons.injEq]
   have : a = b := UInt8.toNat_inj.1 (Nat.eq_of_beq_eq_true h)
   simp [this]
def strF (op : BinOp) (a b : ByteArray) : Option AV := match op with
 | .eql => some (.bool (beF a.data.toList b.data.toList))
 | .neq => some (.bool (!beF a.data.toList b.data.toList))
 | op => strBin op a b
theorem bytes_eqF (a b : ByteArray) : (a = b) = (a.data.toList = b.data.toList) := by
 apply propext
 constructor
 ·intro h; rw [h]
 ·intro h
  obtain ⟨⟨a⟩⟩ := a
  obtain ⟨⟨b⟩⟩ := b
  simp at h; rw [h]
theorem strF_eq (op a b) : strF op a b = strBin op a b := by
 cases op <;> simp only [strF, beF_eq, strBin, bytes_eqF]
def asInt (v : AV) : (IntKind → Int → Option AV) → Option AV := match v with
 | .int k n => fun f => f k n
 | _ => fun _ => none
def asTxt (v : AV) : (ByteArray → Option AV) → Option AV := match v with
 | .str s => fun f => f s
 | _ => fun _ => none
def numF (op : BinOp) (x y : AV) : Option AV := asInt x fun k a => asInt y fun k' b => intF op k k' a b
def txtF (op : BinOp) (x y : AV) : Option AV := asTxt x fun a => asTxt y fun b => strF op a b
def binF (K : BK) (op : BinOp) (x y : AV) : Option AV := match K with
 | .num => numF op x y
 | .str => txtF op x y
 | K => binA K op x y
theorem binF_eq (K op x y) : binF K op x y = binA K op x y := by
 cases K
 case num => cases x <;> cases y <;> first | exact intF_eq _ _ _ _ _ | (simp [binF, numF, asInt, binA])
 case str => cases x <;> cases y <;> first | exact strF_eq _ _ _ | (simp [binF, txtF, asTxt, binA])
 all_goals rfl
noncomputable def nthF (l : List UInt8) : Nat → Option UInt8 :=
 List.rec (motive := fun _ => Nat → Option UInt8) (fun _ => none) (fun v _ ih n => Nat.rec (motive := fun _ => Option UInt8) (some v) (fun m _ => ih m) n) l
theorem nthF_eq : ∀ (s : List UInt8) (n : Nat), nthF s n = s[n]?
 | [], n => by simp [nthF]
 | v :: r, 0 => by show some v = _; simp
 | v :: r, n + 1 => by
  have := nthF_eq r n
  simp only [List.getElem?_cons_succ]
  exact this
noncomputable def ixF (v i : AV) (st : St) : Option (Rt AV × St) := match v, i with
 | .str s, .int _ (.ofNat j) => match nthF s.data.toList j with
  | some b => some (.ok (.int .u8 b.toNat), st)
  | none => none
 | v, i => ixsA v i st
theorem ixF_eq (v i st) : ixF v i st = ixsA v i st := by
 unfold ixF
 split
 ·rename_i s k j
  have h0 : (0 : Int) ≤ Int.ofNat j := Int.natCast_nonneg j
  have h1 : (Int.ofNat j).toNat = j := rfl
  simp only [ixsA_str, h0, decide_true, guardb_true, h1, nthF_eq, Array.getElem?_toList]
  cases s.data[j]? <;> rfl
 ·rfl
def tkF : List UInt8 → Nat → List UInt8
 | [], _ => []
 | _ :: _, 0 => []
 | v :: r, n + 1 => v :: tkF r n
def drF : List UInt8 → Nat → List UInt8
 | [], _ => []
 | v :: r, 0 => v :: r
 | _ :: r, n + 1 => drF r n
theorem tkF_eq : ∀ l n, tkF l n = l.take n
 | [], n => by cases n <;> rfl
 | v :: r, 0 => rfl
 | v :: r, n + 1 => by simp [tkF, tkF_eq r n]
theorem drF_eq : ∀ l n, drF l n = l.drop n
 | [], n => by cases n <;> rfl
 | v :: r, 0 => rfl
 | v :: r, n + 1 => by simp [drF, drF_eq r n]
def exF' (s : ByteArray) (lo hi : Nat) : ByteArray := fBy (tkF (drF s.data.toList lo) (hi - lo)) fun l => ⟨⟨l⟩⟩
theorem exF'_eq (s : ByteArray) (lo hi : Nat) : exF' s lo hi = s.extract lo hi := by
 rw [exF', fBy_eq, tkF_eq, drF_eq, bytes_eqF]
 simp
def slF (sz : Option Nat) (x : AV) (lo hi : Nat) : Option AV := match sz, x with
 | none, .str s => guardb (decide (lo ≤ hi) && decide (hi ≤ s.size)) (some (.str (exF' s lo hi)))
 | sz, x => slcA sz x lo hi
theorem slF_eq (sz x lo hi) : slF sz x lo hi = slcA sz x lo hi := by
 unfold slF
 split
 ·simp [slcA, exF'_eq]
 ·rfl
section
variable (C : CSem) (E : Env)
def opSt (E : Env) (st : St) (n : Nat) (p x : AV) : Option (Rt AV × St) := match storeA E st n p x with
 | some st' => some (.ok AV.undef, st')
 | none => none
def touchF (p : AV) (st : St) : Nat := match p with
 | .ptr b _ => b
 | _ => st.H.length + 1
def opAlloc (ty : Nat) (z : List AV) (st : St) : Option (Rt AV × St) := guardb (z.all AV.one) (some (.ok (.ptr st.H.length 0), { st with H := st.H ++ [.cells ty z] }))
def opBuild (z : List AV) (ps : List (Nat × Nat × List AV)) : Option AV := match fillA z ps with
 | some cs => some (.agg cs)
 | none => none
def opBsl (own : Bool) (sz n : Nat) (z : List AV) (ps : List (Nat × Nat × List AV)) (st : St) : Option (Rt AV × St) := match fillA z ps with
 | some cs => if own then some (.ok (.sl (some st.I.length) n (AV.finL 0 cs)), { st with I := st.I ++ [(n, sz)] }) else some (.ok (.sl none n (AV.finL 0 cs)), st)
 | none => none
def opApp (E : Env) (st : St) (sz bytes : Nat) (x y : AV) : Option (Rt AV × St) := match appA E st sz bytes x y with
 | some (v, st') => some (.ok v, st')
 | none => none
noncomputable def opSlc (sz : Option Nat) (s : List AV) (x : AV) (lo hi : Option AO) : Option AV := match optN (evF s) 0 lo with
 | some a => match optN (evF s) (lenN x) hi with
  | some b => slF sz x a b
  | none => none
 | none => none
abbrev DT := Env → Tr → Nat → List AV → St → Option (Rt AV × St)
abbrev HT := CSem → DT → Env → Option Nat → List AV → St → KO → KP → RO
noncomputable def hMv (x : AO) (C : CSem) (D : DT) (E : Env) (d : Option Nat) (s : List AV) (st : St) (k : KO) (kp : KP) : RO := pureK (evF s x) d s st k
noncomputable def hPick (c x y : AO) (C : CSem) (D : DT) (E : Env) (d : Option Nat) (s : List AV) (st : St) (k : KO) (kp : KP) : RO := resK (pickA (evF s c) (evF s x) (evF s y) st) d s k kp
noncomputable def hAlloc (ty : Nat) (z : List AV) (C : CSem) (D : DT) (E : Env) (d : Option Nat) (s : List AV) (st : St) (k : KO) (kp : KP) : RO := effK st.H.length (opAlloc ty z st) d s k kp
noncomputable def hBox (ty : Nat) (x : AO) (C : CSem) (D : DT) (E : Env) (d : Option Nat) (s : List AV) (st : St) (k : KO) (kp : KP) : RO := effK st.H.length (opAlloc ty (evF s x).cells st) d s k kp
noncomputable def hBuild (z : List AV) (ps : List (Nat × Nat × AO)) (C : CSem) (D : DT) (E : Env) (d : Option Nat) (s : List AV) (st : St) (k : KO) (kp : KP) : RO := optK (opBuild z (ps.map fun p => (p.1, p.2.1, (evF s p.2.2).cells))) d s st k
noncomputable def hBsl (own : Bool) (sz n : Nat) (z : List AV) (ps : List (Nat × Nat × AO)) (C : CSem) (D : DT) (E : Env) (d : Option Nat) (s : List AV) (st : St) (k : KO) (kp : KP) : RO := effK (st.H.length + 1) (opBsl own sz n z (ps.map fun p => (p.1, p.2.1, (evF s p.2.2).cells)) st) d s k kp
noncomputable def hLd (n : Option Nat) (x : AO) (C : CSem) (D : DT) (E : Env) (d : Option Nat) (s : List AV) (st : St) (k : KO) (kp : KP) : RO := optK (loadA st n (evF s x)) d s st k
noncomputable def hSt (n : Nat) (p x : AO) (C : CSem) (D : DT) (E : Env) (d : Option Nat) (s : List AV) (st : St) (k : KO) (kp : KP) : RO := effK (touchF (evF s p) st) (opSt E st n (evF s p) (evF s x)) d s k kp
noncomputable def hNck (x : AO) (C : CSem) (D : DT) (E : Env) (d : Option Nat) (s : List AV) (st : St) (k : KO) (kp : KP) : RO := resK (nckA (evF s x) st) d s k kp
noncomputable def hFa (off : Nat) (x : AO) (C : CSem) (D : DT) (E : Env) (d : Option Nat) (s : List AV) (st : St) (k : KO) (kp : KP) : RO := resK (faA off (evF s x) st) d s k kp
noncomputable def hIa (sz : Nat) (x i : AO) (C : CSem) (D : DT) (E : Env) (d : Option Nat) (s : List AV) (st : St) (k : KO) (kp : KP) : RO := resK (iaA sz (evF s x) (evF s i) st) d s k kp
noncomputable def hIaa (len sz : Nat) (x i : AO) (C : CSem) (D : DT) (E : Env) (d : Option Nat) (s : List AV) (st : St) (k : KO) (kp : KP) : RO := calK (aExec tabs C E (.iaa len sz x i) s st) d s k kp
noncomputable def hIxs (x i : AO) (C : CSem) (D : DT) (E : Env) (d : Option Nat) (s : List AV) (st : St) (k : KO) (kp : KP) : RO := resK (ixF (evF s x) (evF s i) st) d s k kp
noncomputable def hFld (off : Nat) (n : Option Nat) (x : AO) (C : CSem) (D : DT) (E : Env) (d : Option Nat) (s : List AV) (st : St) (k : KO) (kp : KP) : RO := resK (fldA off n (evF s x) st) d s k kp
noncomputable def hExt (n : Nat) (x : AO) (C : CSem) (D : DT) (E : Env) (d : Option Nat) (s : List AV) (st : St) (k : KO) (kp : KP) : RO := resK (extA n (evF s x) st) d s k kp
noncomputable def hBin (K : BK) (o : BinOp) (x y : AO) (C : CSem) (D : DT) (E : Env) (d : Option Nat) (s : List AV) (st : St) (k : KO) (kp : KP) : RO := optK (binF K o (evF s x) (evF s y)) d s st k
noncomputable def hUn (o : UnOp) (x : AO) (C : CSem) (D : DT) (E : Env) (d : Option Nat) (s : List AV) (st : St) (k : KO) (kp : KP) : RO := optK (unA o (evF s x)) d s st k
noncomputable def hCvi (j : IntKind) (x : AO) (C : CSem) (D : DT) (E : Env) (d : Option Nat) (s : List AV) (st : St) (k : KO) (kp : KP) : RO := resK (cviA j (evF s x) st) d s k kp
noncomputable def hCvs (x : AO) (C : CSem) (D : DT) (E : Env) (d : Option Nat) (s : List AV) (st : St) (k : KO) (kp : KP) : RO := calK (aExec tabs C E (.cvs x) s st) d s k kp
noncomputable def hMks (sz bytes : Nat) (z : List AV) (l c : AO) (C : CSem) (D : DT) (E : Env) (d : Option Nat) (s : List AV) (st : St) (k : KO) (kp : KP) : RO := calK (aExec tabs C E (.mks sz bytes z l c) s st) d s k kp
noncomputable def hMkh (ty bytes : Nat) (z : List AV) (l c : AO) (C : CSem) (D : DT) (E : Env) (d : Option Nat) (s : List AV) (st : St) (k : KO) (kp : KP) : RO := calK (aExec tabs C E (.mkh ty bytes z l c) s st) d s k kp
noncomputable def hFrz (x : AO) (C : CSem) (D : DT) (E : Env) (d : Option Nat) (s : List AV) (st : St) (k : KO) (kp : KP) : RO := calK (aExec tabs C E (.frz x) s st) d s k kp
noncomputable def hSlc (sz : Option Nat) (x : AO) (lo hi : Option AO) (C : CSem) (D : DT) (E : Env) (d : Option Nat) (s : List AV) (st : St) (k : KO) (kp : KP) : RO := optK (opSlc sz s (evF s x) lo hi) d s st k
noncomputable def hLen (b : Bool) (x : AO) (C : CSem) (D : DT) (E : Env) (d : Option Nat) (s : List AV) (st : St) (k : KO) (kp : KP) : RO := optK (lenA b (evF s x)) d s st k
noncomputable def hApp (sz b : Nat) (x y : AO) (C : CSem) (D : DT) (E : Env) (d : Option Nat) (s : List AV) (st : St) (k : KO) (kp : KP) : RO := effK (st.H.length + 1) (opApp E st sz b (evF s x) (evF s y)) d s k kp
noncomputable def hAppw (sz b : Nat) (x y v i : AO) (C : CSem) (D : DT) (E : Env) (d : Option Nat) (s : List AV) (st : St) (k : KO) (kp : KP) : RO := calK (aExec tabs C E (.appw sz b x y v i) s st) d s k kp
noncomputable def hMini (x y : AO) (C : CSem) (D : DT) (E : Env) (d : Option Nat) (s : List AV) (st : St) (k : KO) (kp : KP) : RO := resK (miniA (evF s x) (evF s y) st) d s k kp
noncomputable def hMki (t : Nat) (x : AO) (C : CSem) (D : DT) (E : Env) (d : Option Nat) (s : List AV) (st : St) (k : KO) (kp : KP) : RO := calK (aExec tabs C E (.mki t x) s st) d s k kp
noncomputable def hMkf (f : Nat) (x y : List AO) (C : CSem) (D : DT) (E : Env) (d : Option Nat) (s : List AV) (st : St) (k : KO) (kp : KP) : RO := calK (aExec tabs C E (.mkf f x y) s st) d s k kp
noncomputable def hMkm  (C : CSem) (D : DT) (E : Env) (d : Option Nat) (s : List AV) (st : St) (k : KO) (kp : KP) : RO := calK (aExec tabs C E .mkm s st) d s k kp
noncomputable def hLkp (str : Bool) (z : AV) (ok : Bool) (m k0 : AO) (C : CSem) (D : DT) (E : Env) (d : Option Nat) (s : List AV) (st : St) (k : KO) (kp : KP) : RO := calK (aExec tabs C E (.lkp str z ok m k0) s st) d s k kp
noncomputable def hUpd (str : Bool) (m k0 v : AO) (C : CSem) (D : DT) (E : Env) (d : Option Nat) (s : List AV) (st : St) (k : KO) (kp : KP) : RO := calK (aExec tabs C E (.upd str m k0 v) s st) d s k kp
noncomputable def hTa (t : Nat) (ok : Bool) (z : AV) (x : AO) (C : CSem) (D : DT) (E : Env) (d : Option Nat) (s : List AV) (st : St) (k : KO) (kp : KP) : RO := calK (aExec tabs C E (.ta t ok z x) s st) d s k kp
noncomputable def hPan (x : AO) (C : CSem) (D : DT) (E : Env) (d : Option Nat) (s : List AV) (st : St) (k : KO) (kp : KP) : RO := calK (aExec tabs C E (.pan x) s st) d s k kp
noncomputable def hCall (tr : Tr) (f : Nat) (args : List AO) (C : CSem) (D : DT) (E : Env) (d : Option Nat) (s : List AV) (st : St) (k : KO) (kp : KP) : RO := calK (D E tr f (args.map (evF s)) st) d s k kp
noncomputable def hCallv (tr : Tr) (f : AO) (args : List AO) (C : CSem) (D : DT) (E : Env) (d : Option Nat) (s : List AV) (st : St) (k : KO) (kp : KP) : RO := calK (aExec tabs C E (.callv tr f args) s st) d s k kp
noncomputable def disp (op : AOp) : HT := AOp.rec (motive := fun _ => HT) hMv hPick hAlloc hBox hBuild hBsl hLd hSt hNck hFa hIa hIaa hIxs hFld hExt hBin hUn hCvi hCvs hMks hMkh hFrz hSlc hLen hApp hAppw hMini hMki hMkf hMkm hLkp hUpd hTa hPan hCall hCallv op
noncomputable def exF (C : CSem) (D : DT) (E : Env) (op : AOp) (d : Option Nat) (s : List AV) (st : St) (k : KO) (kp : KP) : RO := disp op C D E d s st k kp
theorem exF_mv (C : CSem) (D : DT) (E : Env) (x : AO) (d s st k kp) : exF C D E (.mv x) d s st k kp = hMv x C D E d s st k kp := rfl
theorem exF_pick (C : CSem) (D : DT) (E : Env) (c x y : AO) (d s st k kp) : exF C D E (.pick c x y) d s st k kp = hPick c x y C D E d s st k kp := rfl
theorem exF_alloc (C : CSem) (D : DT) (E : Env) (ty : Nat) (z : List AV) (d s st k kp) : exF C D E (.alloc ty z) d s st k kp = hAlloc ty z C D E d s st k kp := rfl
theorem exF_box (C : CSem) (D : DT) (E : Env) (ty : Nat) (x : AO) (d s st k kp) : exF C D E (.box ty x) d s st k kp = hBox ty x C D E d s st k kp := rfl
theorem exF_build (C : CSem) (D : DT) (E : Env) (z : List AV) (ps : List (Nat × Nat × AO)) (d s st k kp) : exF C D E (.build z ps) d s st k kp = hBuild z ps C D E d s st k kp := rfl
theorem exF_bsl (C : CSem) (D : DT) (E : Env) (own : Bool) (sz n : Nat) (z : List AV) (ps : List (Nat × Nat × AO)) (d s st k kp) : exF C D E (.bsl own sz n z ps) d s st k kp = hBsl own sz n z ps C D E d s st k kp := rfl
theorem exF_ld (C : CSem) (D : DT) (E : Env) (n : Option Nat) (x : AO) (d s st k kp) : exF C D E (.ld n x) d s st k kp = hLd n x C D E d s st k kp := rfl
theorem exF_st (C : CSem) (D : DT) (E : Env) (n : Nat) (p x : AO) (d s st k kp) : exF C D E (.st n p x) d s st k kp = hSt n p x C D E d s st k kp := rfl
theorem exF_nck (C : CSem) (D : DT) (E : Env) (x : AO) (d s st k kp) : exF C D E (.nck x) d s st k kp = hNck x C D E d s st k kp := rfl
theorem exF_fa (C : CSem) (D : DT) (E : Env) (off : Nat) (x : AO) (d s st k kp) : exF C D E (.fa off x) d s st k kp = hFa off x C D E d s st k kp := rfl
theorem exF_ia (C : CSem) (D : DT) (E : Env) (sz : Nat) (x i : AO) (d s st k kp) : exF C D E (.ia sz x i) d s st k kp = hIa sz x i C D E d s st k kp := rfl
theorem exF_iaa (C : CSem) (D : DT) (E : Env) (len sz : Nat) (x i : AO) (d s st k kp) : exF C D E (.iaa len sz x i) d s st k kp = hIaa len sz x i C D E d s st k kp := rfl
theorem exF_ixs (C : CSem) (D : DT) (E : Env) (x i : AO) (d s st k kp) : exF C D E (.ixs x i) d s st k kp = hIxs x i C D E d s st k kp := rfl
theorem exF_fld (C : CSem) (D : DT) (E : Env) (off : Nat) (n : Option Nat) (x : AO) (d s st k kp) : exF C D E (.fld off n x) d s st k kp = hFld off n x C D E d s st k kp := rfl
theorem exF_ext (C : CSem) (D : DT) (E : Env) (n : Nat) (x : AO) (d s st k kp) : exF C D E (.ext n x) d s st k kp = hExt n x C D E d s st k kp := rfl
theorem exF_bin (C : CSem) (D : DT) (E : Env) (K : BK) (o : BinOp) (x y : AO) (d s st k kp) : exF C D E (.bin K o x y) d s st k kp = hBin K o x y C D E d s st k kp := rfl
theorem exF_un (C : CSem) (D : DT) (E : Env) (o : UnOp) (x : AO) (d s st k kp) : exF C D E (.un o x) d s st k kp = hUn o x C D E d s st k kp := rfl
theorem exF_cvi (C : CSem) (D : DT) (E : Env) (j : IntKind) (x : AO) (d s st k kp) : exF C D E (.cvi j x) d s st k kp = hCvi j x C D E d s st k kp := rfl
theorem exF_cvs (C : CSem) (D : DT) (E : Env) (x : AO) (d s st k kp) : exF C D E (.cvs x) d s st k kp = hCvs x C D E d s st k kp := rfl
theorem exF_mks (C : CSem) (D : DT) (E : Env) (sz bytes : Nat) (z : List AV) (l c : AO) (d s st k kp) : exF C D E (.mks sz bytes z l c) d s st k kp = hMks sz bytes z l c C D E d s st k kp := rfl
theorem exF_mkh (C : CSem) (D : DT) (E : Env) (ty bytes : Nat) (z : List AV) (l c : AO) (d s st k kp) : exF C D E (.mkh ty bytes z l c) d s st k kp = hMkh ty bytes z l c C D E d s st k kp := rfl
theorem exF_frz (C : CSem) (D : DT) (E : Env) (x : AO) (d s st k kp) : exF C D E (.frz x) d s st k kp = hFrz x C D E d s st k kp := rfl
theorem exF_slc (C : CSem) (D : DT) (E : Env) (sz : Option Nat) (x : AO) (lo hi : Option AO) (d s st k kp) : exF C D E (.slc sz x lo hi) d s st k kp = hSlc sz x lo hi C D E d s st k kp := rfl
theorem exF_len (C : CSem) (D : DT) (E : Env) (b : Bool) (x : AO) (d s st k kp) : exF C D E (.len b x) d s st k kp = hLen b x C D E d s st k kp := rfl
theorem exF_app (C : CSem) (D : DT) (E : Env) (sz b : Nat) (x y : AO) (d s st k kp) : exF C D E (.app sz b x y) d s st k kp = hApp sz b x y C D E d s st k kp := rfl
theorem exF_appw (C : CSem) (D : DT) (E : Env) (sz b : Nat) (x y v i : AO) (d s st k kp) : exF C D E (.appw sz b x y v i) d s st k kp = hAppw sz b x y v i C D E d s st k kp := rfl
theorem exF_mini (C : CSem) (D : DT) (E : Env) (x y : AO) (d s st k kp) : exF C D E (.mini x y) d s st k kp = hMini x y C D E d s st k kp := rfl
theorem exF_mki (C : CSem) (D : DT) (E : Env) (t : Nat) (x : AO) (d s st k kp) : exF C D E (.mki t x) d s st k kp = hMki t x C D E d s st k kp := rfl
theorem exF_mkf (C : CSem) (D : DT) (E : Env) (f : Nat) (x y : List AO) (d s st k kp) : exF C D E (.mkf f x y) d s st k kp = hMkf f x y C D E d s st k kp := rfl
theorem exF_mkm (C : CSem) (D : DT) (E : Env)  (d s st k kp) : exF C D E (.mkm ) d s st k kp = hMkm  C D E d s st k kp := rfl
theorem exF_lkp (C : CSem) (D : DT) (E : Env) (str : Bool) (z : AV) (ok : Bool) (m k0 : AO) (d s st k kp) : exF C D E (.lkp str z ok m k0) d s st k kp = hLkp str z ok m k0 C D E d s st k kp := rfl
theorem exF_upd (C : CSem) (D : DT) (E : Env) (str : Bool) (m k0 v : AO) (d s st k kp) : exF C D E (.upd str m k0 v) d s st k kp = hUpd str m k0 v C D E d s st k kp := rfl
theorem exF_ta (C : CSem) (D : DT) (E : Env) (t : Nat) (ok : Bool) (z : AV) (x : AO) (d s st k kp) : exF C D E (.ta t ok z x) d s st k kp = hTa t ok z x C D E d s st k kp := rfl
theorem exF_pan (C : CSem) (D : DT) (E : Env) (x : AO) (d s st k kp) : exF C D E (.pan x) d s st k kp = hPan x C D E d s st k kp := rfl
theorem exF_call (C : CSem) (D : DT) (E : Env) (tr : Tr) (f : Nat) (args : List AO) (d s st k kp) : exF C D E (.call tr f args) d s st k kp = hCall tr f args C D E d s st k kp := rfl
theorem exF_callv (C : CSem) (D : DT) (E : Env) (tr : Tr) (f : AO) (args : List AO) (d s st k kp) : exF C D E (.callv tr f args) d s st k kp = hCallv tr f args C D E d s st k kp := rfl
theorem exF_eq (D : DT) (hD : ∀ E tr f args st, D E tr f args st = doCall C E tr (.fn f) args st) (op d s st k kp) : exF C D E op d s st k kp = stepK (aExec tabs C E op s st) d s k kp := by
 cases op
 case slc sz x lo hi =>
  simp only [exF_slc, hSlc, optK_eq _ _ _ _ _ kp, opSlc, evF_eq, slF_eq]
  rw [ex_slc]
  congr 1
  cases optN (evA tabs s) 0 lo with
  | none => rfl
  | some a =>
   cases optN (evA tabs s) (lenN (evA tabs s x)) hi with
   | none => rfl
   | some b => rfl
 case app sz b x y =>
  simp only [exF_app, hApp, effK_eq, opApp, evF_eq]
  rw [ex_app]
  congr 1
  rcases appA E st sz b (evA tabs s x) (evA tabs s y) with _ | ⟨v, st'⟩ <;> rfl
 case st n p x =>
  simp only [exF_st, hSt, effK_eq, opSt, evF_eq]
  rw [ex_st]
  congr 1
  cases storeA E st n (evA tabs s p) (evA tabs s x) <;> rfl
 case build z ps =>
  simp only [exF_build, hBuild, optK_eq _ _ _ _ _ kp, opBuild, evF_eq]
  rw [ex_build]
  congr 1
  cases fillA z (ps.map fun p => (p.1, p.2.1, (evA tabs s p.2.2).cells)) <;> rfl
 case bsl own sz n z ps =>
  simp only [exF_bsl, hBsl, effK_eq, opBsl, evF_eq]
  rw [ex_bsl]
  congr 1
  cases fillA z (ps.map fun p => (p.1, p.2.1, (evA tabs s p.2.2).cells)) <;> cases own <;> rfl
 case alloc ty z => simp only [exF_alloc, hAlloc, effK_eq, opAlloc]; rfl
 case box ty x => simp only [exF_box, hBox, effK_eq, opAlloc, evF_eq]; rfl
 case mv x => simp only [exF_mv, hMv, pureK_eq _ _ _ _ _ kp, evF_eq]; rfl
 case pick c x y => simp only [exF_pick, hPick, resK_eq, evF_eq, ex_pick]
 case ixs x i => simp only [exF_ixs, hIxs, resK_eq, evF_eq, ixF_eq, ex_ixs]
 case ld n x => simp only [exF_ld, hLd, optK_eq _ _ _ _ _ kp, evF_eq, ex_ld]
 case bin K o x y => simp only [exF_bin, hBin, optK_eq _ _ _ _ _ kp, evF_eq, binF_eq, ex_bin]
 case un o x => simp only [exF_un, hUn, optK_eq _ _ _ _ _ kp, evF_eq, ex_un]
 case len b x => simp only [exF_len, hLen, optK_eq _ _ _ _ _ kp, evF_eq, ex_len]
 case call tr f args => simp only [exF_call, hCall, calK_eq, evF_eq, ex_call, hD]
 case nck => first | (simp only [exF_nck, hNck, resK_eq, evF_eq]; rfl) | (simp only [exF_nck, hNck, calK_eq])
 case fa => first | (simp only [exF_fa, hFa, resK_eq, evF_eq]; rfl) | (simp only [exF_fa, hFa, calK_eq])
 case ia => first | (simp only [exF_ia, hIa, resK_eq, evF_eq]; rfl) | (simp only [exF_ia, hIa, calK_eq])
 case iaa => first | (simp only [exF_iaa, hIaa, resK_eq, evF_eq]; rfl) | (simp only [exF_iaa, hIaa, calK_eq])
 case fld => first | (simp only [exF_fld, hFld, resK_eq, evF_eq]; rfl) | (simp only [exF_fld, hFld, calK_eq])
 case ext => first | (simp only [exF_ext, hExt, resK_eq, evF_eq]; rfl) | (simp only [exF_ext, hExt, calK_eq])
 case cvi => first | (simp only [exF_cvi, hCvi, resK_eq, evF_eq]; rfl) | (simp only [exF_cvi, hCvi, calK_eq])
 case cvs => first | (simp only [exF_cvs, hCvs, resK_eq, evF_eq]; rfl) | (simp only [exF_cvs, hCvs, calK_eq])
 case mks => first | (simp only [exF_mks, hMks, resK_eq, evF_eq]; rfl) | (simp only [exF_mks, hMks, calK_eq])
 case mkh => first | (simp only [exF_mkh, hMkh, resK_eq, evF_eq]; rfl) | (simp only [exF_mkh, hMkh, calK_eq])
 case frz => first | (simp only [exF_frz, hFrz, resK_eq, evF_eq]; rfl) | (simp only [exF_frz, hFrz, calK_eq])
 case appw => simp only [exF_appw, hAppw, calK_eq]
 case mini => first | (simp only [exF_mini, hMini, resK_eq, evF_eq]; rfl) | (simp only [exF_mini, hMini, calK_eq])
 case mki => first | (simp only [exF_mki, hMki, resK_eq, evF_eq]; rfl) | (simp only [exF_mki, hMki, calK_eq])
 case mkf => first | (simp only [exF_mkf, hMkf, resK_eq, evF_eq]; rfl) | (simp only [exF_mkf, hMkf, calK_eq])
 case mkm => first | (simp only [exF_mkm, hMkm, resK_eq, evF_eq]; rfl) | (simp only [exF_mkm, hMkm, calK_eq])
 case lkp => first | (simp only [exF_lkp, hLkp, resK_eq, evF_eq]; rfl) | (simp only [exF_lkp, hLkp, calK_eq])
 case upd => first | (simp only [exF_upd, hUpd, resK_eq, evF_eq]; rfl) | (simp only [exF_upd, hUpd, calK_eq])
 case ta => first | (simp only [exF_ta, hTa, resK_eq, evF_eq]; rfl) | (simp only [exF_ta, hTa, calK_eq])
 case pan => first | (simp only [exF_pan, hPan, resK_eq, evF_eq]; rfl) | (simp only [exF_pan, hPan, calK_eq])
 case callv => first | (simp only [exF_callv, hCallv, resK_eq, evF_eq]; rfl) | (simp only [exF_callv, hCallv, calK_eq])
noncomputable def wantF (o : AOper) (s : List AV) : Bool := match o.guard with
 | none => true
 | some (t, b) => match lkF s t with
  | .bool c => c == b
  | _ => false
theorem wantF_eq (o s) : wantF o s = wantA o s := by
 unfold wantF wantA
 split
 ·rename_i h; simp [h]
 ·rename_i t b h
  simp only [h, lkF_eq, lk]
  rcases s[t]? with _ | v
  ·rfl
  ·cases v <;> rfl
noncomputable def aOpsF (D : DT) (ops : List AOper) : List AV → St → RO :=
 List.rec (motive := fun _ => List AV → St → RO) (fun s st => some (.ok s, st)) (fun o _ ih s st => match wantF o s with
  | true => exF C D E o.op o.dst s st (fun _ => ih) fun v st' => some (.pan v, st')
  | false => putF o.dst AV.undef s fun s => ih s st) ops
theorem aOpsF_eq (D : DT) (hD : ∀ E tr f args st, D E tr f args st = doCall C E tr (.fn f) args st) : ∀ ops s st, aOpsF C E D ops s st = aOps tabs C E ops s st
 | [], s, st => rfl
 | o :: r, s, st => by
  have hu : aOpsF C E D (o :: r) s st = match wantF o s with
   | true => exF C D E o.op o.dst s st (fun _ => aOpsF C E D r) fun v st' => some (.pan v, st')
   | false => putF o.dst AV.undef s fun s => aOpsF C E D r s st := rfl
  rw [hu, aOps, aStep, wantF_eq]
  by_cases hw : wantA o s = true
  ·simp only [hw, ↓reduceIte, exF_eq C E D hD, stepK]
   rcases aExec tabs C E o.op s st with _ | ⟨v | v, st'⟩
   ·rfl
   ·simp only [obind_some]; exact aOpsF_eq D hD r _ _
   ·rfl
  ·simp only [Bool.not_eq_true] at hw
   simp only [hw, Bool.false_eq_true, ↓reduceIte, putF_eq, obind_some]; exact aOpsF_eq D hD r _ _
noncomputable def aDrawF (D : DT) : Nat → List (AOper × Nat) → List Done → List (Option Nat × St) → List AV → St → RO
  | _, [], _, _, s, st => some (.ok s, st)
  | i, (o, m) :: r, ds, sts, s, st => match wantF o s with
    | true => exF C D E o.op o.dst s st (fun v s' st' => match isEff o.op with
        | true => guardb (ds.all fun d => m.testBit d.i || sameAt tabs C E d.o d.s st' d.v) (aDrawF D (i + 1) r ds ((some i, st') :: sts) s' st')
        | false => match reads o.op with
          | true => guardb (sameBack tabs C E o s v m sts) (aDrawF D (i + 1) r (⟨i, o, s, v⟩ :: ds) sts s' st)
          | false => aDrawF D (i + 1) r ds sts s' st)
      fun v st' => guardb (isEff o.op && aDead tabs C E i r sts s st) (some (.pan v, st'))
    | false => match isEff o.op with
      | true => putF o.dst AV.undef s fun s => aDrawF D (i + 1) r ds ((some i, st) :: sts) s st
      | false => putF o.dst AV.undef s fun s => aDrawF D (i + 1) r ds sts s st
theorem aDrawF_eq (D : DT) (hD : ∀ E tr f args st, D E tr f args st = doCall C E tr (.fn f) args st) : ∀ ops i ds sts s st, aDrawF C E D i ops ds sts s st = aDraw tabs C E i ops ds sts s st
 | [], i, ds, sts, s, st => by simp [aDrawF, aDraw]
 | (o, m) :: r, i, ds, sts, s, st => by
  rw [aDrawF, aDraw, wantF_eq]
  by_cases hw : wantA o s = true
  ·simp only [hw, ↓reduceIte, exF_eq C E D hD, stepK]
   rcases aExec tabs C E o.op s st with _ | ⟨v | v, st'⟩
   ·rfl
   ·simp only [obind_some]
    cases he : isEff o.op
    ·cases hr : reads o.op <;> simp [aDrawF_eq D hD r]
    ·simp [aDrawF_eq D hD r]
   ·rfl
  ·simp only [Bool.not_eq_true] at hw
   simp only [hw, Bool.false_eq_true, ↓reduceIte, putF_eq, aDrawF_eq D hD r]
   cases isEff o.op <;> simp
variable (lf : Nat)
noncomputable def iterF (f : List AV → List Nat → St → RunRes) (n : Nat) : List AV → List Nat → St → RunRes :=
 Nat.rec (motive := fun _ => List AV → List Nat → St → RunRes) (fun _ _ _ => none) (fun _ ih s m st => match f s m st with
  | some (.nrm, s', m', st') => ih s' m' st'
  | r => r) n
theorem iterF_eq (f) : ∀ n s m st, iterF f n s m st = iter f n s m st
 | 0, s, m, st => rfl
 | n + 1, s, m, st => by
  have hu : iterF f (n + 1) s m st = match f s m st with
   | some (.nrm, s', m', st') => iterF f n s' m' st'
   | r => r := rfl
  rw [hu, iter]
  rcases f s m st with _ | ⟨x, s', m', st'⟩
  ·rfl
  ·cases x <;> first | exact iterF_eq f n _ _ _ | rfl
abbrev CT := CSem → DT → Env → Nat → Option Nat → List AV → List Nat → St → RunRes
noncomputable def cSkip : CT := fun _ _ _ _ _ s m st => some (.nrm, s, m, st)
noncomputable def cReg (ops : List AOper) : CT := fun C D E _ _ s m st => match aOpsF C E D ops s st with
  | some (.ok s', st') => some (.nrm, s', m, st')
  | some (.pan v, st') => some (.pan v, s, m, st')
  | none => none
noncomputable def cDreg (ops : List (AOper × Nat)) : CT := fun C D E _ _ s m st => match aDrawF C E D 0 ops [] [(none, st)] s st with
  | some (.ok s', st') => some (.nrm, s', m, st')
  | some (.pan v, st') => some (.pan v, s, m, st')
  | none => none
noncomputable def cSeq (_ _ : ACode) (a b : CT) : CT := fun C D E lf rd s m st => match a C D E lf rd s m st with
  | some (.nrm, s', m', st') => b C D E lf rd s' m' st'
  | r => r
noncomputable def cCond (c : AO) (_ _ : ACode) (x y : CT) : CT := fun C D E lf rd s m st => match evF s c with
  | .bool b => match b with
   | true => x C D E lf rd s m st
   | false => y C D E lf rd s m st
  | _ => none
noncomputable def cBlock (id : Nat) (_ : ACode) (b : CT) : CT := fun C D E lf rd s m st => match b C D E lf rd s m st with
  | some (.exit j, s', m', st') => if j = id then some (.nrm, s', m', st') else some (.exit j, s', m', st')
  | r => r
noncomputable def cScope (_ : ACode) (b : CT) : CT := b
noncomputable def cLoop (_ : ACode) (b : CT) : CT := fun C D E lf rd s m st => iterF (b C D E lf rd) lf s m st
noncomputable def cRf (f : AO) (ps : List Nat) (asg body : ACode) (_ _ : CT) : CT := fun C D E _ rd s m st => rfCall C E rd (evF s f) ps asg body s m st
noncomputable def cExit (id : Nat) : CT := fun _ _ _ _ _ s m st => some (.exit id, s, m, st)
noncomputable def cRet : CT := fun _ _ _ _ _ s m st => some (.ret, s, m, st)
noncomputable def cBad : CT := fun _ _ _ _ _ _ _ _ => none
noncomputable def codeF (c : ACode) : CT := ACode.rec (motive := fun _ => CT) cSkip cReg cDreg cSeq cCond cBlock cScope cLoop cRf cExit cRet cBad c
noncomputable def aRunF (D : DT) (rd : Option Nat) (c : ACode) (s : List AV) (m : List Nat) (st : St) : RunRes := codeF c C D E lf rd s m st
theorem aRunF_eq (D : DT) (hD : ∀ E tr f args st, D E tr f args st = doCall C E tr (.fn f) args st) (rd : Option Nat) : ∀ c s m st, aRunF C E lf D rd c s m st = aRun tabs C E lf rd c s m st := by
 intro c
 induction c with
 | reg ops =>
  intro s m st
  have hu : aRunF C E lf D rd (.reg ops) s m st = cReg ops C D E lf rd s m st := rfl
  rw [hu, cReg, aRun, aOpsF_eq C E D hD]
  rcases aOps tabs C E ops s st with _ | ⟨v | v, st'⟩ <;> rfl
 | dreg ops =>
  intro s m st
  have hu : aRunF C E lf D rd (.dreg ops) s m st = cDreg ops C D E lf rd s m st := rfl
  rw [hu, cDreg, aRun, aDrawF_eq C E D hD]
  rcases aDraw tabs C E 0 ops [] [(none, st)] s st with _ | ⟨v | v, st'⟩ <;> rfl
 | seq a b iha ihb =>
  intro s m st
  have hu : aRunF C E lf D rd (.seq a b) s m st = match aRunF C E lf D rd a s m st with
   | some (.nrm, s', m', st') => aRunF C E lf D rd b s' m' st'
   | r => r := rfl
  rw [hu, aRun, iha]
  rcases aRun tabs C E lf rd a s m st with _ | ⟨x, s', m', st'⟩
  ·rfl
  ·cases x <;> first | exact ihb _ _ _ | rfl
 | cond c x y ihx ihy =>
  intro s m st
  have hu : aRunF C E lf D rd (.cond c x y) s m st = match evF s c with
   | .bool b => match b with
    | true => aRunF C E lf D rd x s m st
    | false => aRunF C E lf D rd y s m st
   | _ => none := rfl
  rw [hu, aRun, ihx, ihy, evF_eq]
  cases evA tabs s c <;> try rfl
  rename_i b
  cases b <;> rfl
 | block id b ih =>
  intro s m st
  have hu : aRunF C E lf D rd (.block id b) s m st = match aRunF C E lf D rd b s m st with
   | some (.exit j, s', m', st') => if j = id then some (.nrm, s', m', st') else some (.exit j, s', m', st')
   | r => r := rfl
  rw [hu, aRun, ih]
  rcases aRun tabs C E lf rd b s m st with _ | ⟨x, s', m', st'⟩
  ·rfl
  ·cases x <;> rfl
 | scope b ih =>
  intro s m st
  have hu : aRunF C E lf D rd (.scope b) s m st = aRunF C E lf D rd b s m st := rfl
  rw [hu, aRun, ih]
 | loop b ih =>
  intro s m st
  have hb : aRunF C E lf D rd b = aRun tabs C E lf rd b := by funext s m st; exact ih s m st
  have hu : aRunF C E lf D rd (.loop b) s m st = iterF (aRunF C E lf D rd b) lf s m st := rfl
  rw [hu, aRun, hb, iterF_eq]
 | rf f ps asg body _ _ =>
  intro s m st
  have hu : aRunF C E lf D rd (.rf f ps asg body) s m st = rfCall C E rd (evF s f) ps asg body s m st := rfl
  rw [hu, aRun, evF_eq]
 | _ => intros; rfl
end
def kwLit : List ByteArray := [⟨#[98, 114, 101, 97, 107]⟩, ⟨#[99, 97, 115, 101]⟩, ⟨#[99, 97, 116, 99, 104]⟩, ⟨#[99, 111, 110, 116, 105, 110, 117, 101]⟩, ⟨#[100, 101, 98, 117, 103, 103, 101, 114]⟩, ⟨#[100, 101, 102, 97, 117, 108, 116]⟩, ⟨#[100, 101, 108, 101, 116, 101]⟩, ⟨#[100, 111]⟩, ⟨#[101, 108, 115, 101]⟩, ⟨#[102, 105, 110, 97, 108, 108, 121]⟩, ⟨#[102, 111, 114]⟩, ⟨#[102, 117, 110, 99, 116, 105, 111, 110]⟩, ⟨#[105, 102]⟩, ⟨#[105, 110]⟩, ⟨#[105, 110, 115, 116, 97, 110, 99, 101, 111, 102]⟩, ⟨#[110, 101, 119]⟩, ⟨#[114, 101, 116, 117, 114, 110]⟩, ⟨#[115, 119, 105, 116, 99, 104]⟩, ⟨#[116, 104, 105, 115]⟩, ⟨#[116, 104, 114, 111, 119]⟩, ⟨#[116, 114, 121]⟩, ⟨#[116, 121, 112, 101, 111, 102]⟩, ⟨#[118, 97, 114]⟩, ⟨#[118, 111, 105, 100]⟩, ⟨#[119, 104, 105, 108, 101]⟩, ⟨#[119, 105, 116, 104]⟩, ⟨#[110, 117, 108, 108]⟩, ⟨#[116, 114, 117, 101]⟩, ⟨#[102, 97, 108, 115, 101]⟩, ⟨#[117, 110, 100, 101, 102, 105, 110, 101, 100]⟩, ⟨#[105, 110, 112, 117, 116]⟩]
def inF (s : List UInt8) : List ByteArray → Bool
 | [] => false
 | w :: r => match beF s w.data.toList with
  | true => true
  | false => inF s r
theorem inF_eq (s : ByteArray) : ∀ l, inF s.data.toList l = decide (s ∈ l)
 | [] => by simp [inF]
 | w :: r => by
  have hd : beF s.data.toList w.data.toList = decide (s = w) := by
   rw [beF_eq]
   exact decide_eq_decide.2 (Iff.of_eq (bytes_eqF s w).symm)
  simp only [inF, hd, inF_eq s r, List.mem_cons]
  by_cases h : s = w <;> simp [h]
theorem kwLit_eq : kwords = kwLit := by decide +kernel
noncomputable def hookF (k : Nat) (C : CSem) : DT := fun E tr f args st => match Nat.beq f 151 with
 | true => match tr with
  | .full => match args with
   | [.str s] => match Nat.ble 300 k && (Nat.ble E.base st.H.length && (Nat.ble E.rob st.H.length && Nat.ble E.rom st.I.length)) with
    | true => some (.ok (.bool (inF s.data.toList kwLit)), st)
    | false => doCall C E .full (.fn f) args st
   | args => doCall C E .full (.fn f) args st
  | tr => doCall C E tr (.fn f) args st
 | false => doCall C E tr (.fn f) args st
theorem hookF_eq (k : Nat) (E : Env) (tr : Tr) (f : Nat) (args : List AV) (st : St) : hookF k (aCall prog k) E tr f args st = doCall (aCall prog k) E tr (.fn f) args st := by
 unfold hookF
 split
 ·rename_i hf
  have hf : f = 151 := Nat.eq_of_beq_eq_true hf
  subst hf
  split
  ·split
   ·rename_i s
    split
    ·rename_i h
     simp only [Bool.and_eq_true, Nat.ble_eq] at h
     obtain ⟨h1, h2, h3, h4⟩ := h
     rw [(f151 s k h1).full rfl ⟨h2, h3, h4⟩, inF_eq, isWord, kwLit_eq]
    ·rfl
   ·rfl
  ·rfl
 ·rfl
noncomputable def fnCallF (C : CSem) (k : Nat) (E : Env) (fn : AFn) (args : List AV) (st : St) : Option (Rt AV × St) :=
 fL1 (args ++ List.replicate (fn.ntmps - args.length) AV.undef) fun s => fSt (st.H.length + 1) st fun st => match aRunF C E k (hookF k C) none fn.body s [] st with
  | some (.nrm, s, m, st') => obind (takeAll st' m) fun st'' => leaveA fn st'' s
  | some (.ret, s, m, st') => obind (takeAll st' m) fun st'' => leaveA fn st'' s
  | some (.pan v, _, m, st') => obind (takeAll st' m) fun st'' => some (.pan v, st'')
  | some (.exit _, _, _, _) => none
  | none => none
noncomputable def aCallF (n : Nat) : CSem :=
 Nat.rec (motive := fun _ => CSem) (fun _ _ _ _ => none) (fun k ih E cal args st => match cal with
  | .yld l => aRound tabs ih E k l args st
  | .fn f => match ovOf f with
   | some g => g ih E args st
   | none => match fnOf f with
    | none => none
    | some fn => fnCallF ih k E fn args st) n
theorem aCallF_eq : ∀ k, aCallF k = aCall prog k
 | 0 => rfl
 | k + 1 => by
  funext E cal args st
  have hu : aCallF (k + 1) E cal args st = match cal with
   | .yld l => aRound tabs (aCallF k) E k l args st
   | .fn f => match ovOf f with
    | some g => g (aCallF k) E args st
    | none => match fnOf f with
     | none => none
     | some fn => fnCallF (aCallF k) k E fn args st := rfl
  rw [hu, aCall, aCallF_eq k]
  cases cal with
  | yld l => rfl
  | fn f =>
   have h1 : prog.ovr f = ovOf f := rfl
   have h2 : prog.fn f = fnOf f := rfl
   simp only [h1, h2]
   cases ovOf f with
   | some g => rfl
   | none =>
    simp only
    cases fnOf f with
    | none => rfl
    | some fn =>
     simp only [fnCallF, fL1_eq, fSt_eq, aRunF_eq _ _ _ _ (hookF_eq k)]
     have h3 : prog.GT = tabs := rfl
     rw [h3]
     rcases aRun tabs (aCall prog k) E k none fn.body (args ++ List.replicate (fn.ntmps - args.length) AV.undef) [] st with _ | ⟨x, s', m', st'⟩
     ·rfl
     ·cases x <;> rfl
def tA : T := .mk 32 ⟨#[]⟩ 0 [.mk 30 ⟨#[97]⟩ 0 [] 1, .mk 41 ⟨#[102]⟩ 0 [.mk 1 ⟨#[98]⟩ 0 [] 1, .mk 32 ⟨#[]⟩ 0 [.mk 36 ⟨#[]⟩ 0 [.mk 18 ⟨#[43]⟩ 0 [.mk 1 ⟨#[97]⟩ 0 [] 1, .mk 1 ⟨#[98]⟩ 0 [] 1] 1] 1] 1] 1] 1
def tB : T := .mk 32 ⟨#[]⟩ 0 [.mk 30 ⟨#[97]⟩ 0 [] 1, .mk 31 ⟨#[]⟩ 0 [.mk 1 ⟨#[120]⟩ 0 [] 2] 2] 1
theorem rqA : resV (resolve tA) = .tup [.sl none 2 [.int .i64 (-1), .str ⟨#[]⟩, .int .i64 0, .sl none 2 [.str ⟨#[97]⟩, .str ⟨#[102]⟩], .int .i64 0, .int .i64 0, .str ⟨#[102]⟩, .int .i64 1, .sl none 1 [.str ⟨#[98]⟩], .int .i64 4], .agg [.int .i64 32, .str ⟨#[]⟩, .int .i64 0, .sl none 2 [.int .i64 30, .str ⟨#[97]⟩, .int .i64 0, .sl none 0 [], .int .i64 1, .int .i64 41, .str ⟨#[102]⟩, .int .i64 1, .sl none 2 [.int .i64 1, .str ⟨#[98]⟩, .int .i64 1000, .sl none 0 [], .int .i64 1, .int .i64 32, .str ⟨#[]⟩, .int .i64 0, .sl none 1 [.int .i64 36, .str ⟨#[]⟩, .int .i64 0, .sl none 1 [.int .i64 18, .str ⟨#[43]⟩, .int .i64 0, .sl none 2 [.int .i64 1, .str ⟨#[97]⟩, .int .i64 0, .sl none 0 [], .int .i64 1, .int .i64 1, .str ⟨#[98]⟩, .int .i64 1000, .sl none 0 [], .int .i64 1], .int .i64 1], .int .i64 1], .int .i64 1], .int .i64 1], .int .i64 1], .int .i64 0, .int .i64 0] := by kernel_rfl
theorem rqB : resV (resolve tB) = .tup [.sl none 0 [], .agg [.int .i64 0, .str ⟨#[]⟩, .int .i64 0, .sl none 0 [], .int .i64 0], .int .i64 2, .int .i64 50] := by kernel_rfl
theorem tA_ok : tA.ok := by simp [tA, T.ok, T.okL, ok64]; decide
theorem tB_ok : tB.ok := by simp [tB, T.ok, T.okL, ok64]; decide
theorem tA_wt : tA.wt ≤ 100 := by decide
theorem tB_wt : tB.wt ≤ 100 := by decide
theorem wt_le (k : Nat) (hk : 5000 ≤ k) (n : Nat) (h : n ≤ 100) : n ≤ 4000000000 ∧ 5 * n + 3000 ≤ k := by omega
theorem k20a (k : Nat) (hk : 5000 ≤ k) (E : Env) (st : St) (h : E.Wf st) : doCall (aCall prog k) E .full (.fn 20) [.agg tA.enc] st = some (.ok (resV (resolve tA)), st) := by
 obtain ⟨h1, h2⟩ := wt_le k hk _ tA_wt
 exact (f20 tA tA_ok h1 k h2).full (by rw [rqA]; rfl) h
theorem k20b (k : Nat) (hk : 5000 ≤ k) (E : Env) (st : St) (h : E.Wf st) : doCall (aCall prog k) E .full (.fn 20) [.agg tB.enc] st = some (.ok (resV (resolve tB)), st) := by
 obtain ⟨h1, h2⟩ := wt_le k hk _ tB_wt
 exact (f20 tB tB_ok h1 k h2).full (by rw [rqB]; rfl) h
theorem AccT.push {m I ts v} (h : AccT m I ts v) (x : Nat × Nat) : AccT m (I ++ [x]) ts v := by
 rcases h with h | ⟨j, e, hj, hi⟩
 ·exact .inl h
 ·exact .inr ⟨j, e, hj, by rw [List.getElem?_append_left (uB hi)]; exact hi⟩
theorem AccT.fin {m I ts v} (h : AccT m I ts v) (q : Nat) (hq : q ≤ m) : v.fin q = .sl none ts.length (T.encL ts) := by
 rcases h with ⟨rfl, rfl⟩ | ⟨j, rfl, hj, hi⟩
 ·rfl
 ·have : ¬ j < q := by omega
  simp [this]
def Tru (st : St) (r : Rt AV) (st' : St) : Prop := ∃ v, r = .ok v ∧ Grow st st' ∧ v.fin st.I.length = .bool true
theorem Tru.of {st st' : St} (h : Grow st st') : Tru st (.ok (.bool true)) st' := ⟨_, rfl, h, rfl⟩
theorem fin_bool_inv {m : Nat} {v : AV} {b : Bool} (h : v.fin m = .bool b) : v = .bool b := by
 cases v
 case bool c => simpa using h
 case sl o n c => cases o <;> simp at h
 all_goals simp at h
abbrev E0 : Env := { base := 0, rob := 0, rom := 0 }
def Says (f : Nat) (args : List AV) : Prop := ∃ k st', aCall prog k E0 (.fn f) args ⟨[], []⟩ = some (.ok (.bool true), st')
theorem wf0 : E0.Wf ⟨[], []⟩ := ⟨Nat.le_refl _, Nat.le_refl _, Nat.le_refl _⟩
theorem says_of {k f : Nat} {args : List AV} (h : CallQ k E0 f args ⟨[], []⟩ fun r st' => ∃ v, r = .ok v ∧ Grow ⟨[], []⟩ st' ∧ v.fin 0 = .bool true) : Says f args := by
 obtain ⟨⟨r, st'⟩, e, v, e1, -, e2⟩ := h
 simp only at e1 e2
 rw [e1, fin_bool_inv e2] at e
 exact ⟨_, _, e⟩
def PureE (k f : Nat) (args : List AV) (P : AV → Prop) : Prop := ∀ E st, E.Wf st → CallQ k E f args st fun r st' => ∃ v, r = .ok v ∧ Grow st st' ∧ P (v.fin st.I.length)
theorem PureE.full {k f args P E st} (h : PureE k f args P) (hr : ∀ w, P w → w.refs = []) (hw : E.Wf st) (hf : args.map AV.arg = args := by simp) : obP (doCall (aCall prog k) E .full (.fn f) args st) fun p => ∃ w, P w ∧ p = (.ok w, st) := by
 obtain ⟨⟨r, st'⟩, e, v, rfl, g, hv⟩ := h _ st hw.based
 simp only [doCall, hf, e, obind_some, hr _ hv, refsLt_nil, guardb_true, okv_eq, pfx_take g.H, pfx_take g.I]
 exact ⟨_, rfl, _, hv, rfl⟩
theorem PureE.call {k f args P E st} {Q : Rt AV × St → Prop} (h : PureE k f args P) (hr : ∀ w, P w → w.refs = []) (hw : E.Wf st) (hf : args.map AV.arg = args) (hq : ∀ w, P w → Q (.ok w, st)) : obP (doCall (aCall prog k) E .full (.fn f) args st) Q :=
 obP_intro (h.full hr hw hf) fun p hp => by obtain ⟨w, hw, rfl⟩ := hp; exact hq w hw
theorem byte_at {t : ByteArray} {i : Nat} (h : i < t.size) : ∃ b, t.data[i]? = some b := ⟨_, Array.getElem?_eq_getElem h⟩
theorem ok64_wrap (n : Int) : ok64 (IntKind.i64.wrap n) := by
 show ok64 (if true && decide (n % 2 ^ 64 ≥ 2 ^ 63) then n % 2 ^ 64 - 2 ^ 64 else n % 2 ^ 64)
 by_cases hc : n % 2 ^ 64 ≥ 2 ^ 63
 ·rw [if_pos (by rw [Bool.true_and]; exact decide_eq_true hc)]; unfold ok64; omega
 ·rw [if_neg (by rw [Bool.true_and]; exact fun h => hc (of_decide_eq_true h))]; unfold ok64; omega
def runL (a : Bool) : List UInt8 → Nat
 | [] => 0
 | b :: r => if isDig b.toNat || (a && isLet b.toNat) then runL a r + 1 else 0
theorem runL_le (a : Bool) : ∀ l, runL a l ≤ l.length
 | [] => by simp [runL]
 | b :: r => by have := runL_le a r; simp only [runL]; split <;> simp; omega
theorem f150 (t : ByteArray) (a : Bool) (ht : t.size ≤ 9223372036854775806) (k : Nat) (hk : t.size + 4 ≤ k) : PureC k 150 [.str t, .bool a] (i64 (runL a t.data.toList)) := by
 intro E st hE
 obtain ⟨k, rfl⟩ := uK (k := k) (by omega)
 refine call_in2 rfl rfl (by decide) fun s hs e0 e1 => ?_
 simp [hs, e0, e1]
 refine WP_loop (fun n s m st' => ∃ i : Nat, i ≤ t.size ∧ n = t.size - i ∧ s.length = 28 ∧ m = [] ∧ st = st' ∧ lk s 0 = .str t ∧ lk s 1 = .bool a ∧ lk s 5 = .int .i64 i ∧ i + runL a (t.data.toList.drop i) = runL a t.data.toList) t.size (by omega) ⟨0, by simp [hs, e0, e1]⟩ ?_
 rintro _ s m _ ⟨i, hi, rfl, hs, rfl, rfl, e0, e1, e5, hn⟩
 by_cases h : i < t.size
 ·obtain ⟨b, hb⟩ : ∃ b, t.data[i]? = some b := ⟨_, Array.getElem?_eq_getElem h⟩
  have hb' : t.data[i]'h = b := by rw [Array.getElem?_eq_getElem h] at hb; simpa using hb
  have h1 := (f152 b.toNat k (by omega)).full (E := E) (st := st) rfl hE
  have h2 := (f149 b.toNat k (by omega)).full (E := E) (st := st) rfl hE
  rw [bytes_drop hb, runL] at hn
  have hw := wrap64 (n := (i : Int) + 1) (by omega)
  cases h3 : isDig b.toNat
  ·cases a
   ·simp [h3] at hn
    simp [hs, e0, e1, e5, h, hb', h1, h3, ← hn, Grow.refl]
   ·cases h4 : isLet b.toNat
    ·simp [h3, h4] at hn
     simp [hs, e0, e1, e5, h, hb', h1, h2, h3, h4, ← hn, Grow.refl]
    ·simp [h3, h4] at hn
     simp [hs, e0, e1, e5, h, hb', h1, h2, h3, h4, hw]
     exact ⟨_, by omega, i + 1, by omega, rfl, by simp [hs], rfl, rfl, by simp [hs, e0], by simp [hs, e1], by simp [hs], by omega⟩
  ·simp [h3] at hn
   simp [hs, e0, e1, e5, h, hb', h1, h3, hw]
   exact ⟨_, by omega, i + 1, by omega, rfl, by simp [hs], rfl, rfl, by simp [hs, e0], by simp [hs, e1], by simp [hs], by omega⟩
 ·rw [List.drop_eq_nil_of_le (by simpa using h), runL] at hn
  simp [hs, e0, e1, e5, h, ← hn, Grow.refl]
def isNB (w : AV) : Prop := ∃ n b, w = .tup [.int .i64 n, .bool b] ∧ ok64 n
theorem f153 (t : ByteArray) (ht : t.size ≤ 9223372036854775806) (k : Nat) (hk : 20 ≤ k) : PureE k 153 [.str t] isNB := by
  intro E st hE
  obtain ⟨k, rfl⟩ := uK (k := k) (by omega)
  refine call_in1 rfl rfl (by decide) fun s hs e0 => ?_
  by_cases h15 : 15 < t.size
  · have h15' : (15 : Int) < t.size := by omega
    simp [hs, e0, h15', Grow.refl, isNB, ok64]
  have h15' : ¬ (15 : Int) < t.size := by omega
  by_cases hret : 1 < t.size ∧ t.data[0]? = some 48
  · have h1' : (1 : Int) < t.size := by omega
    simp [hs, e0, h15', h1', hret.2, Grow.refl, isNB, ok64]
  rw [WP_assoc]
  refine WP_seqM (fun s m st' => m = [] ∧ s.length = 34 ∧ lk s 0 = .str t ∧ st = st') ?_ ?_
  · by_cases h1 : 1 < t.size
    · have h1' : (1 : Int) < t.size := by omega
      obtain ⟨b, hb⟩ : ∃ b, t.data[0]? = some b := ⟨_, Array.getElem?_eq_getElem (by have : 0 < t.size := by omega
                                                                                     exact this)⟩
      have hne : ¬ b.toNat = 48 := fun e => hret ⟨h1, by rw [hb]; congr 1; exact UInt8.toNat_inj.1 (by simpa using e)⟩
      have hne' : ¬ (b.toNat : Int) = 48 := by omega
      simp [hs, e0, h15', h1', hb, hne', nrmQ]
    · have h1' : ¬ (1 : Int) < t.size := by omega
      simp [hs, e0, h15', h1', nrmQ]
  rintro s m _ ⟨rfl, hs, e0, rfl⟩
  simp [hs, e0]
  refine WP_loop (fun n s m st' => ∃ (i : Nat) (x : Int), i ≤ t.size ∧ n = t.size - i ∧ s.length = 34 ∧ m = [] ∧ st = st' ∧ lk s 0 = .str t ∧ lk s 5 = .int .i64 i ∧ lk s 4 = .int .i64 x ∧ ok64 x) t.size (by omega) ⟨0, 0, by simp [hs, e0, ok64]⟩ ?_
  rintro _ s m _ ⟨i, x, hi, rfl, hs, rfl, rfl, e0, e5, e4, hx⟩
  by_cases h : i < t.size
  · obtain ⟨b, hb⟩ : ∃ b, t.data[i]? = some b := ⟨_, Array.getElem?_eq_getElem h⟩
    have hb' : t.data[i]'h = b := by rw [Array.getElem?_eq_getElem h] at hb; simpa using hb
    have hw := wrap64 (n := (i : Int) + 1) (by omega)
    simp [hs, e0, e4, e5, h, hb', hw]
    exact ⟨_, by omega, i + 1, IntKind.i64.wrap (IntKind.i64.wrap (10 * x) + IntKind.i64.wrap (IntKind.u8.wrap (↑b.toNat - 48))), by omega, rfl, by simp [hs], rfl, rfl, by simp [hs, e0], by simp [hs], by simp [hs], ok64_wrap _⟩
  · simp [hs, e0, e4, e5, h, Grow.refl, isNB]
    exact hx
def halfM (c : Int) : Int := if isDig c then IntKind.i64.wrap (IntKind.u8.wrap (c - 48)) else if 97 ≤ c ∧ c ≤ 102 then IntKind.i64.wrap (IntKind.i64.wrap (IntKind.u8.wrap (c - 97)) + 10) else -1
theorem f176 (c : Int) (k : Nat) (hk : 3 ≤ k) : PureC k 176 [.int .u8 c] (.int .i64 (halfM c)) := by
 intro E st hE
 obtain ⟨k, rfl⟩ := uK (k := k) (by omega)
 refine call_in1 rfl rfl (by decide) fun s hs e0 => ?_
 have h1 := (f152 c k (by omega)).full (E := E) (st := st) rfl hE
 cases h : isDig c
 ·simp [hs, e0, h1, h]
  repeat' (first | (with_reducible refine wIf_dec (fun h => ?_) (fun h => ?_)) <;> simp [*])
  all_goals simp [Grow.refl, halfM, *]
 ·simp [hs, e0, h1, h, halfM, Grow.refl]
def isEsc (n : Nat) (w : AV) : Prop := ∃ (c : Int) (i : Nat), w = .tup [.int .u8 c, .int .i64 i] ∧ i ≤ n
theorem f172 (t : ByteArray) (ht : t.size ≤ 9223372036854775806) (k : Nat) (hk : 10 ≤ k) : PureE k 172 [.str t] (isEsc t.size) := by
 intro E st hE
 obtain ⟨k, rfl⟩ := uK (k := k) (by omega)
 refine call_in1 rfl rfl (by decide) fun s hs e0 => ?_
 by_cases h2 : t.size < 2
 ·have h2' : (t.size : Int) < 2 := by omega
  have zero : isEsc t.size (.tup [.int .u8 0, .int .i64 0]) := ⟨0, 0, rfl, by omega⟩
  simp [hs, e0, h2', Grow.refl, zero]
 have h2' : ¬ (t.size : Int) < 2 := by omega
 obtain ⟨b, hb⟩ := byte_at (t := t) (i := 1) (by omega)
 have g1 := fun c => (f176 c k (by omega)).full (E := E) (st := st) rfl hE
 have two : ∀ c, isEsc t.size (.tup [.int .u8 c, .int .i64 2]) := fun c => ⟨c, 2, rfl, by omega⟩
 have zero : ∀ c, isEsc t.size (.tup [.int .u8 c, .int .i64 0]) := fun c => ⟨c, 0, rfl, by omega⟩
 by_cases h4 : 4 ≤ t.size
 ·have h4' : (4 : Int) ≤ t.size := by omega
  obtain ⟨b2, hb2⟩ := byte_at (t := t) (i := 2) (by omega)
  obtain ⟨b3, hb3⟩ := byte_at (t := t) (i := 3) (by omega)
  have four : ∀ c, isEsc t.size (.tup [.int .u8 c, .int .i64 4]) := fun c => ⟨c, 4, rfl, by omega⟩
  simp [hs, e0, h2', hb]
  repeat' (with_reducible refine wIf_dec (fun h => ?_) (fun h => ?_) <;> simp [*, Grow.refl, lk_set])
 ·have h4' : ¬ (4 : Int) ≤ t.size := by omega
  simp [hs, e0, h2', hb]
  repeat' (with_reducible refine wIf_dec (fun h => ?_) (fun h => ?_) <;> simp [*, Grow.refl, lk_set])
def isLen (a b : Nat) (w : AV) : Prop := ∃ i : Nat, w = .int .i64 i ∧ a ≤ i ∧ i ≤ b
theorem f155 (t : ByteArray) (h1 : 1 ≤ t.size) (ht : t.size ≤ 9223372036854775806) (k : Nat) (hk : 10 ≤ k) : PureE k 155 [.str t] (isLen 0 t.size) := by
 intro E st hE
 obtain ⟨k, rfl⟩ := uK (k := k) (by omega)
 refine call_in1 rfl rfl (by decide) fun s hs e0 => ?_
 obtain ⟨b, hb⟩ := byte_at (t := t) (i := 0) (by omega)
 have zero : isLen 0 t.size (.int .i64 0) := ⟨0, rfl, by omega, by omega⟩
 have one : isLen 0 t.size (.int .i64 1) := ⟨1, rfl, by omega, by omega⟩
 by_cases h3 : 3 ≤ t.size
 ·have h3' : (3 : Int) ≤ t.size := by omega
  have h2' : (2 : Int) ≤ t.size := by omega
  have h2 : 2 ≤ t.size := by omega
  have two : isLen 0 t.size (.int .i64 2) := ⟨2, rfl, by omega, by omega⟩
  have three : isLen 0 t.size (.int .i64 3) := ⟨3, rfl, by omega, by omega⟩
  simp [hs, e0, h3', h3]
  repeat' (with_reducible refine wIf_dec (fun h => ?_) (fun h => ?_) <;> simp [*, Grow.refl, lk_set])
 ·have h3' : ¬ (3 : Int) ≤ t.size := by omega
  by_cases h2 : 2 ≤ t.size
  ·have h2' : (2 : Int) ≤ t.size := by omega
   have two : isLen 0 t.size (.int .i64 2) := ⟨2, rfl, by omega, by omega⟩
   simp [hs, e0, h3', h2', h2]
   repeat' (with_reducible refine wIf_dec (fun h => ?_) (fun h => ?_) <;> simp [*, Grow.refl, lk_set])
  ·have h2' : ¬ (2 : Int) ≤ t.size := by omega
   simp [hs, e0, h3', h2', hb]
   repeat' (with_reducible refine wIf_dec (fun h => ?_) (fun h => ?_) <;> simp [*, Grow.refl, lk_set])
theorem bytesA_u8 : ∀ cs : List AV, (∀ c ∈ cs, ∃ n, c = .int .u8 n) → ∃ l, bytesA cs = some l ∧ l.length = cs.length
 | [], _ => ⟨[], rfl, rfl⟩
 | c :: r, h => by
  obtain ⟨n, rfl⟩ := h c (by simp)
  obtain ⟨l, hl, hn⟩ := bytesA_u8 r fun c hc => h c (by simp [hc])
  exact ⟨UInt8.ofNat n.toNat :: l, by simp [bytesA, hl], by simp [hn]⟩
def isTxt (n : Nat) (w : AV) : Prop := ∃ (x : ByteArray) (i : Nat), w = .tup [.str x, .int .i64 i] ∧ i ≤ n ∧ x.size ≤ i
def AccG (m : Nat) (I : List (Nat × Nat)) (sz n : Nat) (cs : List AV) (v : AV) : Prop :=
 (n = 0 ∧ cs = [] ∧ v = .nils) ∨ ∃ i, v = .sl (some i) n cs ∧ m ≤ i ∧ I[i]? = some (n, sz) ∧ cs.length = n * sz
theorem AccG.push {m I sz n cs v} (h : AccG m I sz n cs v) (x : List (Nat × Nat)) : AccG m (I ++ x) sz n cs v := by
 rcases h with h | ⟨j, e, hj, hi, hl⟩
 ·exact .inl h
 ·exact .inr ⟨j, e, hj, by rw [List.getElem?_append_left (uB hi)]; exact hi, hl⟩
theorem AccG.app {E : Env} {m : Nat} {I0 I : List (Nat × Nat)} {sz bytes n k : Nat} {cs ys : List AV} {v y : AV} (h : AccG m I sz n cs v) (hr : E.rom ≤ m) (hm : I0.length = m) (hp : I0 <+: I) (hb : bytes ≤ 1000) (hn : n + k ≤ 1000000000) (hs : srcA sz y = some (k, ys)) (hy : ys.length = k * sz) (H : List ABlk) :
  ∃ v' I', appA E ⟨H, I⟩ sz bytes v y = some (v', ⟨H, I'⟩) ∧ AccG m I' sz (n + k) (cs ++ ys) v' ∧ I0 <+: I' := by
 have hlen := hp.length_le
 have hb1 : ∀ x, x ≤ 1000000000 → x * bytes ≤ 70368744177664 := fun x hx => Nat.le_trans (Nat.mul_le_mul hx hb) (by decide)
 rcases h with ⟨rfl, rfl, rfl⟩ | ⟨j, rfl, hj, hi, hl⟩
 ·by_cases hk : k = 0
  ·subst hk
   have : ys = [] := List.eq_nil_of_length_eq_zero (by simpa using hy)
   subst this
   exact ⟨.nils, I, by simp [appA, hs], .inl ⟨rfl, rfl, rfl⟩, hp⟩
  ·refine ⟨.sl (some I.length) k ys, I ++ [(k, sz)], ?_, .inr ⟨I.length, by simp, by omega, by simp, by simpa using hy⟩, hp.trans (List.prefix_append _ _)⟩
   have h2 : k ≤ 70368744177664 := by omega
   simp [appA, hs, hk, hb1 k (by omega), h2]
 ·have hlt := uB hi
  have h2 : n + k ≤ 70368744177664 := by omega
  have h3 : E.rom ≤ j := by omega
  refine ⟨.sl (some j) (n + k) (cs ++ ys), I.set j (n + k, sz), ?_, .inr ⟨j, rfl, hj, by rw [List.getElem?_set_self hlt], by rw [List.length_append, hl, hy, Nat.add_mul]⟩, ?_⟩
  ·simp [appA, hs, h3, hi, hl, hb1 (n + k) hn, h2]
  ·obtain ⟨r, rfl⟩ := hp
   rw [List.set_append_right _ _ (by omega)]; exact List.prefix_append _ _
theorem srcA_one {sz : Nat} {o : Option Nat} {x : List AV} (hl : x.length = sz) (h1 : x.all AV.one = true) : srcA sz (.sl o 1 x) = some (1, AV.finL 0 x) := by
 simp [srcA, hl, h1]
theorem Grow.of {st st' : St} (h1 : st.H <+: st'.H) (h2 : st.I <+: st'.I) : Grow st st' := ⟨h1, h2⟩
def isU8 (c : AV) : Prop := ∃ n, c = .int .u8 n
def J154 (t : ByteArray) (st : St) (n : Nat) (s : List AV) (m : List Nat) (st' : St) : Prop :=
 ∃ (i j : Nat) (cs : List AV), 1 ≤ i ∧ i ≤ t.size ∧ n = t.size - i ∧ s.length = 66 ∧ m = [] ∧ Grow st st' ∧ lk s 0 = .str t ∧ lk s 5 = .int .i64 i ∧ j + 1 ≤ i ∧ AccG st.I.length st'.I 1 j cs (lk s 4) ∧ ∀ c ∈ cs, isU8 c
theorem f154 (t : ByteArray) (h1 : 1 ≤ t.size) (ht : t.size ≤ 1000000) (k : Nat) (hk : t.size + 20 ≤ k) : PureE k 154 [.str t] (isTxt t.size) := by
 intro E st hE
 obtain ⟨k, rfl⟩ := uK (k := k) (by omega)
 refine call_in1 rfl rfl (by decide) fun s hs e0 => ?_
 obtain ⟨b0, hb0⟩ := byte_at (t := t) (i := 0) (by omega)
 have none0 : isTxt t.size (.tup [.str ⟨#[]⟩, .int .i64 0]) := ⟨⟨#[]⟩, 0, rfl, by omega, by simp [ByteArray.size]⟩
 simp [hs, e0]
 refine WP_loop (J154 t st) (t.size - 1) (by omega) ⟨1, 0, [], by omega, by omega, rfl, by simp [hs], rfl, .refl _, by simp [hs, e0], by simp [hs], by omega, .inl ⟨rfl, rfl, by simp [hs]⟩, by simp⟩ ?_
 rintro _ s m st' ⟨i, j, cs, hi1, hi, rfl, hs, rfl, hg, e0, e5, hj, ho, hcs⟩
 obtain ⟨v, e4⟩ : ∃ v, lk s 4 = v := ⟨_, rfl⟩
 rw [e4] at ho
 have hE' := hE.grow hg
 by_cases h : i < t.size
 ·obtain ⟨b, hb⟩ := byte_at h
  have hb' : t.data[i]'h = b := by rw [Array.getElem?_eq_getElem h] at hb; simpa using hb
  have hw := wrap64 (n := (i : Int) + 1) (by omega)
  by_cases q0 : b = b0
  ·subst q0
   have hge : ¬ (t.size : Int) ≤ i := by omega
   obtain ⟨l, hl, hll⟩ := bytesA_u8 cs hcs
   have hfin : isTxt t.size (.tup [.str ⟨l.toArray⟩, .int .i64 (i + 1)]) := ⟨_, i + 1, rfl, by omega, by
    have : cs.length = j := by
     rcases ho with ⟨rfl, rfl, _⟩ | ⟨_, _, _, _, h⟩
     ·rfl
     ·omega
    simp [ByteArray.size]; omega⟩
   have hfin0 : cs = [] → isTxt t.size (.tup [.str ⟨#[]⟩, .int .i64 (i + 1)]) := fun e => ⟨⟨#[]⟩, i + 1, rfl, by omega, by simp [ByteArray.size]⟩
   rcases ho with ⟨rfl, rfl, rfl⟩ | ⟨q, rfl, hq1, hq2, hq3⟩
   ·simp [hs, e0, e4, e5, h, hb', hb0, hge, cvsA, hw, hg, hfin0]
   ·have hq3' : cs.length = j := by omega
    simp [hs, e0, e4, e5, h, hb', hb0, hge, cvsA, hw, hg, hq3', hl, hfin]
  have q0' : ¬ (b.toNat : Int) = b0.toNat := fun e => q0 (UInt8.toNat_inj.1 (by omega))
  have app : ∀ c : Int, ∃ v' I', appA E ⟨st'.H, st'.I ++ [(1, 1)]⟩ 1 1 v (.sl (some st'.I.length) 1 [.int .u8 c]) = some (v', ⟨st'.H, I'⟩) ∧ AccG st.I.length I' 1 (j + 1) (cs ++ [.int .u8 c]) v' ∧ st.I <+: I' := fun c =>
   (ho.push [(1, 1)]).app hE.rom rfl (hg.I.trans (List.prefix_append _ _)) (by omega) (by omega) (srcA_one rfl rfl) rfl st'.H
  have u8s : ∀ c : Int, ∀ x ∈ cs ++ [AV.int .u8 c], isU8 x := fun c x hx => by
   rcases List.mem_append.1 hx with hx | hx
   ·exact hcs x hx
   ·exact ⟨c, by simpa using hx⟩
  by_cases c1 : (b.toNat : Int) < 32
  ·simp [hs, e0, e4, e5, h, hb', hb0, q0', c1, none0, hg]
  by_cases c2 : (126 : Int) < b.toNat
  ·simp [hs, e0, e4, e5, h, hb', hb0, q0', c1, c2, none0, hg]
  by_cases c3 : (b.toNat : Int) = 92
  ·have hsub : (t.extract i t.size).size = t.size - i := by simp [ByteArray.size_extract]
   rw [c3] at q0'
   simp [hs, e0, e4, e5, h, hb', hb0, q0', c3, hi]
   refine (f172 (t.extract i t.size) (by omega) k (by omega)).call (by rintro _ ⟨c, n, rfl, _⟩; rfl) hE' rfl ?_
   rintro _ ⟨c, n, rfl, hn⟩
   rw [hsub] at hn
   by_cases hn0 : n = 0
   ·subst hn0
    simp [hs, e0, e4, e5, none0, hg]
   ·have hn0' : ¬ (n : Int) = 0 := by omega
    obtain ⟨v', I', ha1, ha2, ha3⟩ := app c
    have hw2 := wrap64 (n := (i : Int) + n) (by omega)
    simp [hs, e0, e4, e5, hn0, fillA, wrC, ha1, hw2]
    exact ⟨_, by omega, i + n, j + 1, _, by omega, by omega, rfl, by simp [hs], rfl, .of hg.H ha3, by simp [hs, e0], by simp [hs], by omega, by simpa [hs] using ha2, u8s c⟩
  ·obtain ⟨v', I', ha1, ha2, ha3⟩ := app b.toNat
   simp [hs, e0, e4, e5, h, hb', hb0, q0', c1, c2, c3, fillA, wrC, ha1, hw]
   exact ⟨_, by omega, i + 1, j + 1, _, by omega, by omega, rfl, by simp [hs], rfl, .of hg.H ha3, by simp [hs, e0], by simp [hs], by omega, by simpa [hs] using ha2, u8s _⟩
 ·have hge : (t.size : Int) ≤ i := by omega
  simp [hs, e0, e4, e5, h, hge, none0, hg]
def isBlk (n : Nat) (w : AV) : Prop := w = .int .i64 (-1) ∨ isLen 0 n w
theorem f109 (t : ByteArray) (h1 : 1 ≤ t.size) (ht : t.size ≤ 1000000) (k : Nat) (hk : t.size + 20 ≤ k) : PureE k 109 [.str t] (isBlk t.size) := by
 intro E st hE
 obtain ⟨k, rfl⟩ := uK (k := k) (by omega)
 refine call_in1 rfl rfl (by decide) fun s hs e0 => ?_
 obtain ⟨b, hb⟩ := byte_at (t := t) (i := 0) (by omega)
 have len : ∀ i : Nat, i ≤ t.size → isBlk t.size (.int .i64 i) := fun i hi => .inr ⟨i, rfl, by omega, hi⟩
 have one := len 1 (by omega)
 have zero := len 0 (by omega)
 have minus : isBlk t.size (.int .i64 (-1)) := .inl rfl
 simp only [Int.natCast_zero, Int.natCast_one] at zero one
 by_cases hq : b.toNat = 32 ∨ b.toNat = 9 ∨ b.toNat = 13 ∨ b.toNat = 10
 ·simp [hs, e0, hb]
  repeat' (with_reducible refine wIf_dec (fun h => ?_) (fun h => ?_) <;> simp [*, Grow.refl, lk_set])
  all_goals omega
 have q1 : ¬ (b.toNat : Int) = 32 := by omega
 have q2 : ¬ (b.toNat : Int) = 9 := by omega
 have q3 : ¬ (b.toNat : Int) = 13 := by omega
 have q4 : ¬ (b.toNat : Int) = 10 := by omega
 by_cases h2 : t.size < 2
 ·have h2' : (t.size : Int) < 2 := by omega
  simp [hs, e0, hb, q1, q2, q3, q4, h2', Grow.refl, zero]
 have h2' : ¬ (t.size : Int) < 2 := by omega
 by_cases q5 : (b.toNat : Int) = 47
 rotate_left
 ·simp [hs, e0, hb, q1, q2, q3, q4, q5, h2', Grow.refl, zero]
 obtain ⟨c, hc⟩ := byte_at (t := t) (i := 1) (by omega)
 by_cases q6 : ¬ (c.toNat : Int) = 47 ∧ ¬ (c.toNat : Int) = 42
 ·simp [hs, e0, hb, q5, h2', hc, q6.1, q6.2, Grow.refl, zero]
 have q6' : ¬ ¬ ((c.toNat : Int) = 47 ∨ (c.toNat : Int) = 42) := fun h => q6 ⟨fun e => h (.inl e), fun e => h (.inr e)⟩
 rcases Decidable.not_not.1 q6' with q7 | q7
 ·simp [hs, e0, hb, q5, h2', hc, q7]
  refine WP_loop (fun n s m st' => ∃ i : Nat, 2 ≤ i ∧ i ≤ t.size ∧ n = t.size - i ∧ s.length = 86 ∧ m = [] ∧ st = st' ∧ lk s 0 = .str t ∧ lk s 3 = .int .i64 i) (t.size - 2) (by omega) ⟨2, by omega, by omega, rfl, by simp [hs], rfl, rfl, by simp [hs, e0], by simp [hs]⟩ ?_
  rintro _ s m _ ⟨i, hi2, hi, rfl, hs, rfl, rfl, e0, e3⟩
  by_cases h : i < t.size
  ·obtain ⟨d, hd⟩ := byte_at h
   have hd' : t.data[i]'h = d := by rw [Array.getElem?_eq_getElem h] at hd; simpa using hd
   have hw := wrap64 (n := (i : Int) + 1) (by omega)
   by_cases q8 : (d.toNat : Int) = 10
   ·simp [hs, e0, e3, h, hc, q7, hd', q8, Grow.refl, len i hi]
   ·simp [hs, e0, e3, h, hc, q7, hd', q8, hw]
    exact ⟨_, by omega, i + 1, by omega, by omega, rfl, by simp [hs], rfl, rfl, by simp [hs, e0], by simp [hs]⟩
  ·have hl := len t.size (by omega)
   simp [hs, e0, e3, h, hc, q7, Grow.refl, hl]
 ·simp [hs, e0, hb, q5, h2', hc, q7]
  refine WP_loop (fun n s m st' => ∃ i : Nat, 2 ≤ i ∧ i ≤ t.size ∧ n = t.size - i ∧ s.length = 86 ∧ m = [] ∧ st = st' ∧ lk s 0 = .str t ∧ lk s 3 = .int .i64 i) (t.size - 2) (by omega) ⟨2, by omega, by omega, rfl, by simp [hs], rfl, rfl, by simp [hs, e0], by simp [hs]⟩ ?_
  rintro _ s m _ ⟨i, hi2, hi, rfl, hs, rfl, rfl, e0, e3⟩
  by_cases h : i < t.size
  ·obtain ⟨d, hd⟩ := byte_at h
   have hd' : t.data[i]'h = d := by rw [Array.getElem?_eq_getElem h] at hd; simpa using hd
   have hw := wrap64 (n := (i : Int) + 1) (by omega)
   by_cases h3 : i + 1 < t.size
   ·obtain ⟨e, he⟩ := byte_at h3
    have he' : t.data[i + 1]'h3 = e := by rw [Array.getElem?_eq_getElem h3] at he; simpa using he
    have h3' : (i : Int) + 1 < t.size := by omega
    have hw3 := wrap64 (n := (i : Int) + 2) (by omega)
    have ht1 : ((i : Int) + 1).toNat = i + 1 := by omega
    have h0 : (0 : Int) ≤ (i : Int) + 1 := by omega
    by_cases q8 : (d.toNat : Int) = 42
    ·by_cases q9 : (e.toNat : Int) = 47
     ·simp [hs, e0, e3, h, hc, q7, hd', q8, hw, h3', he, q9, hw3, ht1, h0, Grow.refl]
      exact len (i + 2) (by omega)
     ·simp [hs, e0, e3, h, hc, q7, hd', q8, hw, h3', he, q9, hw3, ht1, h0]
      exact ⟨_, by omega, i + 1, by omega, by omega, rfl, by simp [hs], rfl, rfl, by simp [hs, e0], by simp [hs]⟩
    ·simp [hs, e0, e3, h, hc, q7, hd', q8, hw, h3']
     exact ⟨_, by omega, i + 1, by omega, by omega, rfl, by simp [hs], rfl, rfl, by simp [hs, e0], by simp [hs]⟩
   ·have h3' : ¬ (i : Int) + 1 < t.size := by omega
    simp [hs, e0, e3, h, hc, q7, hd', hw, h3']
    exact ⟨_, by omega, i + 1, by omega, by omega, rfl, by simp [hs], rfl, rfl, by simp [hs, e0], by simp [hs]⟩
  ·simp [hs, e0, e3, h, hc, q7, Grow.refl, minus]
structure Tk where
 kind : Int
 s : ByteArray
 n : Int
 line : Int
 nl : Bool
def Tk.enc (t : Tk) : List AV := [.int .i64 t.kind, .str t.s, .int .i64 t.n, .int .i64 t.line, .bool t.nl]
def Tk.encL : List Tk → List AV
 | [] => []
 | t :: r => t.enc ++ Tk.encL r
def Tk.ok (t : Tk) : Prop := ok64 t.kind ∧ ok64 t.n ∧ ok64 t.line ∧ t.s.size ≤ 1000000
def isOne (n : Nat) (w : AV) : Prop := ∃ (t : Tk) (i : Nat) (e : Int), w = .tup [.agg t.enc, .int .i64 i, .int .i64 e] ∧ t.ok ∧ ok64 e ∧ (e = 0 → 1 ≤ i ∧ i ≤ n ∧ t.s.size ≤ i)
theorem isOne.err (n : Nat) (e : Int) (he : ok64 e) (h0 : e ≠ 0) : isOne n (.tup [.agg [.int .i64 0, .str ⟨#[]⟩, .int .i64 0, .int .i64 0, .bool false], .int .i64 0, .int .i64 e]) :=
 ⟨⟨0, ⟨#[]⟩, 0, 0, false⟩, 0, e, rfl, ⟨by simp [ok64], by simp [ok64], by simp [ok64], by simp [ByteArray.size]⟩, he, fun h => absurd h h0⟩
theorem isOne.is {n : Nat} {kd x : Int} {u : ByteArray} {i : Nat} (hk : ok64 kd) (hx : ok64 x) (hn : n ≤ 1000000) (h1 : 1 ≤ i) (h2 : i ≤ n) (h3 : u.size ≤ i) : isOne n (.tup [.agg [.int .i64 kd, .str u, .int .i64 x, .int .i64 0, .bool false], .int .i64 i, .int .i64 0]) :=
 ⟨⟨kd, u, x, 0, false⟩, i, 0, rfl, ⟨hk, hx, by simp [ok64], by simp only; omega⟩, by unfold ok64; omega, fun _ => ⟨h1, h2, h3⟩⟩
theorem f110 (t : ByteArray) (h1 : 1 ≤ t.size) (ht : t.size ≤ 1000000) (k : Nat) (hk : t.size + 1100 ≤ k) : PureE k 110 [.str t] (isOne t.size) := by
 intro E st hE
 obtain ⟨k, rfl⟩ := uK (k := k) (by omega)
 refine call_in1 rfl rfl (by decide) fun s hs e0 => ?_
 have hE' : E.Wf ⟨st.H ++ [.cells 130 [.int .i64 0, .str ⟨#[]⟩, .int .i64 0, .int .i64 0, .bool false]], st.I⟩ := hE.of (by simp) (by simp)
 obtain ⟨b, hb⟩ := byte_at (t := t) (i := 0) (by omega)
 have g149 := (f149 b.toNat k (by omega)).full (E := E) rfl hE'
 have g152 := (f152 b.toNat k (by omega)).full (E := E) rfl hE'
 have g150 := fun a => (f150 t a (by omega) k (by omega)).full (E := E) rfl hE'
 have hd0 : t.data.toList = b :: t.data.toList.drop 1 := bytes_drop hb
 have hle := fun a => runL_le a t.data.toList
 have hsz : t.data.toList.length = t.size := Array.length_toList
 rw [hsz] at hle
 have mw := mayWrite_new hE st.H.length [.int .i64 0, .str ⟨#[]⟩, .int .i64 0, .int .i64 0, .bool false]
 have ex : ∀ n : Nat, n ≤ t.size → (t.extract 0 n).size = n := fun n hn => by rw [ByteArray.size_extract]; omega
 cases h3 : isLet b.toNat
 ·cases h4 : isDig b.toNat
  ·by_cases hq : b.toNat = 34 ∨ b.toNat = 39
   ·have hq' : (b.toNat : Int) = 34 ∨ ¬ (b.toNat : Int) = 34 ∧ (b.toNat : Int) = 39 := by omega
    rcases hq' with hq' | ⟨hq1, hq'⟩
    ·have g1 : isLet 34 = false := by decide
     have g2 : isDig 34 = false := by decide
     rw [hq'] at g149 g152
     simp [hs, e0, hb, g149, g152, hq', g1, g2]
     refine (f154 t h1 (by omega) k (by omega)).call (by rintro _ ⟨x, n, rfl, _⟩; rfl) hE' rfl ?_
     rintro _ ⟨x, n, rfl, hn1, hn2⟩
     by_cases hn : n = 0
     ·simp [hs, e0, hn, storeA, fillA, wrC, mw, isOne.err _ 22 (by unfold ok64; omega) (by omega), Grow.appH]
     ·have hi := isOne.is (n := t.size) (kd := 4) (x := 0) (u := x) (i := n) (by unfold ok64; omega) (by unfold ok64; omega) ht (by omega) hn1 hn2
      simp [hs, e0, hn, storeA, fillA, wrC, mw, hi, Grow.appH]
    ·have g1 : isLet 39 = false := by decide
     have g2 : isDig 39 = false := by decide
     rw [hq'] at g149 g152
     simp [hs, e0, hb, g149, g152, hq', g1, g2]
     refine (f154 t h1 (by omega) k (by omega)).call (by rintro _ ⟨x, n, rfl, _⟩; rfl) hE' rfl ?_
     rintro _ ⟨x, n, rfl, hn1, hn2⟩
     by_cases hn : n = 0
     ·simp [hs, e0, hn, storeA, fillA, wrC, mw, isOne.err _ 22 (by unfold ok64; omega) (by omega), Grow.appH]
     ·have hi := isOne.is (n := t.size) (kd := 4) (x := 0) (u := x) (i := n) (by unfold ok64; omega) (by unfold ok64; omega) ht (by omega) hn1 hn2
      simp [hs, e0, hn, storeA, fillA, wrC, mw, hi, Grow.appH]
   ·have q1 : ¬ (b.toNat : Int) = 34 := by omega
    have q2 : ¬ (b.toNat : Int) = 39 := by omega
    simp [hs, e0, hb, g149, g152, h3, h4, q1, q2]
    refine (f155 t h1 (by omega) k (by omega)).call (by rintro _ ⟨n, rfl, _⟩; rfl) hE' rfl ?_
    rintro _ ⟨n, rfl, hn1, hn2⟩
    by_cases hn : n = 0
    ·simp [hs, e0, hn, storeA, fillA, wrC, mw, isOne.err _ 21 (by unfold ok64; omega) (by omega), Grow.appH]
    ·have hi := isOne.is (n := t.size) (kd := 5) (x := 0) (u := t.extract 0 n) (i := n) (by unfold ok64; omega) (by unfold ok64; omega) ht (by omega) hn2 (by rw [ex n hn2]; omega)
     simp [hs, e0, hn, storeA, fillA, wrC, mw, hn2, hi, Grow.appH]
  ·have hr : 1 ≤ runL false t.data.toList := by rw [hd0, runL]; simp [h4]
   have hi := fun x hx => isOne.is (n := t.size) (kd := 3) (x := x) (u := ⟨#[]⟩) (i := runL false t.data.toList) (by unfold ok64; omega) hx ht hr (hle false) (by simp [ByteArray.size])
   obtain ⟨r, hr0⟩ : ∃ r, runL false t.data.toList = r := ⟨_, rfl⟩
   have hl := hle false
   rw [hr0] at hr hi hl
   have g53 : ∀ {Q : Rt AV × St → Prop}, (∀ n b, ok64 n → Q (.ok (.tup [.int .i64 n, .bool b]), _)) → obP (doCall (aCall prog k) E .full (.fn 153) [.str (t.extract 0 r)] _) Q := fun {Q} hq =>
    (f153 (t.extract 0 r) (by rw [ex r hl]; omega) k (by omega)).call (by rintro _ ⟨n, b, rfl, _⟩; rfl) hE' rfl (by rintro _ ⟨n, b, rfl, h⟩; exact hq n b h)
   have dot : (r < t.size ∧ ∃ c, t.data[r]? = some c ∧ (c.toNat : Int) = 46) ∨ ((¬ r < t.size) ∨ (r < t.size ∧ ∃ c, t.data[r]? = some c ∧ ¬ (c.toNat : Int) = 46)) := by
    by_cases h : r < t.size
    ·obtain ⟨c, hc⟩ := byte_at h
     by_cases h2 : (c.toNat : Int) = 46
     ·exact .inl ⟨h, c, hc, h2⟩
     ·exact .inr (.inr ⟨h, c, hc, h2⟩)
    ·exact .inr (.inl h)
   rcases dot with ⟨hlt, c, hc, hc2⟩ | hlt | ⟨hlt, c, hc, hc2⟩
   ·have hc' : t.data[r]'hlt = c := by rw [Array.getElem?_eq_getElem hlt] at hc; simpa using hc
    simp [hs, e0, hb, g149, g152, h3, h4, g150, hr0, hlt, hc', hc2, storeA, fillA, wrC, mw, isOne.err _ 25 (by unfold ok64; omega) (by omega), Grow.appH]
   ·simp [hs, e0, hb, g149, g152, h3, h4, g150, hr0, hlt, hl]
    refine g53 fun x b2 hx => ?_
    cases b2
    ·simp [hs, e0, storeA, fillA, wrC, mw, isOne.err _ 24 (by unfold ok64; omega) (by omega), Grow.appH]
    ·by_cases hne : (runL true t.data.toList : Int) = r
     ·simp [hs, e0, g150, hne, storeA, fillA, wrC, mw, hi x hx, Grow.appH]
     ·simp [hs, e0, g150, hne, storeA, fillA, wrC, mw, isOne.err _ 24 (by unfold ok64; omega) (by omega), Grow.appH]
   ·have hc' : t.data[r]'hlt = c := by rw [Array.getElem?_eq_getElem hlt] at hc; simpa using hc
    simp [hs, e0, hb, g149, g152, h3, h4, g150, hr0, hlt, hc', hc2, hl]
    refine g53 fun x b2 hx => ?_
    cases b2
    ·simp [hs, e0, storeA, fillA, wrC, mw, isOne.err _ 24 (by unfold ok64; omega) (by omega), Grow.appH]
    ·by_cases hne : (runL true t.data.toList : Int) = r
     ·simp [hs, e0, g150, hne, storeA, fillA, wrC, mw, hi x hx, Grow.appH]
     ·simp [hs, e0, g150, hne, storeA, fillA, wrC, mw, isOne.err _ 24 (by unfold ok64; omega) (by omega), Grow.appH]
 ·have hr : 1 ≤ runL true t.data.toList := by rw [hd0, runL]; simp [h3]
  have hi := fun kd hkd => isOne.is (n := t.size) (kd := kd) (x := 0) (u := t.extract 0 (runL true t.data.toList)) (i := runL true t.data.toList) hkd (by unfold ok64; omega) ht hr (hle true) (by rw [ex _ (hle true)]; omega)
  have g151 := (f151 (t.extract 0 (runL true t.data.toList)) k (by omega)).full (E := E) rfl hE'
  cases h5 : isWord (t.extract 0 (runL true t.data.toList))
  ·simp [hs, e0, hb, g149, h3, g150, hle true, g151, h5, storeA, fillA, wrC, mw, hi 1 (by unfold ok64; omega), Grow.appH]
  ·simp [hs, e0, hb, g149, h3, g150, hle true, g151, h5, storeA, fillA, wrC, mw, hi 2 (by unfold ok64; omega), Grow.appH]
attribute [simp] Tk.encL
theorem Tk.encL_app : ∀ a b : List Tk, Tk.encL (a ++ b) = Tk.encL a ++ Tk.encL b
 | [], b => by simp
 | t :: r, b => by simp [Tk.encL_app r b]
theorem Tk.encL_len : ∀ l : List Tk, (Tk.encL l).length = l.length * 5
 | [] => by simp
 | t :: r => by simp [Tk.encL_len r, Tk.enc]; omega
theorem Tk.encL_fin (m : Nat) : ∀ l : List Tk, AV.finL m (Tk.encL l) = Tk.encL l
 | [] => by simp
 | t :: r => by rw [Tk.encL, finL_append, Tk.encL_fin m r]; simp [Tk.enc]
theorem Tk.encL_refs : ∀ l : List Tk, AV.refsL (Tk.encL l) = []
 | [] => by simp
 | t :: r => by rw [Tk.encL, refsL_append, Tk.encL_refs r]; simp [Tk.enc]
def Tk.pot : List Tk → Nat
 | [] => 0
 | t :: r => 32 + t.s.size + Tk.pot r
theorem Tk.pot_app : ∀ a b : List Tk, Tk.pot (a ++ b) = Tk.pot a + Tk.pot b
 | [], b => by simp [Tk.pot]
 | t :: r, b => by simp only [List.cons_append, Tk.pot, Tk.pot_app r b]; omega
def isToks (n : Nat) (w : AV) : Prop := ∃ l : List Tk, w = .sl none l.length (Tk.encL l) ∧ (∀ t ∈ l, t.ok) ∧ Tk.pot l ≤ 33 * n
theorem isToks.nil (n : Nat) : isToks n (.sl none 0 []) := ⟨[], rfl, by simp, by simp [Tk.pot]⟩
def isLex (n : Nat) (w : AV) : Prop := ∃ v a e, w = .tup [v, .int .i64 a, .int .i64 e] ∧ isToks n v
theorem isLex.err (n : Nat) (a e : Int) : isLex n (.tup [.sl none 0 [], .int .i64 a, .int .i64 e]) := ⟨_, a, e, rfl, .nil n⟩
def J75 (t : ByteArray) (st : St) (n : Nat) (s : List AV) (m : List Nat) (st' : St) : Prop :=
 ∃ (p : Nat) (l : List Tk) (line : Int) (nl : Bool), p ≤ t.size ∧ n = t.size - p ∧ s.length = 75 ∧ m = [] ∧ Grow st st' ∧ lk s 0 = .str t ∧ lk s 8 = .int .i64 p ∧ lk s 6 = .int .i64 line ∧ lk s 7 = .bool nl ∧ ok64 line ∧
  AccG st.I.length st'.I 5 l.length (Tk.encL l) (lk s 5) ∧ (∀ t ∈ l, t.ok) ∧ Tk.pot l ≤ 33 * p
def J75i (t : ByteArray) (st' : St) (v : AV) (p q n : Nat) (s : List AV) (m : List Nat) (st2 : St) : Prop :=
 ∃ (i : Nat) (line : Int) (nl : Bool), p ≤ i ∧ i ≤ p + q ∧ n = p + q - i ∧ s.length = 75 ∧ m = [] ∧ st' = st2 ∧ lk s 0 = .str t ∧ lk s 8 = .int .i64 p ∧ lk s 9 = .int .i64 q ∧ lk s 10 = .int .i64 i ∧ lk s 6 = .int .i64 line ∧ lk s 7 = .bool nl ∧ ok64 line ∧ lk s 5 = v
theorem f75 (t : ByteArray) (ht : t.size ≤ 60000) (k : Nat) (hk : t.size + 1200 ≤ k) : PureE k 75 [.str t] (isLex t.size) := by
  intro E st hE
  obtain ⟨k, rfl⟩ := uK (k := k) (by omega)
  refine call_in1 rfl rfl (by decide) fun s hs e0 => ?_
  have hlong : ¬ (65536 : Int) < t.size := by omega
  simp [hs, e0, hlong]
  refine WP_loop (J75 t st) t.size (by omega) ⟨0, [], 1, false, by omega, rfl, by simp [hs], rfl, .refl _, by simp [hs, e0], by simp [hs], by simp [hs], by simp [hs], by simp [ok64], .inl ⟨rfl, rfl, by simp [hs]⟩, by simp, by simp [Tk.pot]⟩ ?_
  rintro _ s m st' ⟨p, l, line, nl, hp, rfl, hs, rfl, hg, e0, e8, e6, e7, hline, hacc, hok, hpot⟩
  obtain ⟨v, e5⟩ : ∃ v, lk s 5 = v := ⟨_, rfl⟩
  rw [e5] at hacc
  have hE' := hE.grow hg
  by_cases hlt : p < t.size
  rotate_left
  · have hfin : isLex t.size (.tup [v.fin st.I.length, .int .i64 0, .int .i64 0]) := by
      refine ⟨_, 0, 0, rfl, l, ?_, hok, by omega⟩
      rcases hacc with ⟨h1, h2, rfl⟩ | ⟨i, rfl, hi, _⟩
      · have : l = [] := List.eq_nil_of_length_eq_zero h1
        subst this; rfl
      · have : ¬ i < st.I.length := by omega
        simp [this, Tk.encL_fin]
    simp [hs, e0, e8, e6, e7, e5, hlt, hg, hfin]
  have hsub : (t.extract p t.size).size = t.size - p := by rw [ByteArray.size_extract]; omega
  simp [hs, e0, e8, hlt, hp]
  refine (f109 (t.extract p t.size) (by omega) (by omega) k (by omega)).call (by rintro _ (rfl | ⟨n, rfl, _⟩) <;> rfl) hE' rfl ?_
  rintro _ (rfl | ⟨q, rfl, -, hq⟩)
  · simp [hs, e6, hg, isLex.err]
  rw [hsub] at hq
  have hqn : ¬ (q : Int) < 0 := by omega
  simp [hs, e8, hqn]
  refine WP_loop (J75i t st' v p q) q (by omega) ⟨p, line, nl, by omega, by omega, by omega, by simp [hs], rfl, rfl, by simp [hs, e0], by simp [hs, e8], by simp [hs], by simp [hs], by simp [hs, e6], by simp [hs, e7], hline, by simp [hs, e5]⟩ ?_
  clear hs e0 e8 e6 e7 e5 hline s line nl
  rintro _ s m _ ⟨i, line, nl, hi1, hi2, rfl, hs, rfl, rfl, e0, e8, e9, e10, e6, e7, hline, e5⟩
  have hwpq := wrap64 (n := (p : Int) + q) (by omega)
  by_cases hi3 : i < p + q
  · have hi3' : (i : Int) < (p : Int) + q := by omega
    obtain ⟨c, hc⟩ := byte_at (t := t) (i := i) (by omega)
    have hwi := wrap64 (n := (i : Int) + 1) (by omega)
    by_cases h10 : (c.toNat : Int) = 10
    · simp [hs, e0, e8, e9, e10, e6, hwpq, hi3', hc, h10, hwi]
      exact ⟨_, by omega, i + 1, IntKind.i64.wrap (line + 1), true, by omega, by omega, rfl, by simp [hs], rfl, rfl, by simp [hs, e0], by simp [hs, e8], by simp [hs, e9], by simp [hs], by simp [hs], by simp [hs], ok64_wrap _, by simp [hs, e5]⟩
    · simp [hs, e0, e8, e9, e10, e6, hwpq, hi3', hc, h10, hwi]
      exact ⟨_, by omega, i + 1, line, nl, by omega, by omega, rfl, by simp [hs], rfl, rfl, by simp [hs, e0], by simp [hs, e8], by simp [hs, e9], by simp [hs], by simp [hs, e6], by simp [hs, e7], hline, by simp [hs, e5]⟩
  have hi3' : ¬ (i : Int) < (p : Int) + q := by omega
  by_cases hq0 : q = 0
  rotate_left
  · have hqp : 0 < q := by omega
    simp [hs, e0, e8, e9, e10, e6, hwpq, hi3', hqp]
    exact ⟨_, by omega, p + q, l, line, nl, by omega, rfl, by simp [hs], rfl, hg, by simp [hs, e0], by simp [hs], by simp [hs, e6], by simp [hs, e7], hline, by simpa [hs, e5] using hacc, hok, by omega⟩
  subst hq0
  have hqp : ¬ (0 : Int) < 0 := by omega
  simp only [Int.natCast_zero, Int.add_zero] at *
  simp [hs, e0, e8, e9, e10, e6, hwpq, hi3', hp]
  refine (f110 (t.extract p t.size) (by omega) (by omega) k (by omega)).call (by rintro _ ⟨u, n, e, rfl, _⟩; simp [Tk.enc]) hE' rfl ?_
  rintro _ ⟨⟨kd, us, un, ul, unl⟩, n, e, rfl, htk, he, h1⟩
  have mw := mayWrite_new hE' st'.H.length
  rw [hsub] at h1
  by_cases he0 : e = 0
  rotate_left
  · simp [hs, e6, Tk.enc, storeA, wrC, mw, he0, Grow.trans hg (Grow.appH _ _), isLex.err]
  subst he0
  obtain ⟨hn1, hn2, hn3⟩ := h1 rfl
  simp only at hn3
  have hlen : lenA false v = some (.int .i64 l.length) := by
    rcases hacc with ⟨h1, _, rfl⟩ | ⟨i, rfl, _⟩
    · simp [lenA, h1]
    · simp [lenA]
  by_cases h20 : l.length = 20000
  · simp [-lenA, hs, e5, e6, Tk.enc, storeA, wrC, mw, hlen, h20, Grow.trans hg (Grow.appH _ _), isLex.err]
  have hlp : ∀ l : List Tk, l.length ≤ Tk.pot l := fun l => by
    induction l with
    | nil => simp
    | cons t r ih => simp only [List.length_cons, Tk.pot]; omega
  have hll := hlp l
  obtain ⟨v', I', ha1, ha2, ha3⟩ := (hacc.push [(1, 5)]).app (E := E) (bytes := 48) (k := 1) (y := .sl (some st'.I.length) 1 (Tk.enc ⟨kd, us, un, line, nl⟩)) (ys := Tk.enc ⟨kd, us, un, line, nl⟩) hE.rom rfl (hg.I.trans (List.prefix_append _ _)) (by omega) (by omega) (by simp [srcA, Tk.enc]) rfl
    (st'.H ++ [.cells 130 (Tk.enc ⟨kd, us, un, line, nl⟩)])
  simp only [Tk.enc] at ha1
  have hwn := wrap64 (n := (p : Int) + n) (by omega)
  have h20' : ¬ (l.length : Int) = 20000 := by omega
  simp [-lenA, hs, e0, e5, e6, e7, e8, Tk.enc, storeA, fillA, wrC, mw, hlen, h20, h20', ha1, hwn]
  exact ⟨_, by omega, p + n, l ++ [⟨kd, us, un, line, nl⟩], line, false, by omega, rfl, by simp [hs], rfl, .of (hg.H.trans (List.prefix_append _ _)) ha3, by simp [hs, e0], by simp [hs], by simp [hs, e6], by simp [hs], hline,
    by simpa [hs, Tk.encL_app, Tk.enc] using ha2, fun x hx => by
      rcases List.mem_append.1 hx with hx | hx
      · exact hok x hx
      · rw [List.mem_singleton.1 hx]; exact ⟨htk.1, htk.2.1, hline, htk.2.2.2⟩, by
      rw [Tk.pot_app]; simp only [Tk.pot]; omega⟩
theorem f47 (t : ByteArray) (ht : t.size ≤ 60000) (k : Nat) (hk : t.size + 1210 ≤ k) : PureE k 47 [.str t] (isToks t.size) := by
 intro E st hE
 obtain ⟨k, rfl⟩ := uK (k := k) (by omega)
 refine call_in1 rfl rfl (by decide) fun s hs e0 => ?_
 simp [hs, e0]
 refine (f75 t ht k (by omega)).call (by rintro _ ⟨_, a, e, rfl, l, rfl, _⟩; simp [Tk.encL_refs]) hE rfl ?_
 rintro _ ⟨_, a, e, rfl, l, rfl, hl⟩
 simp [hs, Grow.refl, Tk.encL_fin]
 exact ⟨l, rfl, hl⟩
section
variable {H : List ABlk} {rb : Nat}
theorem rg (h : rb < H.length) (c : ABlk) (l : List ABlk) : (H.set rb c ++ l)[rb]? = some c := by
 rw [List.getElem?_append_left (by simpa using h), List.getElem?_set_self h]
theorem rg0 (h : rb < H.length) (c : ABlk) : (H.set rb c)[rb]? = some c := List.getElem?_set_self h
theorem rs (h : rb < H.length) (c c' : ABlk) (l : List ABlk) : (H.set rb c ++ l).set rb c' = H.set rb c' ++ l := by
 rw [List.set_append_left _ _ (by simpa using h), List.set_set]
@[simp] theorem lg (c : ABlk) (l : List ABlk) (j : Nat) : (H.set rb c ++ l)[H.length + j]? = l[j]? := by
 rw [List.getElem?_append_right (by simp)]; simp
@[simp] theorem lg0 (c : ABlk) (l : List ABlk) : (H.set rb c ++ l)[H.length]? = l[0]? := lg c l 0
@[simp] theorem ls (c : ABlk) (l : List ABlk) (j : Nat) (x : ABlk) : (H.set rb c ++ l).set (H.length + j) x = H.set rb c ++ l.set j x := by
 rw [List.set_append_right _ _ (by simp)]; simp
@[simp] theorem ls0 (c : ABlk) (l : List ABlk) (x : ABlk) : (H.set rb c ++ l).set H.length x = H.set rb c ++ l.set 0 x := ls c l 0 x
end
def RQ (tk : List Tk) (p e ln : Int) : List AV := [.sl none tk.length (Tk.encL tk), .int .i64 p, .int .i64 e, .int .i64 ln]
@[simp] theorem RD_0 (tk p e ln) : (RQ tk p e ln)[0]? = some (.sl none tk.length (Tk.encL tk)) := nr rfl
@[simp] theorem RD_1 (tk p e ln) : (RQ tk p e ln)[1]? = some (.int .i64 p) := nr rfl
@[simp] theorem RD_2 (tk p e ln) : (RQ tk p e ln)[2]? = some (.int .i64 e) := nr rfl
@[simp] theorem RD_3 (tk p e ln) : (RQ tk p e ln)[3]? = some (.int .i64 ln) := nr rfl
@[simp] theorem RD_g0 (tk p e ln) (h) : (RQ tk p e ln)[0]'h = .sl none tk.length (Tk.encL tk) := nr rfl
@[simp] theorem RD_g1 (tk p e ln) (h) : (RQ tk p e ln)[1]'h = .int .i64 p := nr rfl
@[simp] theorem RD_g2 (tk p e ln) (h) : (RQ tk p e ln)[2]'h = .int .i64 e := nr rfl
@[simp] theorem RD_g3 (tk p e ln) (h) : (RQ tk p e ln)[3]'h = .int .i64 ln := nr rfl
@[simp] theorem RD_len (tk p e ln) : (RQ tk p e ln).length = 4 := nr rfl
@[simp] theorem RD_w1 (tk p e ln x) : wrC (RQ tk p e ln) 1 [.int .i64 x] = RQ tk x e ln := nr rfl
@[simp] theorem RD_w2 (tk p e ln x) : wrC (RQ tk p e ln) 2 [.int .i64 x] = RQ tk p x ln := nr rfl
@[simp] theorem RD_w3 (tk p e ln x) : wrC (RQ tk p e ln) 3 [.int .i64 x] = RQ tk p e x := nr rfl
theorem mw_int {E : Env} {rb : Nat} (h : E.rob ≤ rb) (c : List AV) (k : IntKind) (n : Int) : mayWrite E rb c [.int k n] = true := by
 simp [mayWrite, h, subRefs, AV.refsL, AV.refs]
theorem mw_loc {E : Env} {H : List ABlk} {I : List (Nat × Nat)} (h : E.Wf ⟨H, I⟩) (j : Nat) (x y : List AV) : mayWrite E (H.length + j) x y = true := mayWrite_new h _ x y (by simp)
theorem mw_loc0 {E : Env} {H : List ABlk} {I : List (Nat × Nat)} (h : E.Wf ⟨H, I⟩) (x y : List AV) : mayWrite E H.length x y = true := mayWrite_new h _ x y (by simp)
def RdP (H : List ABlk) (I : List (Nat × Nat)) (rb ty : Nat) (tk : List Tk) (Q : AV → Nat → Int → Int → Prop) (r : Rt AV) (st' : St) : Prop :=
  ∃ v p' e' ln' X Y, r = .ok v ∧ st' = ⟨H.set rb (.cells ty (RQ tk (p' : Nat) e' ln')) ++ X, I ++ Y⟩ ∧ Q (v.fin I.length) p' e' ln'
def RdC (k f : Nat) (args : List AV) (tk : List Tk) (p : Nat) (e ln : Int) (Q : AV → Nat → Int → Int → Prop) : Prop :=
 ∀ E H I rb ty, E.Wf ⟨H, I⟩ → E.rob ≤ rb → rb < H.length → CallQ k E f (.ptr rb 0 :: args) ⟨H.set rb (.cells ty (RQ tk p e ln)), I⟩ (RdP H I rb ty tk Q)
theorem RdP.mk {H I rb ty tk Q v} (p' : Nat) {x e' ln' : Int} {X : List ABlk} {Y : List (Nat × Nat)} (hx : x = p') (q : Q (v.fin I.length) p' e' ln') : RdP H I rb ty tk Q (.ok v) ⟨H.set rb (.cells ty (RQ tk x e' ln')) ++ X, I ++ Y⟩ := by
 subst hx; exact ⟨_, _, _, _, _, _, rfl, rfl, q⟩
theorem RdP.mkX {H I rb ty tk Q v} (p' : Nat) {x e' ln' : Int} {X : List ABlk} (hx : x = p') (q : Q (v.fin I.length) p' e' ln') : RdP H I rb ty tk Q (.ok v) ⟨H.set rb (.cells ty (RQ tk x e' ln')) ++ X, I⟩ := by
 have := RdP.mk (Y := []) (rb := rb) (H := H) (X := X) (ty := ty) (tk := tk) p' hx q
 rwa [List.append_nil] at this
theorem RdP.mk0 {H I rb ty tk Q v} (p' : Nat) {x e' ln' : Int} (hx : x = p') (q : Q (v.fin I.length) p' e' ln') : RdP H I rb ty tk Q (.ok v) ⟨H.set rb (.cells ty (RQ tk x e' ln')), I⟩ := by
 have := RdP.mkX (X := []) (rb := rb) (H := H) (ty := ty) (tk := tk) p' hx q
 rwa [List.append_nil] at this
theorem RdP.mkI {H I I' rb ty tk Q v} (p' : Nat) {x e' ln' : Int} {X : List ABlk} (hI : I <+: I') (hx : x = p') (q : Q (v.fin I.length) p' e' ln') : RdP H I rb ty tk Q (.ok v) ⟨H.set rb (.cells ty (RQ tk x e' ln')) ++ X, I'⟩ := by
 obtain ⟨Y, rfl⟩ := hI
 exact RdP.mk p' hx q
theorem RdC.call {k f args args' tk p e ln Q} (h : RdC k f args tk p e ln Q) {E : Env} {H : List ABlk} {I : List (Nat × Nat)} {rb ty : Nat} (hE : E.Wf ⟨H, I⟩) (hr : E.rob ≤ rb) (hb : rb < H.length) (l : List ABlk) (hf : args'.map AV.arg = args) (hq : ∀ w p' e' ln', Q w p' e' ln' → w.refs = [])
  {P : Rt AV × St → Prop} (hp : ∀ w p' e' ln', Q w p' e' ln' → P (.ok w, ⟨H.set rb (.cells ty (RQ tk (p' : Nat) e' ln')) ++ l, I⟩)) :
  obP (doCall (aCall prog k) E .full (.fn f) (.ptr rb 0 :: args') ⟨H.set rb (.cells ty (RQ tk p e ln)) ++ l, I⟩) P := by
 have e1 : ∀ c, H.set rb c ++ l = (H ++ l).set rb c := fun c => by rw [List.set_append_left _ _ hb]
 have hE2 : Env.Wf { E with base := (H ++ l).length } ⟨H ++ l, I⟩ := ⟨Nat.le_refl _, by have := hE.rob; simp at this ⊢; omega, hE.rom⟩
 obtain ⟨⟨r, st'⟩, e2, v, p', e', ln', X, Y, rfl, rfl, q⟩ := h { E with base := (H ++ l).length } (H ++ l) I rb ty hE2 hr (by simp; omega)
 have hlen : ((H ++ l).set rb (.cells ty (RQ tk p e ln))).length = (H ++ l).length := by simp
 simp only [doCall, List.map_cons, arg_ptr, hf, e1, hlen]
 rw [e2, obind_some]
 have ht : ((H ++ l).set rb (.cells ty (RQ tk (p' : Nat) e' ln')) ++ X).take (H ++ l).length = (H ++ l).set rb (.cells ty (RQ tk (p' : Nat) e' ln')) := by
  exact List.take_left' (by simp)
 have hi : (I ++ Y).take I.length = I := List.take_left
 simp only [hq _ _ _ _ q, refsLt_nil, guardb_true, okv_eq, ht, hi]
 refine ⟨_, rfl, ?_⟩
 have := hp _ _ _ _ q
 rw [e1] at this; exact this
theorem RdC.call0 {k f args args' tk p e ln Q} (h : RdC k f args tk p e ln Q) {E : Env} {H : List ABlk} {I : List (Nat × Nat)} {rb ty : Nat} (hE : E.Wf ⟨H, I⟩) (hr : E.rob ≤ rb) (hb : rb < H.length) (hf : args'.map AV.arg = args) (hq : ∀ w p' e' ln', Q w p' e' ln' → w.refs = [])
  {P : Rt AV × St → Prop} (hp : ∀ w p' e' ln', Q w p' e' ln' → P (.ok w, ⟨H.set rb (.cells ty (RQ tk (p' : Nat) e' ln')), I⟩)) :
  obP (doCall (aCall prog k) E .full (.fn f) (.ptr rb 0 :: args') ⟨H.set rb (.cells ty (RQ tk p e ln)), I⟩) P := by
 have := h.call (P := P) hE hr hb [] hf hq (ty := ty) (fun w p' e' ln' q => by rw [List.append_nil]; exact hp w p' e' ln' q)
 rwa [List.append_nil] at this
def isQ (w0 : AV) (p0 : Nat) (e0 ln0 : Int) (w : AV) (p' : Nat) (e' ln' : Int) : Prop := w = w0 ∧ p' = p0 ∧ e' = e0 ∧ ln' = ln0
theorem RdC.eq {k f args tk p e ln w0 p0 e0 ln0} (h : RdC k f args tk p e ln (isQ w0 p0 e0 ln0)) {E : Env} {H : List ABlk} {I : List (Nat × Nat)} {rb ty : Nat} (hE : E.Wf ⟨H, I⟩) (hr : E.rob ≤ rb) (hb : rb < H.length) (hw : w0.refs = []) (hf : args.map AV.arg = args) (l : List ABlk) :
  doCall (aCall prog k) E .full (.fn f) (.ptr rb 0 :: args) ⟨H.set rb (.cells ty (RQ tk p e ln)) ++ l, I⟩ = some (.ok w0, ⟨H.set rb (.cells ty (RQ tk p0 e0 ln0)) ++ l, I⟩) := by
 obtain ⟨q, h1, h2⟩ := h.call (P := fun q => q = (.ok w0, ⟨H.set rb (.cells ty (RQ tk p0 e0 ln0)) ++ l, I⟩)) hE hr hb l hf (by rintro w p' e' ln' ⟨rfl, _⟩; exact hw) (by rintro w p' e' ln' ⟨rfl, rfl, rfl, rfl⟩; rfl)
 rw [h1, h2]
theorem RdC.eq0 {k f args tk p e ln w0 p0 e0 ln0} (h : RdC k f args tk p e ln (isQ w0 p0 e0 ln0)) {E : Env} {H : List ABlk} {I : List (Nat × Nat)} {rb ty : Nat} (hE : E.Wf ⟨H, I⟩) (hr : E.rob ≤ rb) (hb : rb < H.length) (hw : w0.refs = []) (hf : args.map AV.arg = args) :
  doCall (aCall prog k) E .full (.fn f) (.ptr rb 0 :: args) ⟨H.set rb (.cells ty (RQ tk p e ln)), I⟩ = some (.ok w0, ⟨H.set rb (.cells ty (RQ tk p0 e0 ln0)), I⟩) := by
 have := h.eq (ty := ty) hE hr hb hw hf []
 rwa [List.append_nil, List.append_nil] at this
def Tk.no : Tk := ⟨0, ⟨#[]⟩, 0, 0, false⟩
def tkAt (tk : List Tk) (i : Nat) : Tk := (tk[i]?).getD Tk.no
theorem Tk.encL_drop : ∀ (l : List Tk) (i : Nat), (Tk.encL l).drop (i * 5) = Tk.encL (l.drop i)
 | l, 0 => by simp
 | [], i + 1 => by simp
 | t :: r, i + 1 => by
  rw [Tk.encL, List.drop_succ_cons, ← Tk.encL_drop r i, show (i + 1) * 5 = t.enc.length + i * 5 by simp [Tk.enc]; omega, List.drop_append]
  simp
theorem Tk.rd {l : List Tk} {i : Nat} {t : Tk} (h : l[i]? = some t) : rdC (some 5) (Tk.encL l) (i * 5) = some (.agg t.enc) := by
 have hlt := uB h
 have hd : l.drop i = t :: l.drop (i + 1) := by
  rw [List.drop_eq_getElem_cons hlt]; congr 1; exact uV h
 simp only [rdC, Tk.encL_len, Tk.encL_drop, hd, Tk.encL]
 rw [if_pos (by omega), List.take_append_of_le_length (by simp [Tk.enc])]
 rw [show (5 : Nat) = t.enc.length by simp [Tk.enc], List.take_length]
theorem Tk.cell {l : List Tk} {i : Nat} {t : Tk} (h : l[i]? = some t) (j : Nat) (hj : j < 5) : (Tk.encL l)[i * 5 + j]? = t.enc[j]? := by
 have hlt := uB h
 have hd : l.drop i = t :: l.drop (i + 1) := by
  rw [List.drop_eq_getElem_cons hlt]; congr 1; exact uV h
 rw [← List.getElem?_drop, Tk.encL_drop, hd, Tk.encL, List.getElem?_append_left (by simpa [Tk.enc] using hj)]
@[simp] theorem wr5 (a b c d e a' b' c' d' e' : AV) : wrC [a, b, c, d, e] 0 [a', b', c', d', e'] = [a', b', c', d', e'] := nr rfl
@[simp] theorem wr50 (a b c d e x : AV) : wrC [a, b, c, d, e] 0 [x] = [x, b, c, d, e] := nr rfl
@[simp] theorem wr51 (a b c d e x : AV) : wrC [a, b, c, d, e] 1 [x] = [a, x, c, d, e] := nr rfl
@[simp] theorem wr52 (a b c d e x : AV) : wrC [a, b, c, d, e] 2 [x] = [a, b, x, d, e] := nr rfl
@[simp] theorem wr53 (a b c d e x : AV) : wrC [a, b, c, d, e] 3 [x] = [a, b, c, x, e] := nr rfl
@[simp] theorem wr54 (a b c d e x : AV) : wrC [a, b, c, d, e] 4 [x] = [a, b, c, d, x] := nr rfl
@[simp] theorem wr10a (a0 a1 a2 a3 a4 a5 a6 a7 a8 a9 x0 x1 x2 x3 x4 : AV) : wrC [a0, a1, a2, a3, a4, a5, a6, a7, a8, a9] 0 [x0, x1, x2, x3, x4] = [x0, x1, x2, x3, x4, a5, a6, a7, a8, a9] := nr rfl
@[simp] theorem wr10b (a0 a1 a2 a3 a4 a5 a6 a7 a8 a9 x0 x1 x2 x3 x4 : AV) : wrC [a0, a1, a2, a3, a4, a5, a6, a7, a8, a9] 5 [x0, x1, x2, x3, x4] = [a0, a1, a2, a3, a4, x0, x1, x2, x3, x4] := nr rfl
@[simp] theorem wr15a (a0 a1 a2 a3 a4 a5 a6 a7 a8 a9 a10 a11 a12 a13 a14 x0 x1 x2 x3 x4 : AV) : wrC [a0, a1, a2, a3, a4, a5, a6, a7, a8, a9, a10, a11, a12, a13, a14] 0 [x0, x1, x2, x3, x4] = [x0, x1, x2, x3, x4, a5, a6, a7, a8, a9, a10, a11, a12, a13, a14] := nr rfl
@[simp] theorem wr15b (a0 a1 a2 a3 a4 a5 a6 a7 a8 a9 a10 a11 a12 a13 a14 x0 x1 x2 x3 x4 : AV) : wrC [a0, a1, a2, a3, a4, a5, a6, a7, a8, a9, a10, a11, a12, a13, a14] 5 [x0, x1, x2, x3, x4] = [a0, a1, a2, a3, a4, x0, x1, x2, x3, x4, a10, a11, a12, a13, a14] := nr rfl
@[simp] theorem wr15c (a0 a1 a2 a3 a4 a5 a6 a7 a8 a9 a10 a11 a12 a13 a14 x0 x1 x2 x3 x4 : AV) : wrC [a0, a1, a2, a3, a4, a5, a6, a7, a8, a9, a10, a11, a12, a13, a14] 10 [x0, x1, x2, x3, x4] = [a0, a1, a2, a3, a4, a5, a6, a7, a8, a9, x0, x1, x2, x3, x4] := nr rfl
attribute [simp] storeA fillA
theorem f103 {tk : List Tk} {p : Nat} (e ln : Int) (hn : tk.length ≤ 60000) (hp : p ≤ tk.length) (j : Nat) (hj : j ≤ 1) (k : Nat) (hk : 1 ≤ k) :
  RdC k 103 [.int .i64 j] tk p e ln (isQ (.agg (tkAt tk (p + j)).enc) p e ln) := by
 intro E H I rb ty hE hr hb
 obtain ⟨k, rfl⟩ := uK (k := k) (by omega)
 refine call_in2 rfl rfl (by decide) fun s hs e0 e1 => ?_
 have hw := wrap64 (n := (p : Int) + j) (by omega)
 have m0 := mw_loc0 hE
 by_cases h : p + j < tk.length
 ·obtain ⟨t, ht⟩ : ∃ t, tk[p + j]? = some t := ⟨_, List.getElem?_eq_getElem h⟩
  have h' : (p : Int) + j < tk.length := by omega
  have h0 : (0 : Int) ≤ (p : Int) + j := by omega
  have htn : ((p : Int) + j).toNat = p + j := by omega
  have hrd := Tk.rd ht
  simp [hs, e0, e1, rg hb, hw, h', h0, htn, hrd, Nat.testBit, Tk.enc, m0]
  exact RdP.mkX p rfl ⟨by simp [tkAt, ht, Tk.enc], rfl, rfl, rfl⟩
 ·have h' : ¬ (p : Int) + j < tk.length := by omega
  simp [hs, e0, e1, rg hb, hw, h', Nat.testBit, m0]
  exact RdP.mkX p rfl ⟨by simp [tkAt, List.getElem?_eq_none (by omega : tk.length ≤ p + j), Tk.no, Tk.enc], rfl, rfl, rfl⟩
@[simp] theorem Tk.enc_refs (t : Tk) : AV.refsL t.enc = [] := by simp [Tk.enc]
theorem tok_eq {tk : List Tk} {p : Nat} {e ln : Int} (hn : tk.length ≤ 60000) (hp : p ≤ tk.length) {k : Nat} (hk : 1 ≤ k) {E : Env} {H : List ABlk} {I : List (Nat × Nat)} {rb ty : Nat} (hE : E.Wf ⟨H, I⟩) (hr : E.rob ≤ rb) (hb : rb < H.length) (l : List ABlk) :
  doCall (aCall prog k) E .full (.fn 103) [.ptr rb 0, .int .i64 0] ⟨H.set rb (.cells ty (RQ tk p e ln)) ++ l, I⟩ = some (.ok (.agg (tkAt tk p).enc), ⟨H.set rb (.cells ty (RQ tk p e ln)) ++ l, I⟩) :=
 (f103 e ln hn hp 0 (by omega) k hk).eq hE hr hb (by simp) rfl l
theorem tok_eq0 {tk : List Tk} {p : Nat} {e ln : Int} (hn : tk.length ≤ 60000) (hp : p ≤ tk.length) {k : Nat} (hk : 1 ≤ k) {E : Env} {H : List ABlk} {I : List (Nat × Nat)} {rb ty : Nat} (hE : E.Wf ⟨H, I⟩) (hr : E.rob ≤ rb) (hb : rb < H.length) :
  doCall (aCall prog k) E .full (.fn 103) [.ptr rb 0, .int .i64 0] ⟨H.set rb (.cells ty (RQ tk p e ln)), I⟩ = some (.ok (.agg (tkAt tk p).enc), ⟨H.set rb (.cells ty (RQ tk p e ln)), I⟩) :=
 (f103 e ln hn hp 0 (by omega) k hk).eq0 hE hr hb (by simp) rfl
def isB (tk : List Tk) (p : Nat) (e : Int) (s : ByteArray) : Bool := decide (e = 0) && ((decide ((tkAt tk p).kind = 5) || decide ((tkAt tk p).kind = 2)) && decide ((tkAt tk p).s = s))
theorem f104 {tk : List Tk} {p : Nat} (e ln : Int) (s0 : ByteArray) (hn : tk.length ≤ 60000) (hp : p ≤ tk.length) (k : Nat) (hk : 2 ≤ k) :
  RdC k 104 [.str s0] tk p e ln (isQ (.bool (isB tk p e s0)) p e ln) := by
 intro E H I rb ty hE hr hb
 obtain ⟨k, rfl⟩ := uK (k := k) (by omega)
 refine call_in2 rfl rfl (by decide) fun s hs e0 e1 => ?_
 have m0 := mw_loc0 hE
 have g := tok_eq0 (e := e) (ln := ln) (ty := ty) hn hp (k := k) (by omega) hE hr hb
 obtain ⟨⟨tkd, ts, tn, tl, tnl⟩, ht⟩ : ∃ t, tkAt tk p = t := ⟨_, rfl⟩
 rw [ht] at g
 simp [hs, e0, e1, g, Tk.enc, m0, rg hb]
 repeat' (with_reducible refine wIf_dec (fun h => ?_) (fun h => ?_) <;> simp [*])
 all_goals exact RdP.mkX p rfl ⟨by simp [isB, *], rfl, rfl, rfl⟩
theorem isB_lt {tk : List Tk} {p : Nat} {e : Int} {s : ByteArray} (h : isB tk p e s = true) : p < tk.length ∧ e = 0 := by
 simp only [isB, Bool.and_eq_true, Bool.or_eq_true, decide_eq_true_eq] at h
 refine ⟨?_, h.1⟩
 rcases Nat.lt_or_ge p tk.length with h1 | h1
 ·exact h1
 ·rw [tkAt, List.getElem?_eq_none h1] at h
  simp [Tk.no] at h
theorem is_eq {tk : List Tk} {p : Nat} {e ln : Int} (s : ByteArray) (hn : tk.length ≤ 60000) (hp : p ≤ tk.length) {k : Nat} (hk : 2 ≤ k) {E : Env} {H : List ABlk} {I : List (Nat × Nat)} {rb ty : Nat} (hE : E.Wf ⟨H, I⟩) (hr : E.rob ≤ rb) (hb : rb < H.length) (l : List ABlk) :
  doCall (aCall prog k) E .full (.fn 104) [.ptr rb 0, .str s] ⟨H.set rb (.cells ty (RQ tk p e ln)) ++ l, I⟩ = some (.ok (.bool (isB tk p e s)), ⟨H.set rb (.cells ty (RQ tk p e ln)) ++ l, I⟩) :=
 (f104 e ln s hn hp k hk).eq hE hr hb rfl rfl l
theorem is_eq0 {tk : List Tk} {p : Nat} {e ln : Int} (s : ByteArray) (hn : tk.length ≤ 60000) (hp : p ≤ tk.length) {k : Nat} (hk : 2 ≤ k) {E : Env} {H : List ABlk} {I : List (Nat × Nat)} {rb ty : Nat} (hE : E.Wf ⟨H, I⟩) (hr : E.rob ≤ rb) (hb : rb < H.length) :
  doCall (aCall prog k) E .full (.fn 104) [.ptr rb 0, .str s] ⟨H.set rb (.cells ty (RQ tk p e ln)), I⟩ = some (.ok (.bool (isB tk p e s)), ⟨H.set rb (.cells ty (RQ tk p e ln)), I⟩) :=
 (f104 e ln s hn hp k hk).eq0 hE hr hb rfl rfl
def takeN (tk : List Tk) (p : Nat) (e : Int) (s : ByteArray) : Nat := if isB tk p e s then p + 1 else p
theorem f105 {tk : List Tk} {p : Nat} (e ln : Int) (s0 : ByteArray) (hn : tk.length ≤ 60000) (hp : p ≤ tk.length) (k : Nat) (hk : 3 ≤ k) :
  RdC k 105 [.str s0] tk p e ln (isQ (.bool (isB tk p e s0)) (takeN tk p e s0) e ln) := by
 intro E H I rb ty hE hr hb
 obtain ⟨k, rfl⟩ := uK (k := k) (by omega)
 refine call_in2 rfl rfl (by decide) fun s hs e0 e1 => ?_
 have g := is_eq0 (e := e) (ln := ln) (ty := ty) s0 hn hp (k := k) (by omega) hE hr hb
 have hw := wrap64 (n := (p : Int) + 1) (by omega)
 cases hB : isB tk p e s0
 ·rw [hB] at g
  simp [hs, e0, e1, g]
  exact RdP.mk0 p rfl ⟨by simp, by simp [takeN, hB], rfl, rfl⟩
 ·rw [hB] at g
  simp [hs, e0, e1, g, rg0 hb, hw, mw_int hr]
  exact RdP.mk0 (p + 1) (by simp) ⟨by simp, by simp [takeN, hB], rfl, rfl⟩
theorem take_eq {tk : List Tk} {p : Nat} {e ln : Int} (s : ByteArray) (hn : tk.length ≤ 60000) (hp : p ≤ tk.length) {k : Nat} (hk : 3 ≤ k) {E : Env} {H : List ABlk} {I : List (Nat × Nat)} {rb ty : Nat} (hE : E.Wf ⟨H, I⟩) (hr : E.rob ≤ rb) (hb : rb < H.length) (l : List ABlk) :
  doCall (aCall prog k) E .full (.fn 105) [.ptr rb 0, .str s] ⟨H.set rb (.cells ty (RQ tk p e ln)) ++ l, I⟩ = some (.ok (.bool (isB tk p e s)), ⟨H.set rb (.cells ty (RQ tk (takeN tk p e s : Nat) e ln)) ++ l, I⟩) :=
 (f105 e ln s hn hp k hk).eq hE hr hb rfl rfl l
theorem take_eq0 {tk : List Tk} {p : Nat} {e ln : Int} (s : ByteArray) (hn : tk.length ≤ 60000) (hp : p ≤ tk.length) {k : Nat} (hk : 3 ≤ k) {E : Env} {H : List ABlk} {I : List (Nat × Nat)} {rb ty : Nat} (hE : E.Wf ⟨H, I⟩) (hr : E.rob ≤ rb) (hb : rb < H.length) :
  doCall (aCall prog k) E .full (.fn 105) [.ptr rb 0, .str s] ⟨H.set rb (.cells ty (RQ tk p e ln)), I⟩ = some (.ok (.bool (isB tk p e s)), ⟨H.set rb (.cells ty (RQ tk (takeN tk p e s : Nat) e ln)), I⟩) :=
 (f105 e ln s hn hp k hk).eq0 hE hr hb rfl rfl
def failQ (w0 : AV) (p : Nat) (e c : Int) (w : AV) (p' : Nat) (e' ln' : Int) : Prop := w = w0 ∧ p' = p ∧ (e' = if e = 0 then c else e) ∧ ok64 ln'
theorem tk_line {tk : List Tk} (h : ∀ t ∈ tk, t.ok) {i : Nat} {t : Tk} (ht : tk[i]? = some t) : ok64 t.line := (h t (List.mem_of_getElem? ht)).2.2.1
theorem f107 {tk : List Tk} {p : Nat} (e ln c : Int) (hn : tk.length ≤ 60000) (hk0 : ∀ t ∈ tk, t.ok) (hp : p ≤ tk.length) (hln : ok64 ln) (k : Nat) (hk : 1 ≤ k) :
  RdC k 107 [.int .i64 c] tk p e ln (failQ (.tup []) p e c) := by
 intro E H I rb ty hE hr hb
 obtain ⟨k, rfl⟩ := uK (k := k) (by omega)
 refine call_in2 rfl rfl (by decide) fun s hs e0 e1 => ?_
 by_cases he : e = 0
 rotate_left
 ·simp [hs, e0, e1, rg0 hb, he]
  exact RdP.mk0 p rfl ⟨by simp, rfl, by simp [he], hln⟩
 by_cases h : p < tk.length
 ·obtain ⟨t, ht⟩ : ∃ t, tk[p]? = some t := ⟨_, List.getElem?_eq_getElem h⟩
  have h3 := Tk.cell ht 3 (by omega)
  simp [hs, e0, e1, rg0 hb, he, h, Nat.testBit, h3, Tk.enc, mw_int hr]
  exact RdP.mk0 p rfl ⟨by simp, rfl, by simp [he], tk_line hk0 ht⟩
 by_cases h0 : 0 < tk.length
 ·obtain ⟨t, ht⟩ : ∃ t, tk[tk.length - 1]? = some t := ⟨_, List.getElem?_eq_getElem (by omega)⟩
  have h3 := Tk.cell ht 3 (by omega)
  have hw := wrap64 (n := (tk.length : Int) - 1) (by omega)
  have htn : ((tk.length : Int) - 1).toNat = tk.length - 1 := by omega
  have h0' : (1 : Int) ≤ (tk.length : Int) := by omega
  have h0'' : (tk.length : Int) - 1 < tk.length := by omega
  simp [hs, e0, e1, rg0 hb, he, h, h0, Nat.testBit, h3, Tk.enc, mw_int hr, hw, htn, h0', h0'']
  exact RdP.mk0 p rfl ⟨by simp, rfl, by simp [he], tk_line hk0 ht⟩
 ·simp [hs, e0, e1, rg0 hb, he, h, h0, Nat.testBit, mw_int hr]
  exact RdP.mk0 p rfl ⟨by simp, rfl, by simp [he], hln⟩
def isBo (w : AV) : Prop := ∃ b, w = .bool b
theorem f108 (s0 : ByteArray) (k : Nat) (hk : 1 ≤ k) : PureE k 108 [.str s0] isBo := by
 intro E st hE
 obtain ⟨k, rfl⟩ := uK (k := k) (by omega)
 refine call_in1 rfl rfl (by decide) fun s hs e0 => ?_
 have hb : ∀ b, isBo (.bool b) := fun b => ⟨b, rfl⟩
 simp [hs, e0]
 repeat' (with_reducible refine wIf_dec (fun h => ?_) (fun h => ?_) <;> simp [*, Grow.refl, lk_set])
def nd0 : List AV := [.int .i64 0, .str ⟨#[]⟩, .int .i64 0, .sl none 0 [], .int .i64 0]
def stopQ (p : Nat) (w : AV) (p' : Nat) (e' ln' : Int) : Prop := w = .agg nd0 ∧ p' = p ∧ e' ≠ 0 ∧ ok64 e' ∧ ok64 ln'
theorem failQ.ref {w0 : AV} {p : Nat} {e c : Int} (h : w0.refs = []) : ∀ w p' e' ln', failQ w0 p e c w p' e' ln' → w.refs = [] := by rintro _ _ _ _ ⟨rfl, _⟩; exact h
theorem f74 {tk : List Tk} {p : Nat} (e ln : Int) (b : Bool) (hn : tk.length ≤ 60000) (hk0 : ∀ t ∈ tk, t.ok) (hp : p ≤ tk.length) (he : ok64 e) (hln : ok64 ln) (k : Nat) (hk : 4 ≤ k) :
    RdC k 74 [.bool b] tk p e ln (stopQ p) := by
  intro E H I rb ty hE hr hb
  obtain ⟨k, rfl⟩ := uK (k := k) (by omega)
  refine call_in2 rfl rfl (by decide) fun s hs e0 e1 => ?_
  have m0 := mw_loc0 hE
  have m1 := mw_loc hE
  have g := fun l => tok_eq (e := e) (ln := ln) (ty := ty) hn hp (k := k) (by omega) hE hr hb l
  obtain ⟨⟨tkd, ts, tn, tl, tnl⟩, ht⟩ : ∃ t, tkAt tk p = t := ⟨_, rfl⟩
  rw [ht] at g
  simp only [Tk.enc] at g
  have fin : ∀ (c : Int) (e' : Int), c ≠ 0 → ok64 c → (e' = if e = 0 then c else e) → e' ≠ 0 ∧ ok64 e' := fun c e' hc hc2 h => by
    rw [h]; split
    · exact ⟨hc, hc2⟩
    · rename_i h; exact ⟨h, he⟩
  have go : ∀ c : Int, c ≠ 0 → ok64 c → ∀ (l : List ABlk) (P : Rt AV × St → Prop), (∀ e' ln', e' ≠ 0 → ok64 e' → ok64 ln' → P (.ok (.tup []), ⟨H.set rb (.cells ty (RQ tk (p : Nat) e' ln')) ++ l, I⟩)) →
      obP (doCall (aCall prog k) E .full (.fn 107) [.ptr rb 0, .int .i64 c] ⟨H.set rb (.cells ty (RQ tk p e ln)) ++ l, I⟩) P := fun c hc hc2 l P hP =>
    (f107 e ln c hn hk0 hp hln k (by omega)).call hE hr hb l rfl (failQ.ref rfl) (by
      rintro _ _ e' ln' ⟨rfl, rfl, h1, h2⟩
      exact hP e' ln' (fin c e' hc hc2 h1).1 (fin c e' hc hc2 h1).2 h2)
  have o42 : ok64 42 := by unfold ok64; omega
  have o44 : ok64 44 := by unfold ok64; omega
  have o47 : ok64 47 := by unfold ok64; omega
  have o40 : ok64 40 := by unfold ok64; omega
  have hE2 : ∀ e' ln' l, E.Wf ⟨H.set rb (.cells ty (RQ tk p e' ln')) ++ l, I⟩ := fun _ _ _ => hE.of (by simp) (by simp)
  by_cases h2 : tkd = 2
  · by_cases h3 : ts = ⟨#[119, 105, 116, 104]⟩
    · simp [hs, e0, e1, g, m0, m1, h2, h3]
      refine go _ (by decide) o42 _ _ fun e' ln' q1 q2 q3 => ?_
      simp [hs, m0]
      exact RdP.mkX p rfl ⟨by simp [nd0], rfl, q1, q2, q3⟩
    · simp [hs, e0, e1, g, m0, m1, h2, h3]
      refine (f108 ts k (by omega)).call (by rintro _ ⟨b, rfl⟩; rfl) (hE2 _ _ _) rfl ?_
      rintro _ ⟨b2, rfl⟩
      cases b2
      · simp [hs, e0]
        refine go _ (by decide) o40 _ _ fun e' ln' q1 q2 q3 => ?_
        simp [hs, m0]
        exact RdP.mkX p rfl ⟨by simp [nd0], rfl, q1, q2, q3⟩
      · simp [hs, e0]
        refine go _ (by decide) o47 _ _ fun e' ln' q1 q2 q3 => ?_
        simp [hs, m0]
        exact RdP.mkX p rfl ⟨by simp [nd0], rfl, q1, q2, q3⟩
  · by_cases h5 : tkd = 5
    · by_cases h3 : ts = ⟨#[47]⟩
      · cases b
        · simp [hs, e0, e1, g, m0, m1, h5, h3]
          refine go _ (by decide) o47 _ _ fun e' ln' q1 q2 q3 => ?_
          simp [hs, m0]
          exact RdP.mkX p rfl ⟨by simp [nd0], rfl, q1, q2, q3⟩
        · simp [hs, e0, e1, g, m0, m1, h5, h3]
          refine go _ (by decide) o44 _ _ fun e' ln' q1 q2 q3 => ?_
          simp [hs, m0]
          exact RdP.mkX p rfl ⟨by simp [nd0], rfl, q1, q2, q3⟩
      · simp [hs, e0, e1, g, m0, m1, h5, h3]
        refine go _ (by decide) o40 _ _ fun e' ln' q1 q2 q3 => ?_
        simp [hs, m0]
        exact RdP.mkX p rfl ⟨by simp [nd0], rfl, q1, q2, q3⟩
    · simp [hs, e0, e1, g, m0, m1, h2, h5]
      refine go _ (by decide) o40 _ _ fun e' ln' q1 q2 q3 => ?_
      simp [hs, m0]
      exact RdP.mkX p rfl ⟨by simp [nd0], rfl, q1, q2, q3⟩
theorem stopQ.ref {p : Nat} : ∀ w p' e' ln', stopQ p w p' e' ln' → w.refs = [] := by rintro _ _ _ _ ⟨rfl, _⟩; rfl
def mustQ (tk : List Tk) (p : Nat) (e : Int) (w : AV) (p' : Nat) (e' ln' : Int) : Prop := w = .tup [] ∧ ok64 e' ∧ ok64 ln' ∧ ((e' = 0 ∧ e = 0 ∧ p < tk.length ∧ p' = p + 1) ∨ (e' ≠ 0 ∧ p' = p))
theorem f163 {tk : List Tk} {p : Nat} (e ln : Int) (s0 : ByteArray) (hn : tk.length ≤ 60000) (hk0 : ∀ t ∈ tk, t.ok) (hp : p ≤ tk.length) (he : ok64 e) (hln : ok64 ln) (k : Nat) (hk : 6 ≤ k) :
  RdC k 163 [.str s0] tk p e ln (mustQ tk p e) := by
 intro E H I rb ty hE hr hb
 obtain ⟨k, rfl⟩ := uK (k := k) (by omega)
 refine call_in2 rfl rfl (by decide) fun s hs e0 e1 => ?_
 have g := take_eq0 (e := e) (ln := ln) (ty := ty) s0 hn hp (k := k) (by omega) hE hr hb
 cases hB : isB tk p e s0
 ·rw [hB] at g
  simp only [takeN, hB, Bool.false_eq_true, if_false] at g
  by_cases hz : e = 0
  ·subst hz
   simp [hs, e0, e1, g, rg0 hb]
   refine (f74 0 ln false hn hk0 hp he hln k (by omega)).call0 hE hr hb rfl stopQ.ref ?_
   rintro _ _ e' ln' ⟨rfl, rfl, q1, q2, q3⟩
   simp [hs]
   exact RdP.mk0 _ rfl ⟨by simp, q2, q3, .inr ⟨q1, rfl⟩⟩
  ·simp [hs, e0, e1, g, rg0 hb, hz]
   exact RdP.mk0 p rfl ⟨by simp, he, hln, .inr ⟨hz, rfl⟩⟩
 ·rw [hB] at g
  simp only [takeN, hB, if_true] at g
  obtain ⟨hlt, rfl⟩ := isB_lt hB
  simp [hs, e0, e1, g]
  exact RdP.mk0 (p + 1) (by simp) ⟨by simp, he, hln, .inl ⟨rfl, rfl, hlt, rfl⟩⟩
theorem mustQ.ref {tk : List Tk} {p : Nat} {e : Int} : ∀ w p' e' ln', mustQ tk p e w p' e' ln' → w.refs = [] := by rintro _ _ _ _ ⟨rfl, _⟩; rfl
def nameQ (tk : List Tk) (p : Nat) (e : Int) (w : AV) (p' : Nat) (e' ln' : Int) : Prop := ok64 e' ∧ ok64 ln' ∧ ((e' = 0 ∧ e = 0 ∧ p < tk.length ∧ p' = p + 1 ∧ w = .str (tkAt tk p).s) ∨ (e' ≠ 0 ∧ p' = p ∧ w = .str ⟨#[]⟩))
theorem nameQ.ref {tk : List Tk} {p : Nat} {e : Int} : ∀ w p' e' ln', nameQ tk p e w p' e' ln' → w.refs = [] := by rintro _ _ _ _ ⟨_, _, ⟨_, _, _, _, rfl⟩ | ⟨_, _, rfl⟩⟩ <;> rfl
theorem kind_lt {tk : List Tk} {p : Nat} (h : (tkAt tk p).kind ≠ 0) : p < tk.length := by
 rcases Nat.lt_or_ge p tk.length with h1 | h1
 ·exact h1
 ·rw [tkAt, List.getElem?_eq_none h1] at h
  simp [Tk.no] at h
theorem f164 {tk : List Tk} {p : Nat} (e ln : Int) (hn : tk.length ≤ 60000) (hk0 : ∀ t ∈ tk, t.ok) (hp : p ≤ tk.length) (he : ok64 e) (hln : ok64 ln) (k : Nat) (hk : 6 ≤ k) :
  RdC k 164 [] tk p e ln (nameQ tk p e) := by
 intro E H I rb ty hE hr hb
 obtain ⟨k, rfl⟩ := uK (k := k) (by omega)
 refine call_in1 rfl rfl (by decide) fun s hs e0 => ?_
 have m0 := mw_loc0 hE
 have g := tok_eq0 (e := e) (ln := ln) (ty := ty) hn hp (k := k) (by omega) hE hr hb
 have hkl := kind_lt (tk := tk) (p := p)
 obtain ⟨⟨tkd, ts, tn, tl, tnl⟩, ht⟩ : ∃ t, tkAt tk p = t := ⟨_, rfl⟩
 rw [ht] at g hkl
 simp only [Tk.enc] at g
 by_cases hz : e = 0
 ·subst hz
  by_cases h1 : tkd = 1
  ·have hlt := hkl (by simp [h1])
   have hw := wrap64 (n := (p : Int) + 1) (by omega)
   simp [hs, e0, g, m0, rg hb, rs hb, h1, hw, mw_int hr]
   exact RdP.mkX (p + 1) (by simp) ⟨he, hln, .inl ⟨rfl, rfl, hlt, rfl, by simp [ht]⟩⟩
  ·simp [hs, e0, g, m0, rg hb, rs hb, h1]
   refine (f74 0 ln false hn hk0 hp he hln k (by omega)).call hE hr hb _ rfl stopQ.ref ?_
   rintro _ _ e' ln' ⟨rfl, rfl, q1, q2, q3⟩
   simp [hs]
   exact RdP.mkX _ rfl ⟨q2, q3, .inr ⟨q1, rfl, by simp⟩⟩
 ·simp [hs, e0, g, m0, rg hb, rs hb, hz]
  refine (f74 e ln false hn hk0 hp he hln k (by omega)).call hE hr hb _ rfl stopQ.ref ?_
  rintro _ _ e' ln' ⟨rfl, rfl, q1, q2, q3⟩
  simp [hs]
  exact RdP.mkX _ rfl ⟨q2, q3, .inr ⟨q1, rfl, by simp⟩⟩
def endQ' (tk : List Tk) (p : Nat) (e : Int) (w : AV) (p' : Nat) (e' ln' : Int) : Prop := w = .tup [] ∧ ok64 e' ∧ ok64 ln' ∧ p ≤ p' ∧ p' ≤ tk.length ∧ p' ≤ p + 1 ∧ (e ≠ 0 → e' ≠ 0)
theorem endQ'.ref {tk : List Tk} {p : Nat} {e : Int} : ∀ w p' e' ln', endQ' tk p e w p' e' ln' → w.refs = [] := by rintro _ _ _ _ ⟨rfl, _⟩; rfl
theorem f148 {tk : List Tk} {p : Nat} (e ln : Int) (hn : tk.length ≤ 60000) (hk0 : ∀ t ∈ tk, t.ok) (hp : p ≤ tk.length) (he : ok64 e) (hln : ok64 ln) (k : Nat) (hk : 6 ≤ k) :
  RdC k 148 [] tk p e ln (endQ' tk p e) := by
 intro E H I rb ty hE hr hb
 obtain ⟨k, rfl⟩ := uK (k := k) (by omega)
 refine call_in1 rfl rfl (by decide) fun s hs e0 => ?_
 have m0 := mw_loc0 hE
 have g := tok_eq0 (e := e) (ln := ln) (ty := ty) hn hp (k := k) (by omega) hE hr hb
 have g2 := take_eq (e := e) (ln := ln) (ty := ty) ⟨#[59]⟩ hn hp (k := k) (by omega) hE hr hb
 obtain ⟨⟨tkd, ts, tn, tl, tnl⟩, ht⟩ : ∃ t, tkAt tk p = t := ⟨_, rfl⟩
 rw [ht] at g
 simp only [Tk.enc] at g
 cases hB : isB tk p e ⟨#[59]⟩
 rotate_left
 ·simp only [takeN, hB, if_true] at g2
  obtain ⟨hlt, rfl⟩ := isB_lt hB
  simp [hs, e0, g, g2, m0]
  exact RdP.mkX (p + 1) (by simp) ⟨by simp, he, hln, by omega, by omega, by omega, fun h => h⟩
 simp only [takeN, hB, Bool.false_eq_true, if_false] at g2
 by_cases hz : e = 0
 rotate_left
 ·simp [hs, e0, g, g2, m0, rg hb, hz]
  exact RdP.mkX p rfl ⟨by simp, he, hln, by omega, hp, by omega, fun h => h⟩
 subst hz
 have ok0 : RdP H I rb ty tk (endQ' tk p 0) (.ok (.tup [])) ⟨H.set rb (.cells ty (RQ tk p 0 ln)) ++ [.cells 130 [.int .i64 tkd, .str ts, .int .i64 tn, .int .i64 tl, .bool tnl]], I⟩ :=
  RdP.mkX p rfl ⟨by simp, he, hln, by omega, hp, by omega, fun h => h⟩
 have st0 : ∀ {P : Rt AV × St → Prop} (l : List ABlk), (∀ e' ln', e' ≠ 0 → ok64 e' → ok64 ln' → P (.ok (.agg nd0), ⟨H.set rb (.cells ty (RQ tk (p : Nat) e' ln')) ++ l, I⟩)) → obP (doCall (aCall prog k) E .full (.fn 74) [.ptr rb 0, .bool false] ⟨H.set rb (.cells ty (RQ tk p 0 ln)) ++ l, I⟩) P := fun l hP =>
  (f74 0 ln false hn hk0 hp he hln k (by omega)).call hE hr hb l rfl stopQ.ref (by rintro _ _ e' ln' ⟨rfl, rfl, q1, q2, q3⟩; exact hP e' ln' q1 q2 q3)
 have fin : ∀ e' ln', e' ≠ 0 → ok64 e' → ok64 ln' → RdP H I rb ty tk (endQ' tk p 0) (.ok (.tup [])) ⟨H.set rb (.cells ty (RQ tk (p : Nat) e' ln')) ++ [.cells 130 [.int .i64 tkd, .str ts, .int .i64 tn, .int .i64 tl, .bool tnl]], I⟩ := fun e' ln' q1 q2 q3 =>
  RdP.mkX p rfl ⟨by simp, q2, q3, by omega, hp, by omega, fun _ => q1⟩
 by_cases hd : tkd = 0
 ·subst hd
  simp [hs, e0, g, g2, m0, rg hb, ok0]
 cases tnl
 ·by_cases h5 : tkd = 5
  ·subst h5
   by_cases h3 : ts = ⟨#[125]⟩
   ·subst h3
    simp [hs, e0, g, g2, m0, rg hb, ok0]
   ·simp [hs, e0, g, g2, m0, rg hb, h3]
    refine st0 _ fun e' ln' q1 q2 q3 => ?_
    simp [hs, fin e' ln' q1 q2 q3]
  ·simp [hs, e0, g, g2, m0, rg hb, h5, hd]
   refine st0 _ fun e' ln' q1 q2 q3 => ?_
   simp [hs, fin e' ln' q1 q2 q3]
 ·simp [hs, e0, g, g2, m0, rg hb, hd, ok0]
end Go.Proofs.YP
