/- Texts that the laws of the seat rest on: an abstract machine, what the functions answer in it, plain laws. -/
import Derived.Test.YtjehnhppfneidaaGreatDoorRbc
set_option linter.unusedVariables false
set_option linter.unusedSimpArgs false
set_option linter.unusedSectionVars false
namespace Go.Proofs.YP
open Go
theorem stepR_scope' {P : Program} {b : Frame} {a : Act} {k : List Item} {cs : List Frame} {w : World} {c : Code} :
  step P (lone (b.atR a (.code (.scope c) :: k)) cs w) = .next (lone (b.atR a (.code c :: .inScope c :: k)) cs w) := step_lone_go (by simp [stepG, stepG.exec, Frame.atR])
theorem stepR_inScope' {P : Program} {b : Frame} {a : Act} {k : List Item} {cs : List Frame} {w : World} {c : Code} :
  step P (lone (b.atR a (.inScope c :: k)) cs w) = .next (lone (b.atR a k) cs w) := step_lone_go (by simp [stepG, stepG.exec, Frame.atR])
theorem wpIn_scope' {F : Fence} {n : Nat} {P : Program} {Q : Exit → Act → World → Prop} {a : Act} {w : World} {c : Code} (hq : ∀ l a w, Q (.goto l) a w → False) (h : c.wpIn F n P Q a w) : (Code.scope c).wpIn F n P Q a w := by
 intro b k cs hro hb hr
 have h0 : (lone (b.atR a (.code (.scope c) :: k)) cs w).fenced P F := fenced_calm hb hr rfl
 obtain ⟨e, a₁, w₁, hq₁, harr⟩ := h b (.inScope c :: k) cs hro hb hr
 have hx : ∀ id, exitTo id (.inScope c :: k) = exitTo id k := fun id => rfl
 cases e with
 | normal => exact ⟨.normal, a₁, w₁, hq₁, .head h0 stepR_scope' (StepsIn.trans harr (.one (fenced_calm hb hr rfl) stepR_inScope'))⟩
 | exit id => exact ⟨_, a₁, w₁, hq₁, fun k' hk => .head h0 stepR_scope' (harr.1 k' (by rw [hx]; exact hk)), fun hr' hk => let ⟨k₁, h1, h2⟩ := harr.2 hr' (by rw [hx]; exact hk); ⟨k₁, h1, .head h0 stepR_scope' h2⟩⟩
 | goto l => exact (hq _ _ _ hq₁).elim
 | ret => exact ⟨_, a₁, w₁, hq₁, .of_steps (.one h0 stepR_scope') harr⟩
 | panic ch => exact ⟨_, a₁, w₁, hq₁, .of_steps (.one h0 stepR_scope') harr⟩
 | outgrown => exact ⟨_, a₁, w₁, hq₁, .of_steps (.one h0 stepR_scope') harr⟩
def RMk (G : Gh) (b : List Deferred) : List Nat → List Deferred → Prop
 | [], ds => ds = b
 | d :: m, ds => ∃ r ds', ds = { target := .collected r, args := #[] } :: ds' ∧ G.ι d = some r ∧ RMk G b m ds'
theorem RMk.mono {G G' : Gh} {b : List Deferred} (hle : G.Le G') : ∀ {m : List Nat} {ds : List Deferred}, RMk G b m ds → RMk G' b m ds
 | [], ds, h => h
 | d :: m, ds, h => by
  obtain ⟨r, ds', h1, h2, h3⟩ := h
  exact ⟨r, ds', h1, hle.ι _ _ h2, h3.mono hle⟩
def ACode.wr : ACode → List Nat
 | .skip | .exit _ | .ret | .bad | .rf .. => []
 | .reg ops => ops.filterMap (·.dst)
 | .dreg ops => ops.filterMap (·.1.dst)
 | .seq a b => a.wr ++ b.wr
 | .cond _ x y => x.wr ++ y.wr
 | .block _ b | .scope b | .loop b => b.wr
def RunPost (P : Program) (GT : Nat → Option (List AV)) (w0 : World) (G : Gh) (b : List Deferred) (a0 : Act) (W : List Nat) (x : AExit) (s' : List AV) (m' : List Nat) (st' : St) (e : Exit) (a : Act) (w : World) : Prop :=
 ∃ G', G.Le G' ∧ Inv P GT w0 G' st' w ∧ RMk G' b m' a.defers ∧ (∀ t, t ∉ W → a.tmps[t]? = a0.tmps[t]?) ∧
  match x, e with
  | .nrm, .normal => RVs G' s' a.tmps.toList
  | .ret, .ret => RVs G' s' a.tmps.toList
  | .exit i, .exit j => i = j ∧ RVs G' s' a.tmps.toList
  | .pan v, .panic ch => ∃ y, RV G' v y ∧ ch = [{ v := y, recovered := false }]
  | _, _ => False
theorem RunPost.weak {P : Program} {GT : Nat → Option (List AV)} {w0 : World} {G G1 : Gh} {b : List Deferred} {a0 a1 : Act} {W W1 : List Nat} {x : AExit} {s' : List AV} {m' : List Nat} {st' : St} {e : Exit} {a : Act} {w : World} (hle : G.Le G1) (hW : ∀ t ∈ W1, t ∈ W) (ha : ∀ t, t ∉ W → a1.tmps[t]? = a0.tmps[t]?) (h : RunPost P GT w0 G1 b a1 W1 x s' m' st' e a w) : RunPost P GT w0 G b a0 W x s' m' st' e a w := by
 obtain ⟨G', h1, h2, h3, h4, h5⟩ := h
 exact ⟨G', hle.trans h1, h2, h3, fun t ht => (h4 t fun h' => ht (hW t h')).trans (ha t ht), h5⟩
theorem exists_least {p : Nat → Prop} (h : ∃ k, p k) : ∃ k, p k ∧ ∀ j, p j → k ≤ j := by
 obtain ⟨k, hk⟩ := h
 induction k using Nat.strongRecOn with
 | _ k ih =>
  by_cases hx : ∃ j, j < k ∧ p j
  ·obtain ⟨j, hj, hpj⟩ := hx; exact ih j hj hpj
  ·refine ⟨k, hk, fun j hj => ?_⟩
   rcases Nat.lt_or_ge j k with h | h
   ·exact absurd ⟨j, h, hj⟩ hx
   ·exact h
open Classical in
noncomputable def least (p : Nat → Prop) : Nat := if h : ∃ k, p k then Classical.choose (exists_least h) else 0
theorem least_spec {p : Nat → Prop} {k : Nat} (h : p k) : p (least p) ∧ least p ≤ k := by
 have he : ∃ k, p k := ⟨k, h⟩
 have := Classical.choose_spec (exists_least he)
 unfold least
 rw [dif_pos he]
 exact ⟨this.1, this.2 k h⟩
def yv (l : Nat) : Value := .func (.yield l) #[] #[]
section
variable {P : Program} {GT : Nat → Option (List AV)} {C : CSem}
theorem putAll_sound {G : Gh} : ∀ {ps : List Nat} {zq t : List AV} {xs tv : List Value}, RVs G zq xs → RVs G t tv → RVs G (putAll t ps zq) ((ps.zip xs).foldl (fun tmps (t, a) => tmps.set t a) tv)
 | [], zq, t, xs, tv, _, h2 => by simpa [putAll] using h2
 | p :: ps, [], t, xs, tv, h1, h2 => by simp only [RVs] at h1; subst h1; simpa [putAll] using h2
 | p :: ps, a :: zq, t, xs, tv, h1, h2 => by
  simp only [RVs] at h1
  obtain ⟨y, ys, rfl, h3, h4⟩ := h1
  simp only [putAll, List.zip_cons_cons, List.foldl_cons]
  exact putAll_sound h4 (h2.set p h3)
theorem fold_toList (l : List (Nat × Value)) : ∀ (tv : Array Value), (l.foldl (fun tmps (t, a) => tmps.setIfInBounds t a) tv).toList = l.foldl (fun tmps (t, a) => tmps.set t a) tv.toList := by
 induction l with
 | nil => intro tv; rfl
 | cons p l ih => intro tv; simp only [List.foldl_cons]; rw [ih]; simp
variable (hmix : P.follows .mixedOrders = true) (hC : SoundC P GT C) (hS : StepC C)
include hC hS
theorem draw_sound {E : Env} {rd : Option Nat} {F : Fence} {id : Nat} {ops : Array Oper} {zq : List (AOper × Nat)} {s : List AV} {st st' : St} {r : Rt (List AV)} {a : Act} {w w0 : World} {G : Gh} {Q : Exit → Act → World → Prop}
  (hmix : P.follows .mixedOrders = true) (hck : ckCode P GT (.region id ops true) (.dreg zq) = true) (hF : RF G rd F) (hw : E.Wf st) (h : aDraw GT C E 0 zq [] [(none, st)] s st = some (r, st')) (hI : Inv P GT w0 G st w) (hG : HGT GT G) (hs : RVs G s a.tmps.toList)
  (hok : ∀ s' a' w' G', r = .ok s' → G.Le G' → Inv P GT w0 G' st' w' → RVs G' s' a'.tmps.toList → SameB (ACode.dreg zq).wr a a' → Q .normal a' w')
  (hpan : ∀ v x a' w' G', r = .pan v → G.Le G' → Inv P GT w0 G' st' w' → RV G' v x → SameB (ACode.dreg zq).wr a a' → Q (.panic [{ v := x, recovered := false }]) a' w') : (Code.region id ops true).wpIn F 0 P Q a w := by
 simp only [ckCode, Bool.and_eq_true] at hck
 obtain ⟨⟨hop, hmk⟩, hfr⟩ := hck
 obtain ⟨sf, S, V, L, h1, h2, hL, hT, hO, _⟩ := aDraw_trace (zq := zq) (i := 0) rfl (Nat.zero_le _) h
 subst h1; subst h2
 refine wpIn_region_any hmix ?_
 have hd : ∀ k, doneOf (Array.replicate ops.size false) k = false := fun k => by
  unfold doneOf
  rw [Array.getD_eq_getD_getElem?]
  by_cases hk : k < ops.size
  ·rw [Array.getElem?_eq_getElem (by simpa using hk)]; simp
  ·rw [Array.getElem?_eq_none (by simpa using hk)]; rfl
 refine any_sound hC hS hop hmk hfr hT hO hw hL (a0 := a) (W := (ACode.dreg zq).wr) (fun k d hd => ?_) hF hG hok hpan ops.size _ a _ G 0 (by simp) (by simp) (fun i hi => by rw [hd] at hi; cases hi) (fun k hk => by rw [hd] at hk; cases hk) (fun k _ _ => by rw [hd]; simp) (Nat.zero_le _) (.refl G) hI.drew ?_ (.refl _ _)
 ·unfold dstAt at hd
  cases hk : zq[k]? with
  | none => simp [hk] at hd
  | some p =>
   simp only [hk, Option.bind_some] at hd
   exact List.mem_filterMap.2 ⟨p, List.mem_of_getElem? hk, hd⟩
 have : ∀ (l : List Nat) (x : List AV), slw zq V (doneOf (Array.replicate ops.size false)) l x = x := fun l => by
  induction l with
  | nil => intro x; rfl
  | cons k l ih => intro x; simp only [slw, hd]; exact ih x
 rw [this]; exact hs
theorem rf_sound {E : Env} {rd : Option Nat} {F : Fence} {g : Operand} {ps : Array Tmp} {asg body : Code} {f : AO} {ps' : List Nat} {asg' body' : ACode} {s : List AV} {m : List Nat} {st st' : St} {x : AExit} {s' : List AV} {m' : List Nat} {a : Act} {w w0 : World} {G : Gh}
    (hck : ckCode P GT (.rangeFunc g ps asg body) (.rf f ps' asg' body') = true) (hF : RF G rd F) (hw : E.Wf st) (h : rfCall C E rd (evA GT s f) ps' asg' body' s m st = some (x, s', m', st'))
    (hI : Inv P GT w0 G st w) (hG : HGT GT G) (hs : RVs G s a.tmps.toList) {db : List Deferred} (hm : RMk G db m a.defers) : (Code.rangeFunc g ps asg body).wpIn F 0 P (RunPost P GT w0 G db a [] x s' m' st') a w := by
  simp only [ckCode, Bool.and_eq_true, decide_eq_true_eq] at hck
  obtain ⟨⟨⟨hf, hps⟩, hca⟩, hcb⟩ := hck
  have hfv := evA_sound hG hs _ _ hf
  refine wpIn_rangeFunc fun fn _ => ?_
  unfold rfCall at h
  simp only [obind_eq_some] at h
  obtain ⟨⟨d, m1, st1⟩, h1, h⟩ := h
  have sur : ∃ (G1 : Gh) (wd : World) (dc : Nat) (mark : List Deferred), G.Le G1 ∧ Inv P GT w0 G1 st1 wd ∧ E.Wf st1 ∧ G1.ι d = some dc ∧ RMk G1 db m1 (mark ++ a.defers) ∧
      (Instr.enterLoop fn a.tmps ps asg body F.round).run P w = .ok (wd.heap.size, mark) (wd.alloc (.loop { state := .ready, pending := none, fn := fn, tmps := a.tmps, params := ps, assign := asg, body := body, defers := dc })) := by
    cases rd with
    | none =>
      cases hF
      simp only [Option.some.injEq, Prod.mk.injEq] at h1
      obtain ⟨rfl, rfl, rfl⟩ := h1
      have hI1 := hI.alloc (o := .dfr) (x := .deferred (some [])) (by simp [RB])
      have hle := hI.le_blk w.heap.size
      refine ⟨_, _, w.heap.size, [{ target := .collected w.heap.size, args := #[] }], hle, hI1, (StepOK.push hw).wf hw, by simp [Gh.withBlk], ⟨w.heap.size, a.defers, rfl, by simp [Gh.withBlk], hm.mono hle⟩, ?_⟩
      have := run_enterLoop_outer (P := P) (w := w) fn a.tmps ps asg body
      simpa [World.size_alloc] using this
    | some l0 =>
      obtain ⟨l, hl, rfl⟩ := hF
      simp only at h1
      split at h1
      · rename_i a1 b1 c1 d1 e1 f1 g1 d2 hb
        simp only [Option.some.injEq, Prod.mk.injEq] at h1
        obtain ⟨rfl, rfl, rfl⟩ := h1
        obtain ⟨y, hy, hr⟩ := hI.blk' hb hl
        simp only [RB] at hr
        obtain ⟨rec, rfl, _, _, _, _, _, _, hd⟩ := hr
        refine ⟨G, w, rec.defers, [], .refl G, hI, hw, hd, hm, ?_⟩
        unfold Instr.enterLoop
        simp only [Fence.inRound_round, Sem.run_bind, run_getLoop hy, run_newObj_alloc, Result.andThen, Sem.run_pure]
      · cases h1
  obtain ⟨G1, wd, dc, mark, hle1, hI1, hw1, hdc, hm1, hent⟩ := sur
  simp only at h
  split at h
  · rename_i gf p q hfe
    simp only [obind_eq_some] at h
    obtain ⟨⟨r3, st3⟩, h3, h⟩ := h
    rw [hfe] at hfv
    simp only [RV] at hfv
    obtain ⟨fa, fb, hfv, hfa, hfb⟩ := hfv
    have hle2 := hI1.le_blk wd.heap.size
    have hI2 := hI1.alloc (o := .loop .ready none 0 s ps' asg' body' d) (x := .loop { state := .ready, pending := none, fn := fn, tmps := a.tmps, params := ps, assign := asg, body := body, defers := dc })
      (by simp only [RB]; exact ⟨_, rfl, rfl, rfl, (hs.mono hle1).mono hle2, hps, hca, hcb, hle2.ι _ _ hdc⟩)
    have hle := hle1.trans hle2
    have hw2 : E.Wf { st1 with H := st1.H ++ [.loop .ready none 0 s ps' asg' body' d] } := (StepOK.push hw1).wf hw1
    have hargs : RVs (G1.withBlk st1.H.length wd.heap.size) (p ++ [.yld st1.H.length] ++ q) (fa ++ #[yv wd.heap.size] ++ fb).toList := by
      simp only [Array.toList_append]
      refine RVs.append (RVs.append (hfa.mono hle) ?_) (hfb.mono hle)
      simp only [RVs]
      exact ⟨_, [], rfl, by simp only [RV]; exact ⟨wd.heap.size, by simp [Gh.withBlk], rfl⟩, rfl⟩
    have hcall := hC _ _ _ _ _ _ h3 hw2 _ _ _ _ hI2 (hG.mono hle) hargs
    have hres : (resolve a.eval (rangeCall g wd.heap.size) 0).run P (wd.alloc (.loop { state := .ready, pending := none, fn := fn, tmps := a.tmps, params := ps, assign := asg, body := body, defers := dc })) =
        .ok { target := .fn (.func gf) fb, args := fa ++ #[yv wd.heap.size] } (wd.alloc (.loop { state := .ready, pending := none, fn := fn, tmps := a.tmps, params := ps, assign := asg, body := body, defers := dc })) := by
      have evc : a.eval (.const (.func (.yield wd.heap.size) #[] #[])) = yv wd.heap.size := rfl
      simp only [resolve, rangeCall, hfv, Deferred.ofValue]
      simp [evc]
    refine ⟨wd.heap.size, mark, _, _, _, gf, fa ++ #[yv wd.heap.size] ++ fb, _, hent, hres, fun f' _ => hF.fn f', ?_, hF.depth, hF.calls (hcall.2.mono fun e w3 post => ?_)⟩
    · simp only [invoke]; exact hcall.1.run _
    · cases e with
      | outgrown => exact post.elim
      | returned y =>
        obtain ⟨v, G3, hv, hle3, hI3, hrv⟩ := post
        subst hv
        simp only at h
        split at h
        · rename_i ls pj g' t ps2 as2 bd2 d2 hb
          simp only [guardb_eq_some, decide_eq_true_eq, Option.some.injEq, Prod.mk.injEq] at h
          obtain ⟨hbusy, rfl, rfl, rfl, rfl⟩ := h
          have hιl : G3.ι st1.H.length = some wd.heap.size := hle3.ι _ _ (by simp [Gh.withBlk])
          obtain ⟨ob, hob, hr⟩ := hI3.blk' hb hιl
          simp only [RB] at hr
          obtain ⟨rec, rfl, r1, r2, r3, r4, r5, r6, r7⟩ := hr
          have hnb : rec.state ≠ .busy := fun e => by
            cases ls <;> simp only [RLState] at r1 <;> rw [r1] at e <;> first | exact absurd rfl hbusy | cases e
          have hend := run_endLoop (P := P) hob hnb
          have hI4 := hI3.setBlk hιl (by rw [hb]; simp) (o := .loop .exhausted pj g' t ps2 as2 bd2 d2) (x := .loop { rec with state := .exhausted }) (by simp only [RB]; exact ⟨_, rfl, rfl, r2, r3, r4, r5, r6, r7⟩)
          have hlea := hle.trans hle3
          refine ⟨rec.pending, _, hend, ?_⟩
          have hmk : RMk G3 db m1 (mark ++ a.defers) := (hm1.mono hle2).mono hle3
          cases pj with
          | none =>
            simp only [RJump] at r2
            rw [r2] at hI4 ⊢
            exact ⟨G3, hlea, hI4, hmk, fun _ _ => rfl, hs.mono hlea⟩
          | some j =>
            cases j with
            | ret =>
              simp only [RJump] at r2
              rw [r2] at hI4 ⊢
              exact wpIn_ret ⟨G3, hlea, hI4, hmk, fun _ _ => rfl, hs.mono hlea⟩
            | exit i =>
              simp only [RJump] at r2
              rw [r2] at hI4 ⊢
              exact wpIn_exit ⟨G3, hlea, hI4, hmk, fun _ _ => rfl, rfl, hs.mono hlea⟩
        · cases h
      | panicked ch =>
        obtain ⟨v, y, G3, hv, hle3, hI3, hrv, rfl⟩ := post
        subst hv
        simp only [Option.some.injEq, Prod.mk.injEq] at h
        obtain ⟨rfl, rfl, rfl, rfl⟩ := h
        exact ⟨G3, hle.trans hle3, hI3, (hm1.mono hle2).mono hle3, fun _ _ => rfl, y, hrv, rfl⟩
  · cases h
theorem run_sound (hmix : P.follows .mixedOrders = true) {E : Env} {lf : Nat} {rd : Option Nat} {F : Fence} {w0 : World} {db : List Deferred} : ∀ (ac : ACode) {c : Code} {s : List AV} {m : List Nat} {st st' : St} {x : AExit} {s' : List AV} {m' : List Nat} {a : Act} {w : World} {G : Gh},
  ckCode P GT c ac = true → RF G rd F → E.Wf st → (∀ d ∈ m, E.rob ≤ d) → aRun GT C E lf rd ac s m st = some (x, s', m', st') → Inv P GT w0 G st w → HGT GT G → RVs G s a.tmps.toList → RMk G db m a.defers → c.wpIn F 0 P (RunPost P GT w0 G db a ac.wr x s' m' st') a w
 | .skip, c, s, m, st, st', x, s', m', a, w, G, hck, hF, hw, hmr, h, hI, hG, hs, hm => by
  simp only [aRun, Option.some.injEq, Prod.mk.injEq] at h
  obtain ⟨rfl, rfl, rfl, rfl⟩ := h
  cases c <;> simp only [ckCode, Bool.false_eq_true] at hck
  ·exact wpIn_skip ⟨G, .refl G, hI, hm, fun _ _ => rfl, hs⟩
  ·exact wpIn_label ⟨G, .refl G, hI, hm, fun _ _ => rfl, hs⟩
 | .ret, c, s, m, st, st', x, s', m', a, w, G, hck, hF, hw, hmr, h, hI, hG, hs, hm => by
  simp only [aRun, Option.some.injEq, Prod.mk.injEq] at h
  obtain ⟨rfl, rfl, rfl, rfl⟩ := h
  cases c <;> simp only [ckCode, Bool.false_eq_true] at hck
  exact wpIn_ret ⟨G, .refl G, hI, hm, fun _ _ => rfl, hs⟩
 | .exit i, c, s, m, st, st', x, s', m', a, w, G, hck, hF, hw, hmr, h, hI, hG, hs, hm => by
  simp only [aRun, Option.some.injEq, Prod.mk.injEq] at h
  obtain ⟨rfl, rfl, rfl, rfl⟩ := h
  cases c <;> simp only [ckCode, Bool.false_eq_true, decide_eq_true_eq] at hck
  exact wpIn_exit ⟨G, .refl G, hI, hm, fun _ _ => rfl, hck.symm, hs⟩
 | .bad, c, s, m, st, st', x, s', m', a, w, G, hck, hF, hw, hmr, h, hI, hG, hs, hm => by simp [aRun] at h
 | .reg zq, c, s, m, st, st', x, s', m', a, w, G, hck, hF, hw, hmr, h, hI, hG, hs, hm => by
  simp only [aRun, obind_eq_some] at h
  obtain ⟨⟨r1, st1⟩, h1, h⟩ := h
  have : ∃ id ops, c = .region id ops false ∧ ckOpers P GT ops ops.toList zq = true := by
   cases c with
   | region id ops dr =>
    cases dr with
    | false => exact ⟨_, _, rfl, by simpa only [ckCode] using hck⟩
    | true => simp [ckCode] at hck
   | _ => simp [ckCode] at hck
  obtain ⟨id, ops, rfl, hck⟩ := this
  refine wpIn_region_list (ops_sound hC hS hck hF hw h1 hI hG hs (fun s1 a1 w1 G1 e1 e2 e3 e4 e5 => ?_) (fun v y a1 w1 G1 e1 e2 e3 e4 e5 => ?_))
  ·subst e1
   simp only [Option.some.injEq, Prod.mk.injEq] at h
   obtain ⟨rfl, rfl, rfl, rfl⟩ := h
   exact ⟨G1, e2, e3, by rw [e5.1]; exact hm.mono e2, e5.2, e4⟩
  ·subst e1
   simp only [Option.some.injEq, Prod.mk.injEq] at h
   obtain ⟨rfl, rfl, rfl, rfl⟩ := h
   exact ⟨G1, e2, e3, by rw [e5.1]; exact hm.mono e2, e5.2, y, e4, rfl⟩
 | .dreg zq, c, s, m, st, st', x, s', m', a, w, G, hck, hF, hw, hmr, h, hI, hG, hs, hm => by
  simp only [aRun, obind_eq_some] at h
  obtain ⟨⟨r1, st1⟩, h1, h⟩ := h
  have : ∃ id ops, c = .region id ops true := by
   cases c with
   | region id ops dr =>
    cases dr with
    | true => exact ⟨_, _, rfl⟩
    | false => simp [ckCode] at hck
   | _ => simp [ckCode] at hck
  obtain ⟨id, ops, rfl⟩ := this
  refine draw_sound hC hS hmix hck hF hw h1 hI hG hs (fun s1 a1 w1 G1 e1 e2 e3 e4 e5 => ?_) (fun v y a1 w1 G1 e1 e2 e3 e4 e5 => ?_)
  ·subst e1
   simp only [Option.some.injEq, Prod.mk.injEq] at h
   obtain ⟨rfl, rfl, rfl, rfl⟩ := h
   exact ⟨G1, e2, e3, by rw [e5.1]; exact hm.mono e2, e5.2, e4⟩
  ·subst e1
   simp only [Option.some.injEq, Prod.mk.injEq] at h
   obtain ⟨rfl, rfl, rfl, rfl⟩ := h
   exact ⟨G1, e2, e3, by rw [e5.1]; exact hm.mono e2, e5.2, y, e4, rfl⟩
 | .seq p q, c, s, m, st, st', x, s', m', a, w, G, hck, hF, hw, hmr, h, hI, hG, hs, hm => by
  simp only [aRun, obind_eq_some] at h
  obtain ⟨⟨x1, s1, m1, st1⟩, h1, h⟩ := h
  cases c <;> simp only [ckCode, Bool.false_eq_true, Bool.and_eq_true] at hck
  have k := aRun_step hS p hw hmr h1
  refine wpIn_seq (Go.wpIn_mono (run_sound hmix p hck.1 hF hw hmr h1 hI hG hs hm) fun e a1 w1 post => ?_)
  obtain ⟨G1, e2, e3, e4, e6, e5⟩ := post
  cases x1 with
  | nrm =>
   cases e <;> simp only at e5
   exact Go.wpIn_mono (run_sound hmix q hck.2 (hF.mono e2) (k.1.wf hw) k.2 h e3 (hG.mono e2) e5 e4) fun e a w p => p.weak e2 (fun t ht => List.mem_append_right _ ht) fun t ht => e6 t fun h' => ht (List.mem_append_left _ h')
  | _ =>
   simp only [Option.some.injEq, Prod.mk.injEq] at h
   obtain ⟨rfl, rfl, rfl, rfl⟩ := h
   cases e <;> simp only at e5 <;> exact ⟨G1, e2, e3, e4, fun t ht => e6 t fun h' => ht (List.mem_append_left _ h'), e5⟩
 | .cond v p q, c, s, m, st, st', x, s', m', a, w, G, hck, hF, hw, hmr, h, hI, hG, hs, hm => by
  cases c <;> simp only [ckCode, Bool.false_eq_true, Bool.and_eq_true] at hck
  simp only [aRun] at h
  have hv := evA_sound hG hs _ _ hck.1.1
  split at h
  ·rename_i b hb
   rw [hb] at hv
   simp only [RV] at hv
   cases b with
   | true => exact wpIn_cond_true hv (Go.wpIn_mono (run_sound hmix p hck.1.2 hF hw hmr (by simpa using h) hI hG hs hm) fun e a w p => p.weak (.refl G) (fun t ht => List.mem_append_left _ ht) fun _ _ => rfl)
   | false => exact wpIn_cond_false hv (Go.wpIn_mono (run_sound hmix q hck.2 hF hw hmr (by simpa using h) hI hG hs hm) fun e a w p => p.weak (.refl G) (fun t ht => List.mem_append_right _ ht) fun _ _ => rfl)
  ·cases h
 | .block i p, c, s, m, st, st', x, s', m', a, w, G, hck, hF, hw, hmr, h, hI, hG, hs, hm => by
  simp only [aRun, obind_eq_some] at h
  obtain ⟨⟨x1, s1, m1, st1⟩, h1, h⟩ := h
  cases c <;> simp only [ckCode, Bool.false_eq_true, Bool.and_eq_true, decide_eq_true_eq] at hck
  obtain ⟨rfl, hck⟩ := hck
  refine wpIn_block (Go.wpIn_mono (run_sound hmix p hck hF hw hmr h1 hI hG hs hm) fun e a1 w1 post => ?_)
  obtain ⟨G1, e2, e3, e4, e6, e5⟩ := post
  cases x1 with
  | exit j =>
   cases e <;> simp only at e5
   obtain ⟨rfl, e5⟩ := e5
   simp only at h
   simp only [Exit.inBlock]
   split at h
   ·rename_i hj
    simp only [Option.some.injEq, Prod.mk.injEq] at h
    obtain ⟨rfl, rfl, rfl, rfl⟩ := h
    rw [if_pos hj]
    exact ⟨G1, e2, e3, e4, e6, e5⟩
   ·rename_i hj
    simp only [Option.some.injEq, Prod.mk.injEq] at h
    obtain ⟨rfl, rfl, rfl, rfl⟩ := h
    rw [if_neg hj]
    exact ⟨G1, e2, e3, e4, e6, rfl, e5⟩
  | _ =>
   simp only [Option.some.injEq, Prod.mk.injEq] at h
   obtain ⟨rfl, rfl, rfl, rfl⟩ := h
   cases e <;> simp only at e5 <;> exact ⟨G1, e2, e3, e4, e6, e5⟩
 | .scope p, c, s, m, st, st', x, s', m', a, w, G, hck, hF, hw, hmr, h, hI, hG, hs, hm => by
  cases c <;> simp only [ckCode, Bool.false_eq_true] at hck
  simp only [aRun] at h
  refine wpIn_scope' (fun l a w post => ?_) (run_sound hmix p hck hF hw hmr h hI hG hs hm)
  obtain ⟨G1, _, _, _, _, e5⟩ := post
  cases x <;> exact e5
 | .loop p, c, s, m, st, st', x, s', m', aa, w, G, hck, hF, hw, hmr, h, hI, hG, hs, hm => by
  cases c <;> simp only [ckCode, Bool.false_eq_true] at hck
  rename_i b
  simp only [aRun] at h
  let J : Nat → Act → World → Prop := fun k a w => ∃ s m st G1, iter (aRun GT C E lf rd p) k s m st = some (x, s', m', st') ∧ E.Wf st ∧ (∀ d ∈ m, E.rob ≤ d) ∧ G.Le G1 ∧ Inv P GT w0 G1 st w ∧ RVs G1 s a.tmps.toList ∧ RMk G1 db m a.defers ∧ ∀ t, t ∉ p.wr → a.tmps[t]? = aa.tmps[t]?
  have h0 : J lf aa w := ⟨s, m, st, G, h, hw, hmr, .refl G, hI, hs, hm, fun _ _ => rfl⟩
  let μ : Act → World → Nat := fun a w => least fun k => J k a w
  have hμ : ∀ {k a w}, J k a w → J (μ a w) a w ∧ μ a w ≤ k := fun {k a w} hk => least_spec (p := fun k => J k a w) hk
  refine wpIn_loop (fun a w => ∃ k, J k a w) μ ⟨lf, h0⟩ fun a w ⟨k0, hk0⟩ => ?_
  have hJ := (hμ hk0).1
  generalize hk : μ a w = k at hJ
  obtain ⟨s, m, st, G1, hit, hw1, hmr1, hle1, hI1, hs1, hm1, hk1⟩ := hJ
  cases k with
  | zero => simp [iter] at hit
  | succ k =>
   simp only [iter, obind_eq_some] at hit
   obtain ⟨⟨x1, s1, m1, st1⟩, h1, hit⟩ := hit
   have kk := aRun_step hS p hw1 hmr1 h1
   refine Go.wpIn_mono (run_sound hmix p hck (hF.mono hle1) hw1 hmr1 h1 hI1 (hG.mono hle1) hs1 hm1) fun e a1 w1 post => ?_
   obtain ⟨G2, e2, e3, e4, e6, e5⟩ := post
   cases x1 with
   | nrm =>
    cases e <;> simp only at e5
    have hJ1 : J k a1 w1 := ⟨s1, m1, st1, G2, hit, kk.1.wf hw1, kk.2, hle1.trans e2, e3, e5, e4, fun t ht => (e6 t ht).trans (hk1 t ht)⟩
    have := (hμ hJ1).2
    exact ⟨⟨k, hJ1⟩, by omega⟩
   | _ =>
    simp only [Option.some.injEq, Prod.mk.injEq] at hit
    obtain ⟨rfl, rfl, rfl, rfl⟩ := hit
    cases e <;> simp only at e5 <;> exact ⟨G2, hle1.trans e2, e3, e4, fun t ht => (e6 t ht).trans (hk1 t ht), e5⟩
 | .rf f ps asg body, c, s, m, st, st', x, s', m', a, w, G, hck, hF, hw, hmr, h, hI, hG, hs, hm => by
  have : ∃ g q b d, c = .rangeFunc g q b d := by
   cases c <;> simp only [ckCode, Bool.false_eq_true] at hck
   exact ⟨_, _, _, _, rfl⟩
  obtain ⟨g, q, b, d, rfl⟩ := this
  exact rf_sound hC hS hck hF hw h hI hG hs hm
end
section
variable {P : Program} {GT : Nat → Option (List AV)} {C : CSem}
theorem endRound_sound {w0 w : World} {G : Gh} {st st' : St} {r : Rt AV} {l g : Nat} (hI : Inv P GT w0 G st w) (hg : G.ι l = some g) {j : Option AJump} {jc : Option Code} (hj : RJump j jc) (hn : jc.isNone = j.isNone) (h : endRoundA l j st = some (r, st')) :
  ∃ v w', (Instr.endRound g jc).run P w = .ok v w' ∧ CallPost P GT w0 G r st' (.returned v) w' := by
 unfold endRoundA at h
 split at h
 ·rename_i a b c d e f k i hb
  simp only [Option.some.injEq, Prod.mk.injEq] at h
  obtain ⟨rfl, rfl⟩ := h
  obtain ⟨ob, hob, hr⟩ := hI.blk' hb hg
  simp only [RB] at hr
  obtain ⟨rec, rfl, r1, r2, r3, r4, r5, r6, r7⟩ := hr
  have hend := run_endRound (P := P) jc hob
  refine ⟨_, _, hend, .bool j.isNone, G, rfl, .refl G, hI.setBlk hg (by rw [hb]; simp) (x := .loop { rec with state := if jc.isNone then .ready else .done, pending := jc }) ?_, by simp only [RV, hn]⟩
  simp only [RB]
  refine ⟨_, rfl, ?_, hj, r3, r4, r5, r6, r7⟩
  rw [hn]
  cases j.isNone <;> simp [RLState]
 ·cases h
theorem round_sound (hmix : P.follows .mixedOrders = true) (hC : SoundC P GT C) (hS : StepC C) {E : Env} {lf l : Nat} {args : List AV} {st st' : St} {r : Rt AV} {w0 w : World} {G : Gh} {xs : Array Value}
  (h : aRound GT C E lf l args st = some (r, st')) (hw : E.Wf st) (hI : Inv P GT w0 G st w) (hG : HGT GT G) (hx : RVs G args xs.toList) : CallIs P G w (.yld l) xs (CallPost P GT w0 G r st') := by
 intro g hg
 unfold aRound at h
 split at h
 ·rename_i a b c t ps asg body d hb
  simp only [guardb_eq_some, Bool.and_eq_true, decide_eq_true_eq, obind_eq_some] at h
  obtain ⟨⟨hlen, hrob⟩, ⟨x1, s1, m1, st1⟩, h1, h⟩ := h
  obtain ⟨ob, hob, hr⟩ := hI.blk' hb hg
  simp only [RB] at hr
  obtain ⟨rec, rfl, r1, r2, r3, r4, r5, r6, r7⟩ := hr
  have hps : rec.params.size = ps.length := by rw [← r4]; simp
  have hxs : xs.size = args.length := by have := hx.length; simpa using this
  refine ⟨rec, hob, by omega, ?_⟩
  have hF : RF G (some l) (Fence.wide.inRound g) := ⟨g, hg, rfl⟩
  have htm : RVs G (putAll t ps args) ((rec.params.zip xs).foldl (fun tmps (t, a) => tmps.setIfInBounds t a) rec.tmps).toList := by
   rw [← Array.foldl_toList, fold_toList, Array.toList_zip, r4]
   exact putAll_sound hx r3
  have k1 := aRun_step hS asg hw (by simp) h1
  refine roundIn_of_wpIn trivial (Go.wpIn_mono (run_sound hC hS hmix asg r5 hF hw (by simp) h1 hI hG htm rfl) fun e a1 w1 post => ?_)
  obtain ⟨G1, hle1, hI1, hm1, _, hs1⟩ := post
  split at h
  ·rename_i s2 st2 heq
   simp only [Prod.mk.injEq] at heq
   obtain ⟨rfl, rfl, rfl, rfl⟩ := heq
   cases e <;> simp only at hs1
   split at h
   ·rename_i p f t2 ps2 as2 bd2 d2 hb2
    simp only [obind_eq_some] at h
    obtain ⟨⟨x3, s3, m3, st3⟩, h3, h⟩ := h
    have hg1 := hle1.ι _ _ hg
    obtain ⟨ob2, hob2, hr2⟩ := hI1.blk' hb2 hg1
    simp only [RB] at hr2
    obtain ⟨rec2, rfl, q1, q2, q3, q4, q5, q6, q7⟩ := hr2
    simp only [RLState] at q1
    have hI2 := hI1.setBlk hg1 (by rw [hb2]; simp) (o := .loop .busy p f t2 ps2 as2 bd2 d2) (x := .loop { rec2 with state := .busy }) (by simp only [RB]; exact ⟨_, rfl, rfl, q2, q3, q4, q5, q6, q7⟩)
    refine ⟨_, run_beginRound hob2 q1, ?_⟩
    have k2 : StepOK E st1 { st1 with H := st1.H.set l (.loop .busy p f t2 ps2 as2 bd2 d2) } := .setH hrob hb2 fun _ r hr => by simpa only [refsBlk] using hr
    refine Go.wpIn_mono (run_sound hC hS hmix body r6 (hF.mono hle1) (k2.wf (k1.1.wf hw)) (by simp) h3 hI2 (hG.mono hle1) hs1 hm1) fun e2 a2 w2 post2 => ?_
    obtain ⟨G2, hle2, hI3, hm3, _, hs3⟩ := post2
    have hg2 := hle2.ι _ _ hg1
    have fin : ∀ {j : Option AJump} {jc : Option Code}, RJump j jc → jc.isNone = j.isNone → endRoundA l j st3 = some (r, st') → ∃ v w', (Instr.endRound g jc).run P w2 = .ok v w' ∧ CallPost P GT w0 G r st' (.returned v) w' := fun hj hn he => by
     obtain ⟨v, w', h1, v', G', h2, h3, h4, h5⟩ := endRound_sound (P := P) hI3 hg2 hj hn he
     exact ⟨v, w', h1, v', G', h2, hle1.trans (hle2.trans h3), h4, h5⟩
    cases x3 with
    | nrm => cases e2 <;> simp only at hs3; exact fin (j := none) rfl rfl h
    | ret => cases e2 <;> simp only at hs3; exact fin (j := some .ret) rfl rfl h
    | exit i =>
     cases e2 <;> simp only at hs3
     obtain ⟨rfl, _⟩ := hs3
     exact fin (j := some (.exit _)) rfl rfl h
    | pan v => cases h
   ·cases h
  ·cases h
 ·cases h
theorem leaves_sound {fn : Func} {tmps : Array Value} {R : Ending → World → Prop} {w0 : World} {db : List Deferred} : ∀ {m : List Nat} {ds : List Deferred} {st st' : St} {w : World} {G : Gh} {u : FrameMode}, takeAll st m = some st' → RMk G db m ds → Inv P GT w0 G st w → u ≠ .run →
  (∀ w', Inv P GT w0 G st' w' → LeavesInM Fence.wide 0 P fn tmps R db u w') → LeavesInM Fence.wide 0 P fn tmps R ds u w
 | [], ds, st, st', w, G, u, h, hm, hI, hu, hfin => by
  simp only [takeAll, Option.some.injEq] at h
  subst h
  simp only [RMk] at hm
  subst hm
  exact hfin w hI
 | d :: m, ds, st, st', w, G, u, h, hm, hI, hu, hfin => by
  obtain ⟨r, ds', rfl, hd, hm⟩ := hm
  simp only [takeAll] at h
  split at h
  ·rename_i hb
   obtain ⟨ob, hob, hr⟩ := hI.blk' hb hd
   simp only [RB] at hr
   subst hr
   refine ⟨hu, .inl ⟨r, _, rfl, run_takeDeferred hob, leaves_sound h hm (hI.setBlk hd (by rw [hb]; simp) (o := .opq) (x := .deferred none) ?_) hu hfin⟩⟩
   simp [RB]
  ·cases h
def resF (tmps : Array Value) : ResultVar → Sem Value
 | .tmp t => pure (tmps.getD t undef)
 | .cell a t => do loadVar t (← asAddr (tmps.getD a undef))
def ARes.slot : ARes → Nat
 | .tmp t => t
 | .cell a _ => a
theorem lk_sound {G : Gh} {s : List AV} {tmps : Array Value} (hs : RVs G s tmps.toList) (t : Nat) : RV G (lk s t) (tmps.getD t undef) := by
 simp only [lk]
 cases e : s[t]? with
 | some v =>
  obtain ⟨y, hy, hr⟩ := hs.get e
  have hy' : tmps[t]? = some y := by simpa using hy
  simp only [Option.getD_some, Array.getD_eq_getD_getElem?, hy']
  exact hr
 | none =>
  have hl := hs.length
  have : tmps[t]? = none := by
   rw [List.getElem?_eq_none_iff] at e
   rw [Array.getElem?_eq_none]; simp at hl; omega
  simp only [Option.getD_none, Array.getD_eq_getD_getElem?, this]
  simp [AV.undef, RV, RVs, undef]
theorem mapM_res {w0 w : World} {G : Gh} {st : St} {s : List AV} {tmps : Array Value} (hI : Inv P GT w0 G st w) (f : ResultVar → Sem Value)
  (hf : f = resF tmps) : ∀ {l : List ResultVar} {rs : List ARes} {vs : List AV}, (∀ r ∈ rs, RV G (lk s r.slot) (tmps.getD r.slot undef)) → ckRes P l rs = true → resAll s st rs = some vs →
  ∃ ys, (l.mapM f).run P w = .ok ys w ∧ RVs G vs ys
 | [], [], vs, _, _, h => by simp only [resAll, Option.some.injEq] at h; subst h; exact ⟨[], rfl, by simp [RVs]⟩
 | [], _ :: _, vs, _, hc, _ => by simp [ckRes] at hc
 | x :: l, [], vs, _, hc, _ => by cases x <;> simp [ckRes] at hc
 | x :: l, r :: rs, vs, hs, hc, h => by
  simp only [resAll, obind_eq_some, Option.some.injEq] at h
  obtain ⟨v, h1, vs', h2, rfl⟩ := h
  have key : ckRes P l rs = true ∧ ∃ y, (f x).run P w = .ok y w ∧ RV G v y := by
   have lkS := hs r (by simp)
   cases x with
   | tmp t =>
    cases r with
    | tmp u =>
     simp only [ckRes, Bool.and_eq_true, decide_eq_true_eq] at hc
     obtain ⟨rfl, hc⟩ := hc
     simp only [resA, Option.some.injEq] at h1
     subst h1
     exact ⟨hc, _, by rw [hf]; rfl, lkS⟩
    | cell _ _ => simp [ckRes] at hc
   | cell a t =>
    cases r with
    | tmp u => simp [ckRes] at hc
    | cell b k =>
     simp only [ckRes, Bool.and_eq_true, decide_eq_true_eq] at hc
     obtain ⟨⟨rfl, hk⟩, hc⟩ := hc
     simp only [resA] at h1
     obtain ⟨ad, y, e1, e2, e3⟩ := run_loadA hI hk lkS h1
     simp only [ARes.slot] at e1
     refine ⟨hc, y, ?_, e3⟩
     rw [hf]
     simp only [resF, Sem.run_bind, e1, asAddr, Sem.run_pure, Result.andThen_ok, e2]
  obtain ⟨hc', y, hy, hr⟩ := key
  obtain ⟨ys, hys, hrs⟩ := mapM_res hI f hf (fun r hr => hs r (by simp [hr])) hc' h2
  refine ⟨y :: ys, ?_, by simp only [RVs]; exact ⟨y, ys, rfl, hr, hrs⟩⟩
  rw [List.mapM_cons]
  simp [hy, hys]
theorem results_sound' {w0 w : World} {G : Gh} {st : St} {s : List AV} {tmps : Array Value} {fn : Func} {rs : List ARes} {vs : List AV} (hI : Inv P GT w0 G st w) (hs : ∀ r ∈ rs, RV G (lk s r.slot) (tmps.getD r.slot undef)) (hc : ckRes P fn.results.toList rs = true) (h : resAll s st rs = some vs) :
    ∃ y, (results fn tmps).run P w = .ok y w ∧ RV G (oneOr vs) y := by
  obtain ⟨ys, h1, h2⟩ := mapM_res hI _ rfl hs hc h
  have h3 : (fn.results.mapM (resF tmps)).run P w = .ok ys.toArray w := by
    rw [Array.mapM_eq_mapM_toList]
    simp only [Sem.run_map]
    rw [h1]; rfl
  have hl := h2.length
  unfold results
  refine ⟨if h : ys.toArray.size = 1 then ys.toArray[0] else .tuple ys.toArray, ?_, ?_⟩
  · have e : (fn.results.mapM fun x => match x with
        | ResultVar.tmp t => (pure (tmps.getD t undef) : Sem Value)
        | ResultVar.cell a t => do loadVar t (← asAddr (tmps.getD a undef))).run P w = .ok ys.toArray w := h3
    rw [Sem.run_bind]
    refine Eq.trans (congrArg (fun r => Result.andThen r _) e) ?_
    rfl
  · match vs, h2 with
    | [], h2 =>
      simp only [RVs] at h2
      subst h2
      simp [oneOr, RV, RVs]
    | [v], h2 =>
      simp only [RVs] at h2
      obtain ⟨x, xs, rfl, hr, rfl⟩ := h2
      simpa [oneOr] using hr
    | v :: u :: vs, h2 =>
      have h2' := h2
      simp only [RVs] at h2'
      obtain ⟨x, xs, rfl, hr, y, ys', rfl, _⟩ := h2'
      simp only [List.size_toArray, List.length_cons]
      rw [dif_neg (by omega)]
      simp only [oneOr, RV]
      exact ⟨_, rfl, h2⟩
theorem results_sound {w0 w : World} {G : Gh} {st : St} {s : List AV} {tmps : Array Value} {fn : Func} {rs : List ARes} {vs : List AV} (hI : Inv P GT w0 G st w) (hs : RVs G s tmps.toList) (hc : ckRes P fn.results.toList rs = true) (h : resAll s st rs = some vs) :
  ∃ y, (results fn tmps).run P w = .ok y w ∧ RV G (oneOr vs) y := results_sound' hI (fun r _ => lk_sound hs r.slot) hc h
end
structure AOK (P : Program) (A : AProg) : Prop where
 mixed : P.follows .mixedOrders = true
 fn : ∀ f fn, A.ovr f = none → A.fn f = some fn → ∃ F, P.funcs[f]? = some F ∧ ckFn P A.GT F fn = true ∧ F.name ≠ "runtime.NumGoroutine"
 step : StepOvr A
 ovr : ∀ f g, A.ovr f = some g → ∀ C, SoundC P A.GT C → StepC C → ∀ E args st r st', g C E args st = some (r, st') → E.Wf st →
  ∀ w0 w G (xs : Array Value), Inv P A.GT w0 G st w → HGT A.GT G → RVs G args xs.toList → CallIs P G w (.fn f) xs (CallPost P A.GT w0 G r st')
theorem aCall_sound {P : Program} {A : AProg} (hA : AOK P A) : ∀ k, SoundC P A.GT (aCall A k)
 | 0 => fun E cal args st r st' h => by simp [aCall] at h
 | k + 1 => fun E cal args st r st' h hw w0 w G xs hI hG hx => by
  have hC := aCall_sound hA k
  have hS := aCall_step hA.step k
  cases cal with
  | yld l => exact round_sound hA.mixed hC hS h hw hI hG hx
  | fn f =>
   simp only [aCall] at h
   split at h
   ·rename_i g hg
    exact hA.ovr f g hg _ hC hS _ _ _ _ _ h hw _ _ _ _ hI hG hx
   ·rename_i hov
    split at h
    ·cases h
    ·rename_i fn hfn
     obtain ⟨F, hF, hck, hname⟩ := hA.fn f fn hov hfn
     simp only [ckFn, Bool.and_eq_true, decide_eq_true_eq] at hck
     obtain ⟨⟨hnt, hres⟩, hck⟩ := hck
     cases hb : F.body with
     | none => simp [hb] at hck
     | some c =>
      simp only [hb] at hck
      simp only [obind_eq_some] at h
      obtain ⟨⟨x1, s1, m1, st1⟩, h1, h⟩ := h
      refine ⟨⟨F, hF, by simp [hb], hname⟩, callsIn_of_wp_marks hF hb trivial ?_⟩
      have hxl : xs.size = args.length := by have := hx.length; simpa using this
      have htm : RVs G (args ++ List.replicate (fn.ntmps - args.length) AV.undef) (xs ++ Array.replicate (F.ntmps - xs.size) undef).toList := by
       rw [Array.toList_append, Array.toList_replicate, hnt, hxl]
       exact hx.append (RVs.replicate _ (by simp [AV.undef, RV, RVs, undef]))
      refine Go.wpIn_mono (run_sound hC hS hA.mixed fn.body hck (rd := none) rfl hw (by simp) h1 hI hG (a := { tmps := xs ++ Array.replicate (F.ntmps - xs.size) undef, defers := [] }) htm rfl) fun e a1 w1 post => ?_
      obtain ⟨G1, hle, hI1, hm1, _, hs1⟩ := post
      have back : ∀ {st2 : St} {s : List AV}, RVs G1 s a1.tmps.toList → takeAll st1 m1 = some st2 → leaveA fn st2 s = some (r, st') → LeavesInM Fence.wide 0 P F a1.tmps (CallPost P A.GT w0 G r st') a1.defers .returning w1 := fun {st2 s} hs ht hl => by
       unfold leaveA at hl
       simp only [obind_eq_some, Option.some.injEq, Prod.mk.injEq] at hl
       obtain ⟨vs, hv, rfl, rfl⟩ := hl
       refine leaves_sound ht hm1 hI1 (by simp) fun w' hI' => ?_
       obtain ⟨y, hy, hr⟩ := results_sound hI' hs hres hv
       exact ⟨y, hy, _, G1, rfl, hle, hI', hr⟩
      cases x1 with
      | nrm =>
       simp only [obind_eq_some] at h
       obtain ⟨st2, ht, hl⟩ := h
       cases e <;> simp only at hs1
       exact back hs1 ht hl
      | ret =>
       simp only [obind_eq_some] at h
       obtain ⟨st2, ht, hl⟩ := h
       cases e <;> simp only at hs1
       exact back hs1 ht hl
      | exit i => cases h
      | pan v =>
       simp only [obind_eq_some, Option.some.injEq, Prod.mk.injEq] at h
       obtain ⟨st2, ht, rfl, rfl⟩ := h
       cases e <;> simp only at hs1
       obtain ⟨y, hr, rfl⟩ := hs1
       exact leaves_sound ht hm1 hI1 (by simp) fun w' hI' => ⟨v, y, G1, rfl, hle, hI', hr, rfl⟩
end Go.Proofs.YP
