/- Regions that draw their order, once more: new blocks may be made earlier than the walk makes them. The walk goes in an order in which a new block is made as late as may be; a block that was made earlier floats till then. -/
import Derived.Test.YtihboegopigkmaaDoorSt
namespace Go.Proofs.YtihboegopigkmaaDoor
set_option linter.unusedSimpArgs false
set_option linter.unusedVariables false
set_option linter.unnecessarySimpa false
set_option linter.unusedSectionVars false

/-- What an operation that makes a block makes. -/
structure Shp where
  f : Option (Nat × Nat)
  t : TypeId
  cs : List Value
def mkv (f : Option (Nat × Nat)) (b : Nat) : Value :=
  match f with
  | none => .pointer (some ⟨b, 0, none⟩)
  | some (l, c) => .slice (some ⟨b, 0, none⟩) l c
def Shp.obj (s : Shp) : Obj := .cells s.cs.toArray s.t
abbrev FLs := List (Nat × Shp)

def AllocAt (P : Program) (o : Oper) (a : Act) (s : Shp) : Prop := ∀ w : World, (execOp a.eval o).run P w = .ok (.value (mkv s.f w.heap.size)) (w.alloc s.obj)
theorem AllocAt.det {P : Program} {o : Oper} {a : Act} {s s' : Shp} (h : AllocAt P o a s) (h' : AllocAt P o a s') : s = s' := by
  have e := (h default).symm.trans (h' default)
  injection e with e1 e2
  injection e1 with e1
  have hf : s.f = s'.f := by
    unfold mkv at e1
    cases hs : s.f with
    | none => cases hs' : s'.f with
      | none => rfl
      | some p => rw [hs, hs'] at e1; cases e1
    | some p => cases hs' : s'.f with
      | none => rw [hs, hs'] at e1; cases e1
      | some p' =>
        rw [hs, hs'] at e1
        simp only at e1
        injection e1 with _ e2 e3
        obtain ⟨p1, p2⟩ := p
        obtain ⟨q1, q2⟩ := p'
        simp only at e2 e3
        rw [e2, e3]
  have ho : s.obj = s'.obj := by
    have h1 : ((default : World).heap.push s.obj)[(default : World).heap.size]? = some s.obj := by simp
    have h2 : ((default : World).heap.push s'.obj)[(default : World).heap.size]? = some s'.obj := by simp
    have h3 : (default : World).heap.push s.obj = (default : World).heap.push s'.obj := congrArg World.heap e2
    rw [h3, h2] at h1
    exact (Option.some.inj h1).symm
  unfold Shp.obj at ho
  injection ho with o1 o2
  obtain ⟨f, t, cs⟩ := s
  obtain ⟨f', t', cs'⟩ := s'
  simp only at hf o1 o2
  have : cs = cs' := by simpa using congrArg Array.toList o1
  rw [hf, o2, this]

inductive Ext : World → FLs → World → FLs → Prop
  | refl {w FL} : Ext w FL w FL
  | step {w FL w' FL'} (s : Shp) : Ext w FL w' FL' → Ext w FL (w'.alloc s.obj) ((w'.heap.size, s) :: FL')
  | perm {w FL w' FL' FL''} : Ext w FL w' FL' → FL'.Perm FL'' → Ext w FL w' FL''
theorem Ext.trans {w1 w2 w3 : World} {F1 F2 F3 : FLs} (h : Ext w1 F1 w2 F2) (h' : Ext w2 F2 w3 F3) : Ext w1 F1 w3 F3 := by
  induction h' with
  | refl => exact h
  | step s _ ih => exact .step s ih
  | perm _ hp ih => exact .perm ih hp
theorem Ext.cons {w w' : World} {F F' : FLs} (x : Nat × Shp) (h : Ext w F w' F') : Ext w (x :: F) w' (x :: F') := by
  induction h with
  | refl => exact .refl
  | step s _ ih => exact .perm (.step s ih) (List.Perm.swap _ _ _)
  | perm _ hp ih => exact .perm ih (hp.cons x)

structure CClass (C : FLs → World → Prop) : Prop where
  ext : ∀ {F w F' w'}, C F w → Ext w F w' F' → C F' w'
  less : ∀ {x F w}, C (x :: F) w → C F w

section
variable {P : Program} {ops : Array Oper} {sf al : Oper → Bool} {C : FLs → World → Prop} {Q : Act → World → Prop}

def mOpX (P : Program) (ops : Array Oper) (sf al : Oper → Bool) (C : FLs → World → Prop) (i : Nat) (K : FLs → Act → World → Prop) (F : FLs) (a : Act) (w : World) : Prop :=
  match ops[i]? with
  | none => K F a w
  | some o =>
    if Region.wanted o (yielded ops a.tmps) = true then
      (if sf o = true then ∃ v, (∀ F' w', C F' w' → SoftAt P o a w' v) ∧ K F (a.put o.dst v) w
       else if al o = true then ∃ s, AllocAt P o a s ∧ ∀ b F', F.Perm ((b, s) :: F') → K F' (a.put o.dst (mkv s.f b)) w
       else wpN P o a w (fun a' w' => C F w' ∧ K F a' w'))
    else K F (a.put o.dst undef) w

def mAnyX (P : Program) (ops : Array Oper) (sf al : Oper → Bool) (C : FLs → World → Prop) (Q : Act → World → Prop) : Nat → Array Bool → FLs → Act → World → Prop
  | 0, listed, F, a, w => ∀ w' F', Ext w F w' F' → Region.ready .any ops listed = [] ∧ Q a w'
  | fuel + 1, listed, F, a, w => ∀ w' F', Ext w F w' F' → (Region.ready .any ops listed = [] → Q a w') ∧
      ∀ i ∈ Region.ready .any ops listed, mOpX P ops sf al C i (mAnyX P ops sf al C Q fuel (listed.setIfInBounds i true)) F' a w'
theorem mAnyX_ext {n : Nat} {listed : Array Bool} {F F' : FLs} {a : Act} {w w' : World} (h : mAnyX P ops sf al C Q n listed F a w) (he : Ext w F w' F') : mAnyX P ops sf al C Q n listed F' a w' := by
  cases n with
  | zero => exact fun w2 F2 h2 => h w2 F2 (he.trans h2)
  | succ n => exact fun w2 F2 h2 => h w2 F2 (he.trans h2)

theorem mAny_of_mAnyX (hc : CClass C) {mask : Nat} (hm : ∀ (i : Nat) o, ops[i]? = some o → (mask.testBit i = true ↔ sf o = true)) : ∀ (n : Nat) (listed : Array Bool) (a : Act) (w : World), C [] w → mAnyX P ops sf al C Q n listed [] a w → mAny P ops mask (C []) Q n listed a w
  | 0, listed, a, w, _, h => h w [] .refl
  | n + 1, listed, a, w, hw, h => by
    obtain ⟨h1, h2⟩ := h w [] .refl
    refine ⟨h1, fun i hi => ?_⟩
    have h3 := h2 i hi
    unfold mOpX at h3
    unfold mOp
    cases ho : ops[i]? with
    | none => simp only [ho] at h3 ⊢; exact mAny_of_mAnyX hc hm n _ _ _ hw h3
    | some o =>
      simp only [ho] at h3 ⊢
      by_cases hwt : Region.wanted o (yielded ops a.tmps) = true
      · rw [if_pos hwt] at h3 ⊢
        by_cases hs : sf o = true
        · rw [if_pos hs] at h3
          rw [if_pos ((hm i o ho).2 hs)]
          obtain ⟨v, h4, h5⟩ := h3
          exact ⟨v, fun w' hw' => h4 [] w' hw', mAny_of_mAnyX hc hm n _ _ _ hw h5⟩
        · rw [if_neg hs] at h3
          rw [if_neg (fun h => hs ((hm i o ho).1 h))]
          by_cases hal : al o = true
          · rw [if_pos hal] at h3
            obtain ⟨s, hs1, _⟩ := h3
            have he : Ext w [] (w.alloc s.obj) [(w.heap.size, s)] := .step s .refl
            have h4 := (h _ _ he).2 i hi
            unfold mOpX at h4
            simp only [ho] at h4
            rw [if_pos hwt, if_neg hs, if_pos hal] at h4
            obtain ⟨s', hs2, h5⟩ := h4
            obtain rfl := hs1.det hs2
            have h6 := h5 w.heap.size [] (List.Perm.refl _)
            have hcw : C [] (w.alloc s.obj) := hc.less (hc.ext hw he)
            unfold wpN
            rw [hs1 w]
            exact ⟨hcw, mAny_of_mAnyX hc hm n _ _ _ hcw h6⟩
          · rw [if_neg hal] at h3
            exact wp_mono2 (fun a' w' ⟨c, k⟩ => ⟨c, mAny_of_mAnyX hc hm n _ _ _ c k⟩) h3
      · rw [if_neg hwt] at h3 ⊢
        exact mAny_of_mAnyX hc hm n _ _ _ hw h3

/-! ### The order of the walk -/
def PairX (ops : Array Oper) (sf al : Oper → Bool) (i j : Nat) : Prop :=
  ∀ oi oj, ops[i]? = some oi → ops[j]? = some oj → (∀ d, oi.dst = some d → d ∉ oj.looksAt ops) ∧ (∀ d, oi.dst = some d → oj.dst ≠ some d) ∧ (∀ d, oj.dst = some d → d ∉ oi.looksAt ops) ∧ (sf oi = true ∨ sf oj = true ∨ al oj = true)

/-- i comes next in the walk: whatever else may come up is a pair with it. -/
def HeadX (ops : Array Oper) (sf al : Oper → Bool) (listed : Array Bool) (i : Nat) : Prop :=
  ∀ listed', (∀ k, listed.getD k true = true → listed'.getD k true = true) → Down ops listed' → i ∈ Region.ready .any ops listed' → ∀ j ∈ Region.ready .any ops listed', j ≠ i → PairX ops sf al i j

theorem HeadX.set {listed : Array Bool} {i j : Nat} (h : HeadX ops sf al listed i) : HeadX ops sf al (listed.setIfInBounds j true) i := fun l' hl => h l' fun k hk => hl k (by
  by_cases hjk : j = k
  · subst hjk
    by_cases hlt : j < listed.size
    · simp [hlt]
    · simp [hlt]
  · rw [getD_set_ne true hjk]; exact hk)

def YldX (P : Program) (ops : Array Oper) (C : FLs → World → Prop) (o : Oper) (v : Value) (a : Act) : Prop :=
  (Region.wanted o (yielded ops a.tmps) = true ∧ ∀ F w, C F w → SoftAt P o a w v) ∨ (Region.wanted o (yielded ops a.tmps) = false ∧ v = undef)
theorem YldX.of_same {o : Oper} {v : Value} {a a' : Act} (hy : YldX P ops C o v a) (he : execOp a'.eval o = execOp a.eval o)
    (hw : Region.wanted o (yielded ops a'.tmps) = Region.wanted o (yielded ops a.tmps)) : YldX P ops C o v a' := by
  unfold YldX SoftAt at *
  rw [he, hw]
  exact hy
theorem YldX.mOpX {i : Nat} {o : Oper} {v : Value} {a : Act} {w : World} {F : FLs} (hi : ops[i]? = some o) (hm : sf o = true ∨ Region.wanted o (yielded ops a.tmps) = false) (hy : YldX P ops C o v a) {K : FLs → Act → World → Prop} (h : K F (a.put o.dst v) w) : mOpX P ops sf al C i K F a w := by
  unfold Proofs.YtihboegopigkmaaDoor.mOpX
  simp only [hi]
  rcases hy with ⟨hw, hv⟩ | ⟨hw, rfl⟩
  · rw [if_pos hw]
    rcases hm with hm | hm
    · rw [if_pos hm]; exact ⟨v, hv, h⟩
    · rw [hw] at hm; cases hm
  · rw [if_neg (by rw [hw]; exact Bool.false_ne_true)]; exact h

theorem allocAt_same {o : Oper} {a a' : Act} {s : Shp} (he : execOp a'.eval o = execOp a.eval o) (h : AllocAt P o a s) : AllocAt P o a' s := by
  unfold AllocAt at *; rw [he]; exact h
theorem softAt_same {o : Oper} {a a' : Act} {w : World} {v : Value} (he : execOp a'.eval o = execOp a.eval o) (h : SoftAt P o a w v) : SoftAt P o a' w v := by
  unfold SoftAt at *; rw [he]; exact h

theorem soft_firstX (hsel : ∀ (j : Nat) (o : Oper) cs b, ops[j]? = some o → o.op ≠ .select cs b) (hc : CClass C) {i : Nat} {oi : Oper} {v : Value} (hi : ops[i]? = some oi) : ∀ (fuel : Nat) (listed : Array Bool) (F : FLs) (a : Act) (w : World), HeadX ops sf al listed i → Down ops listed → C F w → i ∈ Region.ready .any ops listed →
    (sf oi = true ∨ Region.wanted oi (yielded ops a.tmps) = false) → YldX P ops C oi v a → mAnyX P ops sf al C Q fuel (listed.setIfInBounds i true) F (a.put oi.dst v) w → mAnyX P ops sf al C Q (fuel + 1) listed F a w := by
  intro fuel
  induction fuel with
  | zero =>
    intro listed F a w hh hd hw hr hm hy H w' F' he
    refine ⟨fun h => (by rw [h] at hr; cases hr), fun j hj => ?_⟩
    by_cases hji : j = i
    · subst hji; exact hy.mOpX hi hm (mAnyX_ext H he)
    · have := ready_mono hj hji
      rw [(H w' F' he).1] at this
      cases this
  | succ fuel ih =>
    intro listed F a w hh hd hw hr hm hy H w' F' he
    have hw' := hc.ext hw he
    refine ⟨fun h => (by rw [h] at hr; cases hr), fun j hj => ?_⟩
    by_cases hji : j = i
    · subst hji; exact hy.mOpX hi hm (mAnyX_ext H he)
    · have h1 := (H w' F' he).2 j (ready_mono hj hji)
      obtain ⟨_, oj, hoj, _⟩ := mem_ready.1 hj
      obtain ⟨p1, p2, p3, _⟩ := hh listed (fun _ h => h) hd hr j hj hji oi oj hi hoj
      have comm : (listed.setIfInBounds i true).setIfInBounds j true = (listed.setIfInBounds j true).setIfInBounds i true := Array.setIfInBounds_comm _ _ (Ne.symm hji)
      have keep : ∀ (u : Value) (ds : List Deferred), YldX P ops C oi v (({ a with defers := ds } : Act).put oj.dst u) := fun u ds =>
        hy.of_same (execOp_put oi (fun cs b => hsel i oi cs b hi) _ oj.dst u p3) (wanted_put oi _ oj.dst u p3)
      have keepm : ∀ (u : Value) (ds : List Deferred), sf oi = true ∨ Region.wanted oi (yielded ops (({ a with defers := ds } : Act).put oj.dst u).tmps) = false := fun u ds => by
        rw [wanted_put oi _ oj.dst u p3]; exact hm
      have step : ∀ (u : Value) (ds : List Deferred) (F1 : FLs) (w1 : World), C F1 w1 → mAnyX P ops sf al C Q fuel ((listed.setIfInBounds i true).setIfInBounds j true) F1 ((({ a with defers := ds } : Act).put oj.dst u).put oi.dst v) w1 →
          mAnyX P ops sf al C Q (fuel + 1) (listed.setIfInBounds j true) F1 (({ a with defers := ds } : Act).put oj.dst u) w1 := fun u ds F1 w1 hw1 h =>
        ih (listed.setIfInBounds j true) F1 _ w1 hh.set (hd.set hj) hw1 (ready_mono hr (Ne.symm hji)) (keepm u ds) (keep u ds) (by rw [← comm]; exact h)
      have hex : ∀ x, execOp (a.put oi.dst x).eval oj = execOp a.eval oj := fun x => execOp_put oj (fun cs b => hsel j oj cs b hoj) a oi.dst x p1
      unfold mOpX at h1 ⊢
      simp only [hoj] at h1 ⊢
      rw [wanted_put oj a oi.dst v p1] at h1
      by_cases hwt : Region.wanted oj (yielded ops a.tmps) = true
      · rw [if_pos hwt] at h1 ⊢
        by_cases hmj : sf oj = true
        · rw [if_pos hmj] at h1 ⊢
          obtain ⟨u, hu, hn⟩ := h1
          exact ⟨u, fun F1 w1 hw1 => softAt_same (hex v).symm (hu F1 w1 hw1), step u a.defers F' w' hw' (by rw [← Act.put_comm _ v u p2]; exact hn)⟩
        · rw [if_neg hmj] at h1 ⊢
          by_cases haj : al oj = true
          · rw [if_pos haj] at h1 ⊢
            obtain ⟨s, hs, hn⟩ := h1
            refine ⟨s, allocAt_same (hex v).symm hs, fun b F2 hp => step _ a.defers F2 w' (hc.less (hc.ext hw' (.perm .refl hp))) ?_⟩
            rw [← Act.put_comm _ v _ p2]
            exact hn b F2 hp
          · rw [if_neg haj] at h1 ⊢
            unfold wpN at h1 ⊢
            rw [hex v] at h1
            refine upon_put p2 (fun a' w1 ⟨u, ds, ha⟩ hk => ?_) h1
            subst ha
            exact ⟨hk.1, step u ds F' w1 hk.1 hk.2⟩
      · rw [if_neg hwt] at h1 ⊢
        exact step undef a.defers F' w' hw' (by rw [← Act.put_comm _ v undef p2]; exact h1)

theorem hard_firstX (hsel : ∀ (j : Nat) (o : Oper) cs b, ops[j]? = some o → o.op ≠ .select cs b) (hc : CClass C) {i : Nat} {oi : Oper} (hi : ops[i]? = some oi) (hsi : ¬ sf oi = true) (hai : ¬ al oi = true) : ∀ (fuel : Nat) (listed : Array Bool) (F : FLs) (a : Act) (w : World), HeadX ops sf al listed i → Down ops listed → C F w → i ∈ Region.ready .any ops listed →
    Region.wanted oi (yielded ops a.tmps) = true → (∀ w' F', Ext w F w' F' → wpN P oi a w' (fun a1 w1 => C F' w1 ∧ mAnyX P ops sf al C Q fuel (listed.setIfInBounds i true) F' a1 w1)) → mAnyX P ops sf al C Q (fuel + 1) listed F a w := by
  intro fuel
  induction fuel with
  | zero =>
    intro listed F a w hh hd hw hr hwt H w' F' he
    refine ⟨fun h => (by rw [h] at hr; cases hr), fun j hj => ?_⟩
    by_cases hji : j = i
    · subst hji
      unfold mOpX
      simp only [hi]
      rw [if_pos hwt, if_neg hsi, if_neg hai]
      exact H w' F' he
    · obtain ⟨a1, w1, ⟨_, h0⟩, _⟩ := wp_some (H w' F' he)
      have := ready_mono hj hji
      rw [(h0 _ _ .refl).1] at this
      cases this
  | succ fuel ih =>
    intro listed F a w hh hd hw hr hwt H w' F' he
    have hw' := hc.ext hw he
    refine ⟨fun h => (by rw [h] at hr; cases hr), fun j hj => ?_⟩
    by_cases hji : j = i
    · subst hji
      unfold mOpX
      simp only [hi]
      rw [if_pos hwt, if_neg hsi, if_neg hai]
      exact H w' F' he
    · obtain ⟨_, oj, hoj, _⟩ := mem_ready.1 hj
      obtain ⟨p1, p2, p3, pm⟩ := hh listed (fun _ h => h) hd hr j hj hji oi oj hi hoj
      have pm : sf oj = true ∨ al oj = true := pm.resolve_left hsi
      have comm : (listed.setIfInBounds i true).setIfInBounds j true = (listed.setIfInBounds j true).setIfInBounds i true := Array.setIfInBounds_comm _ _ (Ne.symm hji)
      have rj := ready_mono (i := i) hj hji
      have hexj : ∀ (u : Value) (ds : List Deferred), execOp (({ a with defers := ds } : Act).put oi.dst u).eval oj = execOp a.eval oj := fun u ds => execOp_put oj (fun cs b => hsel j oj cs b hoj) ({ a with defers := ds } : Act) oi.dst u p1
      have hwj : ∀ (u : Value) (ds : List Deferred), Region.wanted oj (yielded ops (({ a with defers := ds } : Act).put oi.dst u).tmps) = Region.wanted oj (yielded ops a.tmps) := fun u ds => wanted_put oj ({ a with defers := ds } : Act) oi.dst u p1
      have hexi : ∀ x, execOp (a.put oj.dst x).eval oi = execOp a.eval oi := fun x => execOp_put oi (fun cs b => hsel i oi cs b hi) a oj.dst x p3
      have hwi : ∀ x, Region.wanted oi (yielded ops (a.put oj.dst x).tmps) = true := fun x => by rw [wanted_put oi a oj.dst x p3]; exact hwt
      obtain ⟨a1, w1, ⟨hw1, h1⟩, u1, ds1, rfl⟩ := wp_some (H w' F' he)
      have h1 := (h1 w1 F' .refl).2 j rj
      unfold mOpX at h1 ⊢
      simp only [hoj] at h1 ⊢
      rw [hwj] at h1
      -- whatever j leaves in its slot, i may still come
      have go : ∀ (x : Value) (F1 : FLs), C F1 w' → (∀ w2 F2, Ext w' F1 w2 F2 → ∀ (u : Value) (ds : List Deferred) (w3 : World), ∃ F3, Ext w' F' w2 F3 ∧ (C F3 w3 → mAnyX P ops sf al C Q (fuel + 1) (listed.setIfInBounds i true) F3 (({ a with defers := ds } : Act).put oi.dst u) w3 → C F2 w3 ∧ mAnyX P ops sf al C Q fuel ((listed.setIfInBounds i true).setIfInBounds j true) F2 ((({ a with defers := ds } : Act).put oi.dst u).put oj.dst x) w3)) →
          (∀ w2 F2, Ext w' F1 w2 F2 → ∃ F3, Ext w' F' w2 F3 ∧ ∀ (u : Value) (ds : List Deferred) (w3 : World), C F3 w3 → mAnyX P ops sf al C Q (fuel + 1) (listed.setIfInBounds i true) F3 (({ a with defers := ds } : Act).put oi.dst u) w3 → C F2 w3 ∧ mAnyX P ops sf al C Q fuel ((listed.setIfInBounds i true).setIfInBounds j true) F2 ((({ a with defers := ds } : Act).put oi.dst u).put oj.dst x) w3) →
          mAnyX P ops sf al C Q (fuel + 1) (listed.setIfInBounds j true) F1 (a.put oj.dst x) w' := by
        intro x F1 hc1 _ hx
        refine ih (listed.setIfInBounds j true) F1 _ w' hh.set (hd.set hj) hc1 (ready_mono hr (Ne.symm hji)) (hwi x) fun w2 F2 he2 => ?_
        obtain ⟨F3, he3, hx3⟩ := hx w2 F2 he2
        have H3 := H w2 F3 (he.trans he3)
        unfold wpN at H3 ⊢
        rw [hexi]
        refine upon_put' (fun d hd' he' => p2 d he' hd') (fun a' w3 ⟨u, ds, ha⟩ hk => ?_) H3
        subst ha
        rw [← comm]
        exact hx3 u ds w3 hk.1 hk.2
      by_cases hwtj : Region.wanted oj (yielded ops a.tmps) = true
      · rw [if_pos hwtj] at h1 ⊢
        by_cases hmj : sf oj = true
        · rw [if_pos hmj] at h1 ⊢
          obtain ⟨v, hv, _⟩ := h1
          have hv' : ∀ F1 w1, C F1 w1 → SoftAt P oj a w1 v := fun F1 w1 hw1 => softAt_same (hexj u1 ds1).symm (hv F1 w1 hw1)
          have key : ∀ w2 F2, Ext w' F' w2 F2 → ∃ F3, Ext w' F' w2 F3 ∧ ∀ (u : Value) (ds : List Deferred) (w3 : World), C F3 w3 → mAnyX P ops sf al C Q (fuel + 1) (listed.setIfInBounds i true) F3 (({ a with defers := ds } : Act).put oi.dst u) w3 → C F2 w3 ∧ mAnyX P ops sf al C Q fuel ((listed.setIfInBounds i true).setIfInBounds j true) F2 ((({ a with defers := ds } : Act).put oi.dst u).put oj.dst v) w3 := by
            intro w2 F2 he2
            refine ⟨F2, he2, fun u ds w3 hc3 hm3 => ⟨hc3, ?_⟩⟩
            have h3 := (hm3 w3 F2 .refl).2 j rj
            unfold mOpX at h3
            simp only [hoj] at h3
            rw [hwj, if_pos hwtj, if_pos hmj] at h3
            obtain ⟨v', hv2, h4⟩ := h3
            obtain rfl : v = v' := (hv' F' w' hw').det (softAt_same (hexj u ds).symm (hv2 F' w' hw'))
            exact h4
          exact ⟨v, hv', go v F' hw' (fun w2 F2 he2 u ds w3 => by obtain ⟨F3, h1, h2⟩ := key w2 F2 he2; exact ⟨F3, h1, h2 u ds w3⟩) key⟩
        · have haj : al oj = true := pm.resolve_left hmj
          rw [if_neg hmj, if_pos haj] at h1 ⊢
          obtain ⟨s, hs, _⟩ := h1
          have hs' : AllocAt P oj a s := allocAt_same (hexj u1 ds1).symm hs
          refine ⟨s, hs', fun b F1 hp => ?_⟩
          have hc1 : C F1 w' := hc.less (hc.ext hw' (.perm .refl hp))
          have key : ∀ w2 F2, Ext w' F1 w2 F2 → ∃ F3, Ext w' F' w2 F3 ∧ ∀ (u : Value) (ds : List Deferred) (w3 : World), C F3 w3 → mAnyX P ops sf al C Q (fuel + 1) (listed.setIfInBounds i true) F3 (({ a with defers := ds } : Act).put oi.dst u) w3 → C F2 w3 ∧ mAnyX P ops sf al C Q fuel ((listed.setIfInBounds i true).setIfInBounds j true) F2 ((({ a with defers := ds } : Act).put oi.dst u).put oj.dst (mkv s.f b)) w3 := by
            intro w2 F2 he2
            refine ⟨(b, s) :: F2, (Ext.perm .refl hp).trans (he2.cons (b, s)), fun u ds w3 hc3 hm3 => ⟨hc.less hc3, ?_⟩⟩
            have h3 := (hm3 w3 _ .refl).2 j rj
            unfold mOpX at h3
            simp only [hoj] at h3
            rw [hwj, if_pos hwtj, if_neg hmj, if_pos haj] at h3
            obtain ⟨s', hs2, h4⟩ := h3
            obtain rfl := hs'.det (allocAt_same (hexj u ds).symm hs2)
            exact h4 b F2 (List.Perm.refl _)
          exact go _ F1 hc1 (fun w2 F2 he2 u ds w3 => by obtain ⟨F3, h1, h2⟩ := key w2 F2 he2; exact ⟨F3, h1, h2 u ds w3⟩) key
      · rw [if_neg hwtj] at h1 ⊢
        have key : ∀ w2 F2, Ext w' F' w2 F2 → ∃ F3, Ext w' F' w2 F3 ∧ ∀ (u : Value) (ds : List Deferred) (w3 : World), C F3 w3 → mAnyX P ops sf al C Q (fuel + 1) (listed.setIfInBounds i true) F3 (({ a with defers := ds } : Act).put oi.dst u) w3 → C F2 w3 ∧ mAnyX P ops sf al C Q fuel ((listed.setIfInBounds i true).setIfInBounds j true) F2 ((({ a with defers := ds } : Act).put oi.dst u).put oj.dst undef) w3 := by
          intro w2 F2 he2
          refine ⟨F2, he2, fun u ds w3 hc3 hm3 => ⟨hc3, ?_⟩⟩
          have h3 := (hm3 w3 F2 .refl).2 j rj
          unfold mOpX at h3
          simp only [hoj] at h3
          rw [hwj, if_neg hwtj] at h3
          exact h3
        exact go undef F' hw' (fun w2 F2 he2 u ds w3 => by obtain ⟨F3, h1, h2⟩ := key w2 F2 he2; exact ⟨F3, h1, h2 u ds w3⟩) key

theorem alloc_firstX (hsel : ∀ (j : Nat) (o : Oper) cs b, ops[j]? = some o → o.op ≠ .select cs b) (hc : CClass C) {i : Nat} {oi : Oper} (hi : ops[i]? = some oi) (hsi : ¬ sf oi = true) (hai : al oi = true) (s : Shp) : ∀ (fuel : Nat) (listed : Array Bool) (F : FLs) (a : Act) (w : World), HeadX ops sf al listed i → Down ops listed → C F w → i ∈ Region.ready .any ops listed →
    Region.wanted oi (yielded ops a.tmps) = true → AllocAt P oi a s → (∀ w' F', Ext w F w' F' → ∀ b F1, F'.Perm ((b, s) :: F1) → mAnyX P ops sf al C Q fuel (listed.setIfInBounds i true) F1 (a.put oi.dst (mkv s.f b)) w') → mAnyX P ops sf al C Q (fuel + 1) listed F a w := by
  intro fuel
  induction fuel with
  | zero =>
    intro listed F a w hh hd hw hr hwt hA H w' F' he
    refine ⟨fun h => (by rw [h] at hr; cases hr), fun j hj => ?_⟩
    by_cases hji : j = i
    · subst hji
      unfold mOpX
      simp only [hi]
      rw [if_pos hwt, if_neg hsi, if_pos hai]
      exact ⟨s, hA, H w' F' he⟩
    · have h0 := H _ _ (.step s he) w'.heap.size F' (List.Perm.refl _)
      have := ready_mono hj hji
      rw [(h0 _ _ .refl).1] at this
      cases this
  | succ fuel ih =>
    intro listed F a w hh hd hw hr hwt hA H w' F' he
    have hw' := hc.ext hw he
    refine ⟨fun h => (by rw [h] at hr; cases hr), fun j hj => ?_⟩
    by_cases hji : j = i
    · subst hji
      unfold mOpX
      simp only [hi]
      rw [if_pos hwt, if_neg hsi, if_pos hai]
      exact ⟨s, hA, H w' F' he⟩
    · obtain ⟨_, oj, hoj, _⟩ := mem_ready.1 hj
      obtain ⟨p1, p2, p3, pm⟩ := hh listed (fun _ h => h) hd hr j hj hji oi oj hi hoj
      have pm : sf oj = true ∨ al oj = true := pm.resolve_left hsi
      have comm : (listed.setIfInBounds i true).setIfInBounds j true = (listed.setIfInBounds j true).setIfInBounds i true := Array.setIfInBounds_comm _ _ (Ne.symm hji)
      have rj := ready_mono (i := i) hj hji
      have hexj : ∀ (u : Value), execOp (a.put oi.dst u).eval oj = execOp a.eval oj := fun u => execOp_put oj (fun cs b => hsel j oj cs b hoj) a oi.dst u p1
      have hwj : ∀ (u : Value), Region.wanted oj (yielded ops (a.put oi.dst u).tmps) = Region.wanted oj (yielded ops a.tmps) := fun u => wanted_put oj a oi.dst u p1
      have hexi : ∀ x, execOp (a.put oj.dst x).eval oi = execOp a.eval oi := fun x => execOp_put oi (fun cs b => hsel i oi cs b hi) a oj.dst x p3
      have hwi : ∀ x, Region.wanted oi (yielded ops (a.put oj.dst x).tmps) = true := fun x => by rw [wanted_put oi a oj.dst x p3]; exact hwt
      have pc : ∀ u x, (a.put oi.dst u).put oj.dst x = (a.put oj.dst x).put oi.dst u := fun u x => Act.put_comm a u x p2
      have h1 := H _ _ (.step s he) w'.heap.size F' (List.Perm.refl _)
      have h1 := (h1 _ _ .refl).2 j rj
      unfold mOpX at h1 ⊢
      simp only [hoj] at h1 ⊢
      rw [hwj] at h1
      have go : ∀ (x : Value) (F1 : FLs), C F1 w' → (∀ w2 F2, Ext w' F1 w2 F2 → ∀ b F3, F2.Perm ((b, s) :: F3) → mAnyX P ops sf al C Q fuel ((listed.setIfInBounds i true).setIfInBounds j true) F3 ((a.put oi.dst (mkv s.f b)).put oj.dst x) w2) →
          mAnyX P ops sf al C Q (fuel + 1) (listed.setIfInBounds j true) F1 (a.put oj.dst x) w' := by
        intro x F1 hc1 hx
        refine ih (listed.setIfInBounds j true) F1 _ w' hh.set (hd.set hj) hc1 (ready_mono hr (Ne.symm hji)) (hwi x) (allocAt_same (hexi x) hA) fun w2 F2 he2 b F3 hp => ?_
        rw [← comm, ← pc]
        exact hx w2 F2 he2 b F3 hp
      by_cases hwtj : Region.wanted oj (yielded ops a.tmps) = true
      · rw [if_pos hwtj] at h1 ⊢
        by_cases hmj : sf oj = true
        · rw [if_pos hmj] at h1 ⊢
          obtain ⟨v, hv, _⟩ := h1
          have hv' : ∀ F1 w1, C F1 w1 → SoftAt P oj a w1 v := fun F1 w1 hw1 => softAt_same (hexj _).symm (hv F1 w1 hw1)
          refine ⟨v, hv', go v F' hw' fun w2 F2 he2 b F3 hp => ?_⟩
          have h3 := (H w2 F2 (he.trans he2) b F3 hp w2 F3 .refl).2 j rj
          unfold mOpX at h3
          simp only [hoj] at h3
          rw [hwj, if_pos hwtj, if_pos hmj] at h3
          obtain ⟨v', hv2, h4⟩ := h3
          obtain rfl : v = v' := (hv' F' w' hw').det (softAt_same (hexj _).symm (hv2 F' w' hw'))
          exact h4
        · have haj : al oj = true := pm.resolve_left hmj
          rw [if_neg hmj, if_pos haj] at h1 ⊢
          obtain ⟨sj, hs, _⟩ := h1
          have hs' : AllocAt P oj a sj := allocAt_same (hexj _).symm hs
          refine ⟨sj, hs', fun b' F1 hp => go _ F1 (hc.less (hc.ext hw' (.perm .refl hp))) fun w2 F2 he2 b F3 hp2 => ?_⟩
          have hE : Ext w' F' w2 ((b', sj) :: F2) := (Ext.perm .refl hp).trans (he2.cons (b', sj))
          have hP : ((b', sj) :: F2).Perm ((b, s) :: (b', sj) :: F3) := (hp2.cons _).trans (List.Perm.swap _ _ _)
          have h3 := (H w2 _ (he.trans hE) b _ hP w2 _ .refl).2 j rj
          unfold mOpX at h3
          simp only [hoj] at h3
          rw [hwj, if_pos hwtj, if_neg hmj, if_pos haj] at h3
          obtain ⟨s', hs2, h4⟩ := h3
          obtain rfl := hs'.det (allocAt_same (hexj _).symm hs2)
          exact h4 b' F3 (List.Perm.refl _)
      · rw [if_neg hwtj] at h1 ⊢
        refine go undef F' hw' fun w2 F2 he2 b F3 hp => ?_
        have h3 := (H w2 F2 (he.trans he2) b F3 hp w2 F3 .refl).2 j rj
        unfold mOpX at h3
        simp only [hoj] at h3
        rw [hwj, if_neg hwtj] at h3
        exact h3
/-! ### What is asked of the order -/
def ordOK (ops : Array Oper) (sf al : Oper → Bool) (A : List Nat) : List Nat → Nat → Bool
  | [], m => m == 2 ^ ops.size - 1
  | i :: π, m => match ops[i]? with
    | none => false
    | some o => !m.testBit i && (o.after.toList.all fun e => !Region.binds .any e || m.testBit e.on) &&
      (sf o || π.all fun j => (A.getD j 0).testBit i || (match ops[j]? with | some oj => sf oj || al oj | none => false)) && ordOK ops sf al A π (m ||| 2 ^ i)
def regX (ops : Array Oper) (sf al : Oper → Bool) (π : List Nat) : Bool := regOK ops (2 ^ ops.size - 1) && ordOK ops sf al (ancs ops.toList []) π 0

theorem good_of_regOK' {mask : Nat} (h : regOK ops mask = true) : Good ops mask (ancs ops.toList []) := by
  simp only [regOK, Bool.and_eq_true] at h
  obtain ⟨h1, h2⟩ := h
  refine ⟨?_, ?_, ?_, fun j o cs b ho => Region.noSelect_spec h1 j o cs b ho⟩
  · intro j o ho m hm
    obtain ⟨⟨e1, _⟩, _⟩ := allOK_spec _ _ h2 j o (by simpa using ho)
    rw [Nat.zero_add] at e1
    rw [e1] at hm
    rcases ancOf_spec _ _ 0 m hm with h0 | ⟨e, he, hb, h0⟩
    · simp at h0
    · exact ⟨e, by simpa using he, hb, h0⟩
  · intro j o ho e he hb
    obtain ⟨⟨_, e2⟩, _⟩ := allOK_spec _ _ h2 j o (by simpa using ho)
    simpa using e2 e he hb
  · intro k j x y hx hy hkj
    obtain ⟨_, e3⟩ := allOK_spec _ _ h2 k x (by simpa using hx)
    have := e3 j y hkj (by simpa using hy)
    simpa [pairOK] using this

theorem ordOK_all {A : List Nat} : ∀ (π : List Nat) (m : Nat), ordOK ops sf al A π m = true → ∀ j, j < ops.size → m.testBit j = true ∨ j ∈ π
  | [], m, h, j, hj => by
    left
    simp only [ordOK, beq_iff_eq] at h
    rw [h, Nat.testBit_two_pow_sub_one]
    simpa using hj
  | i :: π, m, h, j, hj => by
    unfold ordOK at h
    cases ho : ops[i]? with
    | none => simp only [ho] at h; cases h
    | some o =>
      simp only [ho, Bool.and_eq_true] at h
      rcases ordOK_all π _ h.2 j hj with h1 | h1
      · simp only [Nat.testBit_or, Bool.or_eq_true, Nat.testBit_two_pow, decide_eq_true_eq] at h1
        rcases h1 with h1 | h1
        · exact .inl h1
        · subst h1; exact .inr (.head _)
      · exact .inr (.tail _ h1)

def pickL : List Oper → List Nat → List Oper
  | _, [] => []
  | os, i :: π => match os[i]? with
    | some o => o :: pickL os π
    | none => pickL os π

/-- The walk in that order. -/
def wpX (P : Program) (T : List (Option Tmp)) (sf al : Oper → Bool) (C : FLs → World → Prop) (Q : Act → World → Prop) : List Oper → FLs → Act → World → Prop
  | [], F, a, w => ∀ w' F', Ext w F w' F' → Q a w'
  | o :: rest, F, a, w =>
    if wantT T a o = true then
      (if sf o = true then ∃ v, (∀ F' w', C F' w' → SoftAt P o a w' v) ∧ wpX P T sf al C Q rest F (a.put o.dst v) w
       else if al o = true then ∃ s, AllocAt P o a s ∧ ∀ w' F', Ext w F w' F' → ∀ b F1, F'.Perm ((b, s) :: F1) → wpX P T sf al C Q rest F1 (a.put o.dst (mkv s.f b)) w'
       else ∀ w' F', Ext w F w' F' → wpN P o a w' (fun a' w'' => C F' w'' ∧ wpX P T sf al C Q rest F' a' w''))
    else wpX P T sf al C Q rest F (a.put o.dst undef) w

theorem mAnyX_of_wpX {mask : Nat} {A : List Nat} (g : Good ops mask A) (hc : CClass C) : ∀ (π : List Nat) (m : Nat) (listed : Array Bool) (F : FLs) (a : Act) (w : World), ordOK ops sf al A π m = true → listed.size = ops.size → (∀ j, j < ops.size → listed.getD j false = m.testBit j) →
    Down ops listed → C F w → wpX P (ops.toList.map (·.dst)) sf al C Q (pickL ops.toList π) F a w → mAnyX P ops sf al C Q π.length listed F a w
  | [], m, listed, F, a, w, ho, hs, hp, hd, hw, h => by
    refine fun w' F' he => ⟨?_, h w' F' he⟩
    cases hr : Region.ready .any ops listed with
    | nil => rfl
    | cons i r =>
      exfalso
      have hi : i ∈ Region.ready .any ops listed := by rw [hr]; exact .head _
      obtain ⟨hu, oi, hoi, _⟩ := mem_ready.1 hi
      have hlt : i < ops.size := by
        rcases Nat.lt_or_ge i ops.size with h' | h'
        · exact h'
        · rw [Array.getElem?_eq_none h'] at hoi; cases hoi
      have h1 := hp i hlt
      rcases ordOK_all [] m ho i hlt with h2 | h2
      · rw [h2] at h1
        simp [hs, hlt] at h1 hu
        rw [h1] at hu; cases hu
      · cases h2
  | i :: π, m, listed, F, a, w, ho, hs, hp, hd, hw, h => by
    have hall := ordOK_all (i :: π) m ho
    unfold ordOK at ho
    cases hoi : ops[i]? with
    | none => simp only [hoi] at ho; cases ho
    | some o =>
      simp only [hoi, Bool.and_eq_true] at ho
      obtain ⟨⟨⟨ho1, ho2⟩, ho3⟩, ho4⟩ := ho
      have hlt : i < ops.size := by
        rcases Nat.lt_or_ge i ops.size with h' | h'
        · exact h'
        · rw [Array.getElem?_eq_none h'] at hoi; cases hoi
      have hli : listed.getD i false = false := by rw [hp i hlt]; simpa using ho1
      have hr : i ∈ Region.ready .any ops listed := by
        refine mem_ready.2 ⟨?_, o, hoi, fun e he hb => ?_⟩
        · simp [hs, hlt] at hli ⊢; exact hli
        · have h1 := List.all_eq_true.1 ho2 e (by simpa using he)
          rw [hb] at h1
          have h2 := g.edge i o hoi e he hb
          rw [hp e.on (by omega)]
          simpa using h1
      have hh : HeadX ops sf al listed i := by
        intro listed' hsub hd' hri j hj hji oi oj hoi' hoj
        rw [hoi] at hoi'; obtain rfl := Option.some.inj hoi'
        obtain ⟨p1, p2, p3, _⟩ := g.both hd' hoi hoj hri hj hji
        refine ⟨p1, p2, p3, ?_⟩
        have hjlt : j < ops.size := by
          rcases Nat.lt_or_ge j ops.size with h' | h'
          · exact h'
          · rw [Array.getElem?_eq_none h'] at hoj; cases hoj
        obtain ⟨huj, oj', hoj', halj⟩ := mem_ready.1 hj
        rw [hoj] at hoj'; obtain rfl := Option.some.inj hoj'
        have hmj : ¬ m.testBit j = true := fun hmj => by
          have h1 := hp j hjlt
          rw [hmj] at h1
          have h2 := hsub j (by simp [hs, hjlt] at h1 ⊢; exact h1)
          rw [huj] at h2; cases h2
        have hjπ : j ∈ π := by
          rcases hall j hjlt with h1 | h1
          · exact absurd h1 hmj
          · rcases List.mem_cons.1 h1 with h2 | h2
            · exact absurd h2 hji
            · exact h2
        rcases Bool.or_eq_true _ _ ▸ ho3 with h1 | h1
        · exact .inl h1
        · have h2 := List.all_eq_true.1 h1 j hjπ
          rw [Bool.or_eq_true] at h2
          rcases h2 with h2 | h2
          · exfalso
            have h3 := g.listed hd' j oj hoj halj i h2
            obtain ⟨hui, _⟩ := mem_ready.1 hri
            rcases Nat.lt_or_ge i listed'.size with h' | h'
            · simp [h'] at hui h3; rw [hui] at h3; cases h3
            · simp [Array.getElem?_eq_none h'] at h3
          · simp only [hoj, Bool.or_eq_true] at h2
            exact .inr h2
      have next : ∀ (F1 : FLs) (a' : Act) (w' : World), C F1 w' → wpX P (ops.toList.map (·.dst)) sf al C Q (pickL ops.toList π) F1 a' w' → mAnyX P ops sf al C Q π.length (listed.setIfInBounds i true) F1 a' w' := fun F1 a' w' hw' h' =>
        mAnyX_of_wpX g hc π _ _ F1 a' w' ho4 (by simpa using hs) (fun j hj => by
          rw [Nat.testBit_or, Nat.testBit_two_pow, ← hp j hj]
          by_cases hij : i = j
          · subst hij
            simp [hs, hlt]
          · rw [getD_set_ne false hij]
            simp [hij]) (hd.set hr) hw' h'
      have hpk : pickL ops.toList (i :: π) = o :: pickL ops.toList π := by
        have : ops.toList[i]? = some o := by simpa using hoi
        simp only [pickL, this]
      rw [hpk] at h
      unfold wpX at h
      rw [← wantT_eq] at h
      by_cases hwt : Region.wanted o (yielded ops a.tmps) = true
      · rw [if_pos hwt] at h
        by_cases hsf : sf o = true
        · rw [if_pos hsf] at h
          obtain ⟨v, hv, hn⟩ := h
          exact soft_firstX g.sel hc hoi π.length listed F a w hh hd hw hr (.inl hsf) (.inl ⟨hwt, hv⟩) (next F _ _ hw hn)
        · rw [if_neg hsf] at h
          by_cases hal : al o = true
          · rw [if_pos hal] at h
            obtain ⟨s, hA, hn⟩ := h
            exact alloc_firstX g.sel hc hoi hsf hal s π.length listed F a w hh hd hw hr hwt hA fun w' F' he b F1 hp1 => next F1 _ _ (hc.less (hc.ext hw (.perm he hp1))) (hn w' F' he b F1 hp1)
          · rw [if_neg hal] at h
            exact hard_firstX g.sel hc hoi hsf hal π.length listed F a w hh hd hw hr hwt fun w' F' he => wp_mono2 (fun a1 w1 ⟨c, n⟩ => ⟨c, next F' a1 w1 c n⟩) (h w' F' he)
      · rw [if_neg hwt] at h
        exact soft_firstX g.sel hc hoi π.length listed F a w hh hd hw hr (.inr (by simpa using hwt)) (.inr ⟨by simpa using hwt, rfl⟩) (next F _ _ hw h)
end

theorem ordOK_len {ops : Array Oper} {sf al : Oper → Bool} {A : List Nat} : ∀ (π : List Nat) (m : Nat), ordOK ops sf al A π m = true → (∀ i ∈ π, i < ops.size ∧ m.testBit i = false) ∧ π.Nodup
  | [], _, _ => ⟨by simp, .nil⟩
  | i :: π, m, h => by
    unfold ordOK at h
    cases hoi : ops[i]? with
    | none => simp only [hoi] at h; cases h
    | some o =>
      simp only [hoi, Bool.and_eq_true] at h
      obtain ⟨⟨⟨h1, _⟩, _⟩, h4⟩ := h
      obtain ⟨h5, h6⟩ := ordOK_len π _ h4
      have hlt : i < ops.size := by
        rcases Nat.lt_or_ge i ops.size with h' | h'
        · exact h'
        · rw [Array.getElem?_eq_none h'] at hoi; cases hoi
      refine ⟨fun j hj => ?_, List.nodup_cons.2 ⟨fun hi => ?_, h6⟩⟩
      · rcases List.mem_cons.1 hj with rfl | hj
        · exact ⟨hlt, by simpa using h1⟩
        · have := h5 j hj
          refine ⟨this.1, ?_⟩
          have h7 := this.2
          rw [Nat.testBit_or, Bool.or_eq_false_iff] at h7
          exact h7.1
      · have := (h5 i hi).2
        rw [Nat.testBit_or, Nat.testBit_two_pow] at this
        simp at this

/-- A region that draws its order, walked in an order of ours. -/
theorem wp_region_X {P : Program} {id : Nat} {Q : Exit → Act → World → Prop} {a : Act} {w : World} {os : List Oper} (sf al : Oper → Bool) {C : FLs → World → Prop} (π : List Nat) (hc : CClass C) (hm : P.follows .mixedOrders = true) (hB : regX os.toArray sf al π = true) (hlen : π.length = os.length) (hC : C [] w.drew)
    (h : wpX P (os.map (·.dst)) sf al C (Q .normal) (pickL os π) [] a w.drew) {r : Option Nat} : (Code.region id os.toArray true).wpIn (FW r) 0 P Q a w := by
  simp only [regX, Bool.and_eq_true] at hB
  have g := good_of_regOK' hB.1
  refine wpIn_region_any hm (wpAny_of_mAny (mask := maskGo sf os 0) (C := C []) _ _ _ _ hC ?_)
  refine mAny_of_mAnyX (sf := sf) (al := al) hc (fun i o ho => ?_) _ _ _ _ hC ?_
  · rw [maskGo_test]
    have : os[i]? = some o := by simpa using ho
    simp [this]
  · have := mAnyX_of_wpX (P := P) (sf := sf) (al := al) (C := C) (Q := Q .normal) g hc π 0 (Array.replicate os.toArray.size false) [] a w.drew hB.2 (by simp) (fun j hj => by simp at hj; simp [hj]) (fun j o ho hj => by
      exfalso
      have hlt : j < os.toArray.size := by
        rcases Nat.lt_or_ge j os.toArray.size with h' | h'
        · exact h'
        · rw [Array.getElem?_eq_none h'] at ho; cases ho
      simp at hlt
      simp [hlt] at hj) hC (by simpa using h)
    rw [hlen] at this
    simpa using this

theorem wpLst_of_X {P : Program} {r : Option Nat} {C : FLs → World → Prop} {ops : Array Oper} {Q : Exit → Act → World → Prop} : ∀ (l : List Oper) (a : Act) (w : World), wpX P (ops.toList.map (·.dst)) (fun _ => false) (fun _ => false) C (Q .normal) l [] a w → wpListIn (FW r) 0 P ops Q l a w
  | [], a, w, h => h w [] .refl
  | o :: rest, a, w, h => by
    unfold wpX at h
    unfold wpListIn
    rw [wantT_eq]
    by_cases hw : wantT (ops.toList.map (·.dst)) a o = true
    · rw [if_pos hw] at h ⊢
      rw [if_neg Bool.false_ne_true, if_neg Bool.false_ne_true] at h
      exact wpN_in (fun a' w' ⟨_, n⟩ => wpLst_of_X rest _ _ n) (h w [] .refl)
    · rw [if_neg hw] at h ⊢
      exact ⟨fun f _ => FW_fn r f, wpLst_of_X rest _ _ h⟩
theorem wp_region_plainX {P : Program} {r : Option Nat} {id : Nat} {C : FLs → World → Prop} {Q : Exit → Act → World → Prop} {a : Act} {w : World} {os : List Oper}
    (h : wpX P (os.map (·.dst)) (fun _ => false) (fun _ => false) C (Q .normal) os [] a w) : (Code.region id os.toArray false).wpIn (FW r) 0 P Q a w :=
  wpIn_region_lit (wpLst_of_X os a w (by simpa using h))
end Go.Proofs.YtihboegopigkmaaDoor
