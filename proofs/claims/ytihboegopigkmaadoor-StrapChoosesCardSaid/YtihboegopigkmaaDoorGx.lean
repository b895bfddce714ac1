/- The walk by reckoning, part 8: a region that draws its order, in two halves: what stands last comes behind all else. -/
import Derived.Test.YtihboegopigkmaaDoorGf
namespace Go.Proofs.YtihboegopigkmaaDoor
set_option linter.unusedSimpArgs false
set_option linter.unusedVariables false
set_option linter.unnecessarySimpa false
set_option linter.unusedSectionVars false
open Go.RowKit

section
variable {P : Program} {os1 os2 : List Oper} {mask mask2 : Nat} {A : List Nat}
theorem some_ready {ops : Array Oper} (he : ∀ (j : Nat) (o : Oper), ops[j]? = some o → ∀ e ∈ o.after, Region.binds .any e = true → e.on < j) {l : Array Bool} (hs : l.size = ops.size) :
    ∀ i, i < ops.size → l.getD i false = false → ∃ k, k ∈ Region.ready .any ops l := by
  intro i
  induction i using Nat.strongRecOn with
  | _ i ih =>
    intro hi hu
    by_cases h : ∀ e ∈ (ops[i]).after, Region.binds .any e = true → l.getD e.on false = true
    · refine ⟨i, mem_ready.2 ⟨?_, ops[i], Array.getElem?_eq_getElem hi, h⟩⟩
      simp [hs, hi] at hu ⊢
      exact hu
    · simp only [Classical.not_forall] at h
      obtain ⟨e, he1, hb, hl⟩ := h
      have hlt := he i _ (Array.getElem?_eq_getElem hi) e he1 hb
      exact ih e.on hlt (by omega) (by simpa using hl)
theorem wpAny_split {r : Option Nat} {Q : Exit → Act → World → Prop} {C : World → Prop} (g : Good (os1 ++ os2).toArray mask2 A)
    (hall : ∀ j, os1.length ≤ j → j < os1.length + os2.length → ∀ i, i < os1.length → (A.getD j 0).testBit i = true)
    (hg : ∀ o ∈ os1, ∀ gd wt, o.guard = some (gd, wt) → gd < os1.length) : ∀ (n : Nat) (l1 listed : Array Bool) (a : Act) (w : World),
    l1.size = os1.length → listed.size = os1.length + os2.length → (∀ i, i < os1.length → listed.getD i false = l1.getD i false) → (∀ j, os1.length ≤ j → listed.getD j false = false) → Down (os1 ++ os2).toArray listed → C w → l1.toList.count false = n →
    mAny P os1.toArray mask C (fun a w => ∀ lf : Array Bool, lf.size = os1.length + os2.length → (∀ i, i < os1.length → lf.getD i false = true) → (∀ j, os1.length ≤ j → lf.getD j false = false) → Down (os1 ++ os2).toArray lf → C w → wpAnyIn (FW r) 0 P .any (os1 ++ os2).toArray Q os2.length lf a w) n l1 a w →
    wpAnyIn (FW r) 0 P .any (os1 ++ os2).toArray Q (n + os2.length) listed a w
  | 0, l1, listed, a, w, h1, h2, h3, h4, hd, hw, hn, h => by
    rw [Nat.zero_add]
    refine h.2 listed h2 (fun i hi => ?_) h4 hd hw
    rw [h3 i hi]
    have hi1 : i < l1.size := by omega
    have hm : l1[i] ∈ l1.toList := by simp
    have := List.count_eq_zero.1 hn
    cases hb : l1[i] with
    | true => simp [hi1, hb]
    | false => rw [hb] at hm; exact absurd hm this
  | n + 1, l1, listed, a, w, h1, h2, h3, h4, hd, hw, hn, h => by
    have hsz : (os1 ++ os2).toArray.size = os1.length + os2.length := by simp
    have hget : ∀ i, i < os1.length → (os1 ++ os2).toArray[i]? = os1.toArray[i]? := fun i hi => by simp [List.getElem?_append_left hi]
    have hex : ∃ i, i < os1.length ∧ l1.getD i false = false := by
      have hmem : false ∈ l1.toList := List.count_pos_iff.1 (by omega)
      obtain ⟨i, hi, e⟩ := List.mem_iff_getElem.1 hmem
      have hi' : i < l1.size := by simpa using hi
      refine ⟨i, by omega, ?_⟩
      simp at e
      simp [hi', e]
    obtain ⟨i0, hi0, hu0⟩ := hex
    rw [show n + 1 + os2.length = (n + os2.length) + 1 by omega]
    refine ⟨fun hr => ?_, fun i hi => ?_⟩
    · obtain ⟨k, hk⟩ := some_ready g.edge (by rw [hsz, h2]) i0 (by rw [hsz]; omega) (by rw [h3 i0 hi0]; exact hu0)
      rw [hr] at hk; cases hk
    · obtain ⟨hui, o, ho, hl⟩ := mem_ready.1 hi
      have hlt : i < os1.length + os2.length := by
        rcases Nat.lt_or_ge i (os1.length + os2.length) with h' | h'
        · exact h'
        · rw [Array.getElem?_eq_none (by rw [hsz]; exact h')] at ho; cases ho
      have hi1 : i < os1.length := by
        rcases Nat.lt_or_ge i os1.length with h' | h'
        · exact h'
        · have := g.listed hd i o ho hl i0 (hall i h' hlt i0 hi0)
          rw [h3 i0 hi0, hu0] at this; cases this
      have hsl : i < l1.size := by omega
      have hui1 : l1[i] = false := by
        have h5 := h3 i hi1
        have : i < listed.size := by omega
        simp [this] at hui
        simp [this, hsl] at h5
        rw [← h5]; exact hui
      have hr1 : i ∈ Region.ready .any os1.toArray l1 := by
        refine mem_ready.2 ⟨by simp [hsl, hui1], o, by rw [← hget i hi1]; exact ho, fun e he hb => ?_⟩
        have hle := g.edge i o ho e he hb
        rw [← h3 e.on (by omega)]
        exact hl e he hb
      have hop := h.2 i hr1
      have hi' : i ∈ Region.ready .any (os1 ++ os2).toArray listed := hi
      have next : ∀ (a' : Act) (w' : World), C w' → mAny P os1.toArray mask C (fun a w => ∀ lf : Array Bool, lf.size = os1.length + os2.length → (∀ i, i < os1.length → lf.getD i false = true) → (∀ j, os1.length ≤ j → lf.getD j false = false) → Down (os1 ++ os2).toArray lf → C w → wpAnyIn (FW r) 0 P .any (os1 ++ os2).toArray Q os2.length lf a w) n (l1.setIfInBounds i true) a' w' →
          wpAnyIn (FW r) 0 P .any (os1 ++ os2).toArray Q (n + os2.length) (listed.setIfInBounds i true) a' w' := fun a' w' hw' h' => by
        refine wpAny_split g hall hg n _ _ a' w' (by simpa using h1) (by simpa using h2) (fun k hk => ?_) (fun j hj => ?_) (hd.set hi') hw' ?_ h'
        · by_cases e : i = k
          · subst e
            have : i < listed.size := by omega
            simp [this, hsl]
          · rw [getD_set_ne false e, getD_set_ne false e]; exact h3 k hk
        · rw [getD_set_ne false (by omega)]; exact h4 j hj
        · have e1 : l1.toList[i]'(by simpa using hsl) = false := by simpa using hui1
          rw [Array.toList_setIfInBounds, List.count_set (by simpa using hsl), e1]
          show l1.toList.count false - 1 + 0 = n
          omega
      unfold mOp at hop
      unfold wpOpIn
      rw [show os1.toArray[i]? = some o by rw [← hget i hi1]; exact ho] at hop
      rw [ho]
      simp only at hop ⊢
      have hwant : Region.wanted o (yielded (os1 ++ os2).toArray a.tmps) = Region.wanted o (yielded os1.toArray a.tmps) := by
        unfold Region.wanted
        cases hgd : o.guard with
        | none => rfl
        | some gw =>
          obtain ⟨gd, wt⟩ := gw
          have hom : o ∈ os1 := by
            have : os1[i]? = some o := by
              have := hget i hi1
              rw [ho] at this
              simpa using this.symm
            exact List.mem_of_getElem? this
          simp only [yielded]
          rw [hget gd (hg o hom gd wt hgd)]
      rw [hwant]
      by_cases hwt : Region.wanted o (yielded os1.toArray a.tmps) = true
      · rw [if_pos hwt] at hop ⊢
        by_cases hm : mask.testBit i = true
        · rw [if_pos hm] at hop
          obtain ⟨v, hv, h5⟩ := hop
          exact wpN_in (fun _ _ k => k) ((hv w hw).wp (next _ _ hw h5))
        · rw [if_neg hm] at hop
          exact wpN_in (fun a w ⟨c, k⟩ => next a w c k) hop
      · rw [if_neg hwt] at hop ⊢
        exact ⟨fun f _ => FW_fn r f, next _ _ hw hop⟩
theorem count_rep (n : Nat) : (Array.replicate n false).toList.count false = n := by simp
theorem wpX_mono {T : List (Option Tmp)} {sf al : Oper → Bool} {C : FLs → World → Prop} {Q Q' : Act → World → Prop} (hq : ∀ a w, Q a w → Q' a w) : ∀ (l : List Oper) (F : FLs) (a : Act) (w : World), wpX P T sf al C Q l F a w → wpX P T sf al C Q' l F a w
  | [], F, a, w, h => fun w' F' he => hq _ _ (h w' F' he)
  | o :: rest, F, a, w, h => by
    unfold wpX at h ⊢
    by_cases hw : wantT T a o = true
    · rw [if_pos hw] at h ⊢
      by_cases hs : sf o = true
      · rw [if_pos hs] at h ⊢
        obtain ⟨v, h1, h2⟩ := h
        exact ⟨v, h1, wpX_mono hq rest _ _ _ h2⟩
      · rw [if_neg hs] at h ⊢
        by_cases hal : al o = true
        · rw [if_pos hal] at h ⊢
          obtain ⟨s, h1, h2⟩ := h
          exact ⟨s, h1, fun w' F' he b F1 hp => wpX_mono hq rest _ _ _ (h2 w' F' he b F1 hp)⟩
        · rw [if_neg hal] at h ⊢
          exact fun w' F' he => wp_mono2 (fun a' w'' ⟨c, k⟩ => ⟨c, wpX_mono hq rest _ _ _ k⟩) (h w' F' he)
    · rw [if_neg hw] at h ⊢
      exact wpX_mono hq rest _ _ _ h
def down2 (A : List Nat) (m : Nat) : Nat → Bool
  | 0 => true
  | r + 1 => (List.range m).all (fun i => (A.getD (m + r) 0).testBit i) && down2 A m r
theorem down2_spec {A : List Nat} {m : Nat} : ∀ (r : Nat), down2 A m r = true → ∀ j, m ≤ j → j < m + r → ∀ i, i < m → (A.getD j 0).testBit i = true
  | 0, _, j, h1, h2, _, _ => by omega
  | r + 1, h, j, h1, h2, i, hi => by
    simp only [down2, Bool.and_eq_true] at h
    by_cases e : j = m + r
    · subst e; exact List.all_eq_true.1 h.1 i (by simpa using hi)
    · exact down2_spec r h.2 j h1 (by omega) i hi
def grd1 (os : List Oper) : Bool := os.all fun o => match o.guard with
  | some (g, _) => Nat.blt g os.length
  | none => true
theorem grd1_spec {os : List Oper} (h : grd1 os = true) : ∀ o ∈ os, ∀ gd wt, o.guard = some (gd, wt) → gd < os.length := fun o ho gd wt e => by
  have := List.all_eq_true.1 h o ho
  rw [e] at this
  exact (show Nat.blt gd os.length = true → gd < os.length from fun h => by simpa using h) this
/-- The second half is behind the first one. -/
def reg2 (os1 os2 : List Oper) (sf1 sf2 al : Oper → Bool) (π1 π2 : List Nat) : Bool :=
  regX os1.toArray sf1 al π1 && (regOK (os1 ++ os2).toArray (2 ^ (os1 ++ os2).toArray.size - 1) && (ordOK (os1 ++ os2).toArray sf2 al (ancs (os1 ++ os2).toArray.toList []) π2 (2 ^ os1.length - 1) &&
    (down2 (ancs (os1 ++ os2).toArray.toList []) os1.length os2.length && (grd1 os1 && (Nat.beq π1.length os1.length && Nat.beq π2.length os2.length)))))
theorem wp_region_2 {r : Option Nat} {id : Nat} {Q : Exit → Act → World → Prop} {a : Act} {w : World} (sf1 sf2 al : Oper → Bool) {C1 : FLs → World → Prop} (π1 π2 : List Nat) (hc1 : CClass C1) (hm : P.follows .mixedOrders = true) (hB : reg2 os1 os2 sf1 sf2 al π1 π2 = true) (hC : C1 [] w.drew)
    (h : wpX P (os1.map (·.dst)) sf1 al C1 (fun a w => ∃ C2 : FLs → World → Prop, CClass C2 ∧ C2 [] w ∧ wpX P ((os1 ++ os2).map (·.dst)) sf2 al C2 (Q .normal) (pickL (os1 ++ os2) π2) [] a w) (pickL os1 π1) [] a w.drew) : (Code.region id (os1 ++ os2).toArray true).wpIn (FW r) 0 P Q a w := by
  simp only [reg2, Bool.and_eq_true] at hB
  obtain ⟨hB1, hB2, hB3, hB4, hB5, hB6, hB7⟩ := hB
  have g := good_of_regOK' hB2
  simp only [regX, Bool.and_eq_true] at hB1
  have g1 := good_of_regOK' hB1.1
  refine wpIn_region_any hm ?_
  rw [show (os1 ++ os2).toArray.size = os1.length + os2.length by simp]
  have hdz : ∀ (ops : Array Oper), Down ops (Array.replicate ops.size false) := fun ops j o ho hj => by
    exfalso
    have hlt : j < ops.size := by
      rcases Nat.lt_or_ge j ops.size with h' | h'
      · exact h'
      · rw [Array.getElem?_eq_none h'] at ho; cases ho
    simp [hlt] at hj
  have hd0 := hdz (os1 ++ os2).toArray
  rw [show (os1 ++ os2).toArray.size = os1.length + os2.length by simp] at hd0
  refine wpAny_split (mask := maskGo sf1 os1 0) (C := C1 []) g (down2_spec _ hB4) (grd1_spec hB5) os1.length (Array.replicate os1.length false) _ a w.drew (by simp) (by simp) (fun i hi => by simp [hi, show i < os1.length + os2.length by omega]) (fun j hj => by
    by_cases h' : j < os1.length + os2.length
    · simp [h']
    · simp [h']) hd0 hC (count_rep _) ?_
  refine mAny_of_mAnyX (sf := sf1) (al := al) hc1 (fun i o ho => ?_) _ _ _ _ hC ?_
  · rw [maskGo_test]
    have : os1[i]? = some o := by simpa using ho
    simp [this]
  · have hmono : ∀ (a : Act) (w : World), (∃ C2 : FLs → World → Prop, CClass C2 ∧ C2 [] w ∧ wpX P ((os1 ++ os2).map (·.dst)) sf2 al C2 (Q .normal) (pickL (os1 ++ os2) π2) [] a w) →
        (∀ lf : Array Bool, lf.size = os1.length + os2.length → (∀ i, i < os1.length → lf.getD i false = true) → (∀ j, os1.length ≤ j → lf.getD j false = false) → Down (os1 ++ os2).toArray lf → C1 [] w → wpAnyIn (FW r) 0 P .any (os1 ++ os2).toArray Q os2.length lf a w) := by
      intro a w hh lf hs hl1 hl2 hd _
      obtain ⟨C2, hc2, hC2, h2⟩ := hh
      refine wpAny_of_mAny (mask := maskGo sf2 (os1 ++ os2) 0) (C := C2 []) _ _ _ _ hC2 ?_
      refine mAny_of_mAnyX (sf := sf2) (al := al) hc2 (fun i o ho => ?_) _ _ _ _ hC2 ?_
      · rw [maskGo_test]
        have : (os1 ++ os2)[i]? = some o := by simpa using ho
        simp [this]
      · have := mAnyX_of_wpX (P := P) (sf := sf2) (al := al) (C := C2) (Q := Q .normal) g hc2 π2 (2 ^ os1.length - 1) lf [] a w hB3 (by rw [hs]; simp) (fun j hj => by
          rw [Nat.testBit_two_pow_sub_one]
          by_cases h' : j < os1.length
          · rw [hl1 j h']; simp [h']
          · rw [hl2 j (by omega)]; simp [h']) hd hC2 (by simpa using h2)
        rwa [Nat.eq_of_beq_eq_true hB7] at this
    have key := mAnyX_of_wpX (P := P) (sf := sf1) (al := al) (C := C1) g1 hc1 π1 0 (Array.replicate os1.toArray.size false) [] a w.drew hB1.2 (by simp) (fun j hj => by simp at hj; simp [hj]) (hdz _) hC (wpX_mono hmono _ _ _ _ (by simpa using h))
    rw [Nat.eq_of_beq_eq_true hB6] at key
    simpa using key
end
section
variable {P : Program} {tab : Tr} {N : FN} {w0 : World} {S : List Nat} {mem : Mem} {k : Kt} {fs : Fr}
/-- A drawn region, in two halves: the first m operations, and what stands behind all of these. -/
theorem x_drw2 (ht : tab.ok P) {id : Nat} {os : List Oper} (m : Nat) (hard1 ds1 π1 hard2 ds2 π2 : List Nat) {km : Mem} (hm : P.follows .mixedOrders = true) (hB : reg2 (os.take m) (os.drop m) (sfOf hard1) (sfOf hard2) alOf π1 π2 = true) (hks : remX fs ds1 mem = some km)
    (h : xs P tab N w0 S km ((os.take m).map (·.dst)) (sfOf hard1) (fun fs' mem' => match remX fs' ds2 mem' with
      | some km2 => xs P tab N w0 S km2 (os.map (·.dst)) (sfOf hard2) (xe P tab N w0 S k .normal) (pickL os π2) fs' mem'
      | none => False) (pickL (os.take m) π1) fs mem) : XDrw P N w0 S id os.toArray k fs mem :=
  ⟨⟨fun a w hk hl => by
    have e : os.take m ++ os.drop m = os := List.take_append_drop m os
    have key := wp_region_2 (P := P) (r := N.r) (id := id) (Q := k.sem P N.r) (a := a) (w := w) (os1 := os.take m) (os2 := os.drop m) (sfOf hard1) (sfOf hard2) alOf π1 π2 (loc_class w0 S (denM km)) hm hB (hl.drew.sub (denM_sub (remX_sub hks)))
    rw [e] at key
    refine key ?_
    refine (xs_ok ht (fun fs' mem' h' a' w' hk' hl' => ?_) _ fs mem (remX_sub hks) h).go [] a w.drew hk hl.drew (hl.drew.sub (denM_sub (remX_sub hks)))
    split at h'
    · rename_i km2 hk2
      refine ⟨_, loc_class w0 S (denM km2), hl'.sub (denM_sub (remX_sub hk2)), ?_⟩
      exact (xs_ok ht (fun fs mem h a w hk hl => (xe_ok ht h).go a w hk hl) _ fs' mem' (remX_sub hk2) h').go [] a' w' hk' hl' (hl'.sub (denM_sub (remX_sub hk2)))
    · exact h'.elim⟩⟩
end
end Go.Proofs.YtihboegopigkmaaDoor
