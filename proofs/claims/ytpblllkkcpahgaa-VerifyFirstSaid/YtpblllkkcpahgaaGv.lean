/- The walk by reckoning: a region that draws its order, in two halves, of which a remainder of the first may come later. -/
import Derived.Test.YtpblllkkcpahgaaGx
namespace Go.Proofs.Ytpblllkkcpahgaa
set_option linter.unusedSimpArgs false
set_option linter.unusedVariables false
set_option linter.unnecessarySimpa false
set_option linter.unusedSectionVars false
open Go.RowKit

section
variable {P : Program} {os1 os2 : List Oper} {mask mask2 : Nat} {A : List Nat}
theorem pure_rem {dst : Option Tmp} {ty typ r : TypeId} {t : Tmp} {y : Operand} {pos : String} {aft : Array Edge} {g : Option (Nat × Bool)} {a : Act} {w w' : World} {v : Value} {k : IntKind} {m : Int} (ht : a.tmps.getD t undef = .int k m)
    (h : SoftAt P ⟨dst, .binOp .rem ty (.tmp t) y r, typ, pos, aft, g⟩ a w v) : SoftAt P ⟨dst, .binOp .rem ty (.tmp t) y r, typ, pos, aft, g⟩ a w' v := by
  have hx : a.eval (.tmp t) = .int k m := ht
  unfold SoftAt at *
  unfold execOp at *
  simp only [hx] at *
  generalize a.eval y = z at *
  cases z with
  | int k' n =>
    simp [eqGuard, binOp, softUpon, stuck, unsupported, Op.intDiv] at h ⊢
    by_cases e1 : k = k'
    · rw [if_pos e1] at h ⊢
      by_cases e2 : n = 0
      · rw [if_pos e2] at h
        exfalso
        revert h
        simp [runtimePanic]
      · rw [if_neg e2] at h ⊢
        simpa using h
    · rw [if_neg e1] at h
      exact h.elim
  | _ => simp [eqGuard, binOp, softUpon, stuck, unsupported, Op.intDiv] at h
theorem wpAny_split3 {r : Option Nat} {Q : Exit → Act → World → Prop} {C : World → Prop} {K : Act → World → Prop} {f : Nat} {of : Oper} (g : Good (os1 ++ os2).toArray mask2 A) (hf : f < os1.length) (hof : os1[f]? = some of) (hgd : of.guard = none) (hmf : mask.testBit f = true)
    (hK1 : ∀ (a : Act) (w : World) (lf : Array Bool), lf.size = os1.length + os2.length → (∀ i, i < os1.length → lf.getD i false = true) → (∀ j, os1.length ≤ j → lf.getD j false = false) → Down (os1 ++ os2).toArray lf → C w → K a w → wpAnyIn (FW r) 0 P .any (os1 ++ os2).toArray Q os2.length lf a w)
    (hK2 : ∀ (a : Act) (w : World) (v : Value) (lf : Array Bool), lf.size = os1.length + os2.length → (∀ i, i < os1.length → i ≠ f → lf.getD i false = true) → lf.getD f false = false → (∀ j, os1.length ≤ j → lf.getD j false = false) → Down (os1 ++ os2).toArray lf → C w → SoftAt P of a w v → K (a.put of.dst v) w → wpAnyIn (FW r) 0 P .any (os1 ++ os2).toArray Q (1 + os2.length) lf a w)
    (hall : ∀ j, os1.length ≤ j → j < os1.length + os2.length → ∀ i, i < os1.length → i ≠ f → (A.getD j 0).testBit i = true)
    (hg : ∀ o ∈ os1, ∀ gd wt, o.guard = some (gd, wt) → gd < os1.length) : ∀ (n : Nat) (l1 listed : Array Bool) (a : Act) (w : World),
    l1.size = os1.length → listed.size = os1.length + os2.length → (∀ i, i < os1.length → listed.getD i false = l1.getD i false) → (∀ j, os1.length ≤ j → listed.getD j false = false) → Down (os1 ++ os2).toArray listed → C w → l1.toList.count false = n →
    mAny P os1.toArray mask C K n l1 a w →
    wpAnyIn (FW r) 0 P .any (os1 ++ os2).toArray Q (n + os2.length) listed a w
  | 0, l1, listed, a, w, h1, h2, h3, h4, hd, hw, hn, h => by
    rw [Nat.zero_add]
    refine hK1 a w listed h2 (fun i hi => ?_) h4 hd hw h.2
    rw [h3 i hi]
    have hi1 : i < l1.size := by omega
    have hm : l1[i] ∈ l1.toList := by simp
    have := List.count_eq_zero.1 hn
    cases hb : l1[i] with
    | true => simp [hi1, hb]
    | false => rw [hb] at hm; exact absurd hm this
  | n + 1, l1, listed, a, w, h1, h2, h3, h4, hd, hw, hn, h => by
    have hsz : (os1 ++ os2).toArray.size = os1.length + os2.length := by simp
    have hget : ∀ i, i < os1.length → (os1 ++ os2).toArray[i]? = os1.toArray[i]? := fun i hi => by simp [List.getElem?_append_left hi]
    have hcnt : ∀ i, i < os1.length → l1.getD i false = false → (l1.setIfInBounds i true).toList.count false = n := fun i hi hu => by
      have hsl : i < l1.size := by omega
      have e1 : l1.toList[i]'(by simpa using hsl) = false := by simpa [hsl] using hu
      rw [Array.toList_setIfInBounds, List.count_set (by simpa using hsl), e1]
      show l1.toList.count false - 1 + 0 = n
      omega
    by_cases hX : ∀ i, i < os1.length → i ≠ f → l1.getD i false = true
    · have hfu : l1.getD f false = false := by
        cases hb : l1.getD f false with
        | false => rfl
        | true =>
          exfalso
          have hmem : false ∈ l1.toList := List.count_pos_iff.1 (by omega)
          obtain ⟨i, hi, e⟩ := List.mem_iff_getElem.1 hmem
          have hi' : i < l1.size := by simpa using hi
          have hu : l1.getD i false = false := by
            simp at e
            simp [hi', e]
          by_cases e : i = f
          · subst e; rw [hb] at hu; cases hu
          · rw [hX i (by omega) e] at hu; cases hu
      have hn0 : n = 0 := by
        have := hcnt f hf hfu
        rcases Nat.eq_zero_or_pos n with h0 | h0
        · exact h0
        · exfalso
          have hmem : false ∈ (l1.setIfInBounds f true).toList := List.count_pos_iff.1 (by omega)
          obtain ⟨i, hi, e⟩ := List.mem_iff_getElem.1 hmem
          have hi' : i < l1.size := by simpa using hi
          have hu : (l1.setIfInBounds f true).getD i false = false := by
            rw [Array.getElem_toList] at e
            rw [Array.getD, dif_pos (by simpa using hi')]
            exact e
          by_cases e : f = i
          · subst e
            simp [hi'] at hu
          · rw [getD_set_ne false e, hX i (by omega) (fun e' => e e'.symm)] at hu; cases hu
      subst hn0
      have hof1 : os1.toArray[f]? = some of := by simpa using hof
      have hr1 : f ∈ Region.ready .any os1.toArray l1 := by
        refine mem_ready.2 ⟨?_, of, hof1, fun e he hb => ?_⟩
        · have : f < l1.size := by omega
          simpa [this] using hfu
        · have hle := g.edge f of (by rw [hget f hf]; exact hof1) e he hb
          exact hX e.on (by omega) (by omega)
      have hop := h.2 f hr1
      unfold mOp at hop
      rw [hof1] at hop
      simp only at hop
      have hwt : Region.wanted of (yielded os1.toArray a.tmps) = true := by unfold Region.wanted; rw [hgd]
      rw [if_pos hwt, if_pos hmf] at hop
      obtain ⟨v, hv, h5⟩ := hop
      rw [show 0 + 1 = 1 from rfl]
      exact hK2 a w v listed h2 (fun i hi hne => by rw [h3 i hi]; exact hX i hi hne) (by rw [h3 f hf]; exact hfu) h4 hd hw (hv w hw) h5.2
    · have hex : ∃ i, i < os1.length ∧ i ≠ f ∧ l1.getD i false = false := by
        refine Classical.byContradiction fun hno => hX fun i hi hne => ?_
        cases hb : l1.getD i false with
        | true => rfl
        | false => exact absurd ⟨i, hi, hne, hb⟩ hno
      obtain ⟨i0, hi0, hne0, hu0⟩ := hex
      rw [show n + 1 + os2.length = (n + os2.length) + 1 by omega]
      refine ⟨fun hr => ?_, fun i hi => ?_⟩
      · obtain ⟨k, hk⟩ := some_ready g.edge (by rw [hsz, h2]) i0 (by rw [hsz]; omega) (by rw [h3 i0 hi0]; exact hu0)
        rw [hr] at hk; cases hk
      · obtain ⟨hui, o, ho, hl⟩ := mem_ready.1 hi
        have hlt : i < os1.length + os2.length := by
          rcases Nat.lt_or_ge i (os1.length + os2.length) with h' | h'
          · exact h'
          · rw [Array.getElem?_eq_none (by rw [hsz]; exact h')] at ho; cases ho
        have hi1 : i < os1.length := by
          rcases Nat.lt_or_ge i os1.length with h' | h'
          · exact h'
          · have := g.listed hd i o ho hl i0 (hall i h' hlt i0 hi0 hne0)
            rw [h3 i0 hi0, hu0] at this; cases this
        have hsl : i < l1.size := by omega
        have hui1 : l1[i] = false := by
          have h5 := h3 i hi1
          have : i < listed.size := by omega
          simp [this] at hui
          simp [this, hsl] at h5
          rw [← h5]; exact hui
        have hr1 : i ∈ Region.ready .any os1.toArray l1 := by
          refine mem_ready.2 ⟨by simp [hsl, hui1], o, by rw [← hget i hi1]; exact ho, fun e he hb => ?_⟩
          have hle := g.edge i o ho e he hb
          rw [← h3 e.on (by omega)]
          exact hl e he hb
        have hop := h.2 i hr1
        have hi' : i ∈ Region.ready .any (os1 ++ os2).toArray listed := hi
        have next : ∀ (a' : Act) (w' : World), C w' → mAny P os1.toArray mask C K n (l1.setIfInBounds i true) a' w' →
            wpAnyIn (FW r) 0 P .any (os1 ++ os2).toArray Q (n + os2.length) (listed.setIfInBounds i true) a' w' := fun a' w' hw' h' => by
          refine wpAny_split3 g hf hof hgd hmf hK1 hK2 hall hg n _ _ a' w' (by simpa using h1) (by simpa using h2) (fun k hk => ?_) (fun j hj => ?_) (hd.set hi') hw' (hcnt i hi1 (by simpa [hsl] using hui1)) h'
          · by_cases e : i = k
            · subst e
              have : i < listed.size := by omega
              simp [this, hsl]
            · rw [getD_set_ne false e, getD_set_ne false e]; exact h3 k hk
          · rw [getD_set_ne false (by omega)]; exact h4 j hj
        unfold mOp at hop
        unfold wpOpIn
        rw [show os1.toArray[i]? = some o by rw [← hget i hi1]; exact ho] at hop
        rw [ho]
        simp only at hop ⊢
        have hwant : Region.wanted o (yielded (os1 ++ os2).toArray a.tmps) = Region.wanted o (yielded os1.toArray a.tmps) := by
          unfold Region.wanted
          cases hgd : o.guard with
          | none => rfl
          | some gw =>
            obtain ⟨gd, wt⟩ := gw
            have hom : o ∈ os1 := by
              have : os1[i]? = some o := by
                have := hget i hi1
                rw [ho] at this
                simpa using this.symm
              exact List.mem_of_getElem? this
            simp only [yielded]
            rw [hget gd (hg o hom gd wt hgd)]
        rw [hwant]
        by_cases hwt : Region.wanted o (yielded os1.toArray a.tmps) = true
        · rw [if_pos hwt] at hop ⊢
          by_cases hm : mask.testBit i = true
          · rw [if_pos hm] at hop
            obtain ⟨v, hv, h5⟩ := hop
            exact wpN_in (fun _ _ k => k) ((hv w hw).wp (next _ _ hw h5))
          · rw [if_neg hm] at hop
            exact wpN_in (fun a w ⟨c, k⟩ => next a w c k) hop
        · rw [if_neg hwt] at hop ⊢
          exact ⟨fun f _ => FW_fn r f, next _ _ hw hop⟩
/-- The second half is behind the first one, but for one operation. -/
def down3 (A : List Nat) (m f : Nat) : Nat → Bool
  | 0 => true
  | r + 1 => (List.range m).all (fun i => i == f || (A.getD (m + r) 0).testBit i) && down3 A m f r
theorem down3_spec {A : List Nat} {m f : Nat} : ∀ (r : Nat), down3 A m f r = true → ∀ j, m ≤ j → j < m + r → ∀ i, i < m → i ≠ f → (A.getD j 0).testBit i = true
  | 0, _, j, h1, h2, _, _, _ => by omega
  | r + 1, h, j, h1, h2, i, hi, hne => by
    simp only [down3, Bool.and_eq_true] at h
    by_cases e : j = m + r
    · subst e
      have := List.all_eq_true.1 h.1 i (by simpa using hi)
      rcases Bool.or_eq_true _ _ ▸ this with h' | h'
      · exact absurd (by simpa using h') hne
      · exact h'
    · exact down3_spec r h.2 j h1 (by omega) i hi hne
def reg3 (os1 os2 : List Oper) (sf1 sf2 al : Oper → Bool) (f : Nat) (π1 π2 : List Nat) : Bool :=
  regX os1.toArray sf1 al π1 && (regOK (os1 ++ os2).toArray (2 ^ (os1 ++ os2).toArray.size - 1) && (ordOK (os1 ++ os2).toArray sf2 al (ancs (os1 ++ os2).toArray.toList []) π2 (2 ^ os1.length - 1) && (ordOK (os1 ++ os2).toArray sf2 al (ancs (os1 ++ os2).toArray.toList []) (f :: π2) ((2 ^ os1.length - 1) ^^^ 2 ^ f) &&
    (down3 (ancs (os1 ++ os2).toArray.toList []) os1.length f os2.length && (grd1 os1 && (Nat.beq π1.length os1.length && (Nat.beq π2.length os2.length && Nat.blt f os1.length)))))))
theorem bits_sub {n f : Nat} (hf : f < n) (j : Nat) : ((2 ^ n - 1) ^^^ 2 ^ f).testBit j = (decide (j < n) && decide (j ≠ f)) := by
  rw [Nat.testBit_xor, Nat.testBit_two_pow_sub_one, Nat.testBit_two_pow]
  by_cases h1 : j = f
  · subst h1; simp [hf]
  · simp [h1, show ¬ f = j from fun e => h1 e.symm]
theorem wp_region_3 {r : Option Nat} {id f t d : Nat} {ty typ rt : TypeId} {y : Operand} {pos : String} {aft : Array Edge} {Q : Exit → Act → World → Prop} {a : Act} {w : World} (sf1 sf2 al : Oper → Bool) {C1 : FLs → World → Prop} (π1 π2 : List Nat) (hc1 : CClass C1) (hm : P.follows .mixedOrders = true) (hB : reg3 os1 os2 sf1 sf2 al f π1 π2 = true) (hC : C1 [] w.drew)
    (hof : os1[f]? = some ⟨some d, .binOp .rem ty (.tmp t) y rt, typ, pos, aft, none⟩) (htd : d ≠ t) (hs1 : sf1 ⟨some d, .binOp .rem ty (.tmp t) y rt, typ, pos, aft, none⟩ = true) (hs2 : sf2 ⟨some d, .binOp .rem ty (.tmp t) y rt, typ, pos, aft, none⟩ = true)
    (h : wpX P (os1.map (·.dst)) sf1 al C1 (fun a w => (∃ k m, a.tmps.getD t undef = .int k m) ∧ ∃ C2 : FLs → World → Prop, CClass C2 ∧ C2 [] w ∧ wpX P ((os1 ++ os2).map (·.dst)) sf2 al C2 (Q .normal) (pickL (os1 ++ os2) π2) [] a w) (pickL os1 π1) [] a w.drew) : (Code.region id (os1 ++ os2).toArray true).wpIn (FW r) 0 P Q a w := by
  simp only [reg3, Bool.and_eq_true] at hB
  obtain ⟨hB1, hB2, hB3, hB3', hB4, hB5, hB6, hB7, hB8⟩ := hB
  have hf : f < os1.length := by
    have : Nat.blt f os1.length = true := hB8
    simpa using this
  have g := good_of_regOK' hB2
  simp only [regX, Bool.and_eq_true] at hB1
  have g1 := good_of_regOK' hB1.1
  refine wpIn_region_any hm ?_
  rw [show (os1 ++ os2).toArray.size = os1.length + os2.length by simp]
  have hdz : ∀ (ops : Array Oper), Down ops (Array.replicate ops.size false) := fun ops j o ho hj => by
    exfalso
    have hlt : j < ops.size := by
      rcases Nat.lt_or_ge j ops.size with h' | h'
      · exact h'
      · rw [Array.getElem?_eq_none h'] at ho; cases ho
    simp [hlt] at hj
  have hd0 := hdz (os1 ++ os2).toArray
  rw [show (os1 ++ os2).toArray.size = os1.length + os2.length by simp] at hd0
  have fin : ∀ (π : List Nat) (m : Nat) (lf : Array Bool) (a : Act) (w : World) (C2 : FLs → World → Prop), CClass C2 → C2 [] w → ordOK (os1 ++ os2).toArray sf2 al (ancs (os1 ++ os2).toArray.toList []) π m = true → lf.size = os1.length + os2.length → (∀ j, j < os1.length + os2.length → lf.getD j false = m.testBit j) →
      Down (os1 ++ os2).toArray lf → wpX P ((os1 ++ os2).map (·.dst)) sf2 al C2 (Q .normal) (pickL (os1 ++ os2) π) [] a w → wpAnyIn (FW r) 0 P .any (os1 ++ os2).toArray Q π.length lf a w := by
    intro π m lf a w C2 hc2 hC2 hO hs hb hd h2
    refine wpAny_of_mAny (mask := maskGo sf2 (os1 ++ os2) 0) (C := C2 []) _ _ _ _ hC2 ?_
    refine mAny_of_mAnyX (sf := sf2) (al := al) hc2 (fun i o ho => ?_) _ _ _ _ hC2 ?_
    · rw [maskGo_test]
      have : (os1 ++ os2)[i]? = some o := by simpa using ho
      simp [this]
    · exact mAnyX_of_wpX (P := P) (sf := sf2) (al := al) (C := C2) (Q := Q .normal) g hc2 π m lf [] a w hO (by rw [hs]; simp) (fun j hj => hb j (by simpa using hj)) hd hC2 (by simpa using h2)
  refine wpAny_split3 (mask := maskGo sf1 os1 0) (C := C1 []) (f := f) (K := fun a w => (∃ k m, a.tmps.getD t undef = .int k m) ∧ ∃ C2 : FLs → World → Prop, CClass C2 ∧ C2 [] w ∧ wpX P ((os1 ++ os2).map (·.dst)) sf2 al C2 (Q .normal) (pickL (os1 ++ os2) π2) [] a w) g hf hof rfl ?_ ?_ ?_ (down3_spec _ hB4) (grd1_spec hB5) os1.length (Array.replicate os1.length false) _ a w.drew (by simp) (by simp) (fun i hi => by simp [hi, show i < os1.length + os2.length by omega]) (fun j hj => by
    by_cases h' : j < os1.length + os2.length
    · simp [h']
    · simp [h']) hd0 hC (count_rep _) ?_
  · rw [maskGo_test]
    simp [hof, hs1]
  · rintro a w lf hs hl1 hl2 hd _ ⟨_, C2, hc2, hC2, h2⟩
    have := fin π2 _ lf a w C2 hc2 hC2 hB3 hs (fun j hj => by
      rw [Nat.testBit_two_pow_sub_one]
      by_cases h' : j < os1.length
      · rw [hl1 j h']; simp [h']
      · rw [hl2 j (by omega)]; simp [h']) hd h2
    rwa [Nat.eq_of_beq_eq_true hB7] at this
  · rintro a w v lf hs hl1 hlf hl2 hd _ hv ⟨⟨k, m, hkm⟩, C2, hc2, hC2, h2⟩
    have ht : a.tmps.getD t undef = .int k m := by
      rw [← hkm]
      show _ = (a.tmps.setIfInBounds d v).getD t undef
      simp only [Array.getD_eq_getD_getElem?]
      rw [Array.getElem?_setIfInBounds_ne htd]
    have := fin (f :: π2) _ lf a w C2 hc2 hC2 hB3' hs (fun j hj => by
      rw [bits_sub hf]
      by_cases h' : j < os1.length
      · by_cases e : j = f
        · subst e; rw [hlf]; simp
        · rw [hl1 j h' e]; simp [h', e]
      · rw [hl2 j (by omega)]; simp [h']) hd (by
        have ho2 : (os1 ++ os2)[f]? = some ⟨some d, .binOp .rem ty (.tmp t) y rt, typ, pos, aft, none⟩ := by rw [List.getElem?_append_left hf]; exact hof
        unfold pickL
        rw [ho2]
        unfold wpX
        rw [if_pos (show wantT _ a _ = true from rfl), if_pos hs2]
        exact ⟨v, fun F' w' _ => pure_rem ht hv, h2⟩)
    rw [List.length_cons, Nat.eq_of_beq_eq_true hB7, Nat.add_comm] at this
    exact this
  refine mAny_of_mAnyX (sf := sf1) (al := al) hc1 (fun i o ho => ?_) _ _ _ _ hC ?_
  · rw [maskGo_test]
    have : os1[i]? = some o := by simpa using ho
    simp [this]
  · have key := mAnyX_of_wpX (P := P) (sf := sf1) (al := al) (C := C1) g1 hc1 π1 0 (Array.replicate os1.toArray.size false) [] a w.drew hB1.2 (by simp) (fun j hj => by simp at hj; simp [hj]) (hdz _) hC (by simpa using h)
    rw [Nat.eq_of_beq_eq_true hB6] at key
    simpa using key
end
section
variable {P : Program} {tab : Tr} {N : FN} {w0 : World} {S : List Nat} {mem : Mem} {k : Kt} {fs : Fr}
/-- A drawn region, in two halves, of which one remainder of the first (operation f: slot t taken to a remainder, to slot d) may come later. -/
theorem x_drw3 (ht : tab.ok P) {id : Nat} {os : List Oper} {ty typ rt : TypeId} {y : Operand} {pos : String} {aft : Array Edge} (m f t d : Nat) (hard1 ds1 π1 hard2 ds2 π2 : List Nat) {km : Mem} (hm : P.follows .mixedOrders = true) (hB : reg3 (os.take m) (os.drop m) (sfOf hard1) (sfOf hard2) alOf f π1 π2 = true) (hks : remX fs ds1 mem = some km)
    (hof : (os.take m)[f]? = some ⟨some d, .binOp .rem ty (.tmp t) y rt, typ, pos, aft, none⟩) (htd : d ≠ t) (hs1 : sfOf hard1 ⟨some d, .binOp .rem ty (.tmp t) y rt, typ, pos, aft, none⟩ = true) (hs2 : sfOf hard2 ⟨some d, .binOp .rem ty (.tmp t) y rt, typ, pos, aft, none⟩ = true)
    (h : xs P tab N w0 S km ((os.take m).map (·.dst)) (sfOf hard1) (fun fs' mem' => match fgetX fs' t with
      | some (.int _ _) => (match remX fs' ds2 mem' with
        | some km2 => xs P tab N w0 S km2 (os.map (·.dst)) (sfOf hard2) (xe P tab N w0 S k .normal) (pickL os π2) fs' mem'
        | none => False)
      | _ => False) (pickL (os.take m) π1) fs mem) : XDrw P N w0 S id os.toArray k fs mem :=
  ⟨⟨fun a w hk hl => by
    have e : os.take m ++ os.drop m = os := List.take_append_drop m os
    have key := wp_region_3 (P := P) (r := N.r) (id := id) (Q := k.sem P N.r) (a := a) (w := w) (os1 := os.take m) (os2 := os.drop m) (sfOf hard1) (sfOf hard2) alOf π1 π2 (loc_class w0 S (denM km)) hm hB (hl.drew.sub (denM_sub (remX_sub hks))) hof htd hs1 hs2
    rw [e] at key
    refine key ?_
    refine (xs_ok ht (fun fs' mem' h' a' w' hk' hl' => ?_) _ fs mem (remX_sub hks) h).go [] a w.drew hk hl.drew (hl.drew.sub (denM_sub (remX_sub hks)))
    split at h'
    · rename_i kk mm hg
      refine ⟨⟨kk, mm, hk'.get t (.int kk mm) (by rw [fgetX_den, hg]; rfl)⟩, ?_⟩
      split at h'
      · rename_i km2 hk2
        refine ⟨_, loc_class w0 S (denM km2), hl'.sub (denM_sub (remX_sub hk2)), ?_⟩
        exact (xs_ok ht (fun fs mem h a w hk hl => (xe_ok ht h).go a w hk hl) _ fs' mem' (remX_sub hk2) h').go [] a' w' hk' hl' (hl'.sub (denM_sub (remX_sub hk2)))
      · exact h'.elim
    · exact h'.elim⟩⟩
end
end Go.Proofs.Ytpblllkkcpahgaa
