/- Opening arguments whose cells are integers and bools: structs, arrays, slices of these. -/
import Derived.Test.YtihboegopigkmaaDoorSq
import Derived.Test.YtihboegopigkmaaDoorFrm
namespace Go.Proofs.YtihboegopigkmaaDoor
set_option linter.unusedSimpArgs false
set_option linter.unusedVariables false
set_option linter.unnecessarySimpa false
set_option linter.unusedSectionVars false
open Go.ChangeShapes Go.WideShapes Go.ChangeAt Go.RowKit

def wfV : Value → Prop
  | .int k n => inR k n
  | _ => True
def wfC (cs : List Value) : Prop := ∀ v ∈ cs, wfV v
theorem inR_wf {k : IntKind} {n : Int} (h : (Lit.int k n).wf = true) : inR k n := by
  cases k <;> simp [Lit.wf, IntKind.min, IntKind.max, IntKind.signed, IntKind.bits] at h <;> simp only [inR] <;> omega
theorem wfC_nil : wfC [] := fun v h => by cases h
theorem wfC_app {a b : List Value} (ha : wfC a) (hb : wfC b) : wfC (a ++ b) := fun v h => by
  rcases List.mem_append.1 h with h | h
  · exact ha v h
  · exact hb v h

/-- What reads as data of type t has cells of these kinds. -/
structure FLp (P : Program) (t : TypeId) (ks : List SK) : Prop where
  size : P.cellsOf t = ks.length
  rd : ∀ {H : Type} {enc : TypeId × Value → H} {w : World} {base : Nat} {spare : Nat → Bool} {held : Bool} {n : Nat} {cs : List Value} {x : DataW H × List MemPlace},
    DataW.trod enc P w base spare held n t cs = some x → skB ks cs = true ∧ wfC cs

section
variable {P : Program} {t : TypeId} {ks : List SK}
theorem flp_int {k : IntKind} (h : P.underlying t = some (.int k)) (hs : P.cellsOf t = 1) : FLp P t [.i k] :=
  ⟨hs, fun hd => by
    obtain ⟨a, rfl, _, wa⟩ := DataW.trod_int h hd
    refine ⟨by simp [skB, skV], fun v hv => ?_⟩
    rw [List.mem_singleton.1 hv]
    exact inR_wf wa⟩
theorem flp_bool (h : P.underlying t = some .bool) (hs : P.cellsOf t = 1) : FLp P t [.b] :=
  ⟨hs, fun hd => by
    obtain ⟨a, rfl, _⟩ := DataW.trod_bool h hd
    refine ⟨by simp [skB, skV], fun v hv => ?_⟩
    rw [List.mem_singleton.1 hv]
    trivial⟩
theorem flp_rep {e : TypeId} (he : FLp P e ks) (m : Nat) (cs : List Value) (hl : cs.length = m * ks.length)
    (h : ∀ i, i < m → skB ks ((cs.drop (i * ks.length)).take ks.length) = true ∧ wfC ((cs.drop (i * ks.length)).take ks.length)) : skB (rep m ks) cs = true ∧ wfC cs := by
  induction m generalizing cs with
  | zero =>
    obtain rfl : cs = [] := List.eq_nil_of_length_eq_zero (by simpa using hl)
    exact ⟨rfl, wfC_nil⟩
  | succ m ih =>
    rw [Nat.add_mul] at hl
    have h0 := h 0 (by omega)
    simp only [Nat.zero_mul, List.drop_zero] at h0
    have h1 := ih (cs.drop ks.length) (by simp; omega) (fun i hi => by
      have := h (i + 1) (by omega)
      rw [Nat.add_mul, Nat.one_mul, Nat.add_comm] at this
      rw [List.drop_drop]
      exact this)
    have e := List.take_append_drop ks.length cs
    rw [← e]
    exact ⟨skB_app h0.1 h1.1, wfC_app h0.2 h1.2⟩
theorem flp_arr {e : TypeId} {n : Nat} {ks' : List SK} (h : P.underlying t = some (.array n e)) (he : FLp P e ks) (hk : rep n ks = ks') (hs : P.cellsOf t = ks'.length) : FLp P t ks' := by
  subst hk
  refine ⟨hs, fun {H enc w base spare held fuel cs x} hd => ?_⟩
  obtain ⟨xs, m, rfl, _, hlen, hxl, hel⟩ := DataW.trod_array h hd
  refine flp_rep he n cs (by rw [hlen, hs, rep_len]) fun i hi => ?_
  have := hel i hi
  rw [he.size] at this
  have hx : ∃ y, xs[i]? = some y := ⟨xs[i]'(by omega), List.getElem?_eq_getElem _⟩
  obtain ⟨y, hy⟩ := hx
  rw [hy] at this
  exact he.rd this

inductive FldF (P : Program) : Nat → List (Bool × Nat × TypeId) → List SK → Prop
  | nil {off} : FldF P off [] []
  | cons {off off' b ft L ks1 ks2 ks} : FLp P ft ks1 → off + ks1.length = off' → ks1 ++ ks2 = ks → FldF P off' L ks2 → FldF P off ((b, off, ft) :: L) ks
theorem FldF.rd {off : Nat} {L : List (Bool × Nat × TypeId)} {ks : List SK} (h : FldF P off L ks) (cs : List Value) (hl : cs.length = off + ks.length)
    (hc : ∀ (i : Nat) (p : Bool × Nat × TypeId), L[i]? = some p → ∀ ks1, FLp P p.2.2 ks1 → skB ks1 ((cs.drop p.2.1).take ks1.length) = true ∧ wfC ((cs.drop p.2.1).take ks1.length)) : skB ks (cs.drop off) = true ∧ wfC (cs.drop off) := by
  induction h with
  | nil =>
    rw [List.drop_of_length_le (by simpa using Nat.le_of_eq hl)]
    exact ⟨rfl, wfC_nil⟩
  | @cons off off' b ft L ks1 ks2 ks h1 h2 h3 _ ih =>
    subst h2
    subst h3
    have h0 := hc 0 (b, off, ft) rfl ks1 h1
    simp only at h0
    have hr := ih (by simp at hl; omega) (fun i p hp => hc (i + 1) p (by simpa using hp))
    have e := List.take_append_drop ks1.length (cs.drop off)
    rw [List.drop_drop] at e
    rw [← e]
    exact ⟨skB_app h0.1 hr.1, wfC_app h0.2 hr.2⟩
theorem flp_struct {L : List (Bool × Nat × TypeId)} (h : fldsOf P t = some L) (hf : FldF P 0 L ks) (hs : P.cellsOf t = ks.length) : FLp P t ks := by
  refine ⟨hs, fun {H enc w base spare held fuel cs x} hd => ?_⟩
  unfold fldsOf at h
  cases hu : P.underlying t with
  | none => simp [hu] at h
  | some D =>
    cases D <;> simp [hu] at h
    rename_i fs
    obtain ⟨xs, m, rfl, _, hlen, hxl, hel⟩ := DataW.trod_struct hu hd
    have := hf.rd cs (by rw [hlen, hs]; omega) (fun i p hp ks1 hF => by
      subst h
      rw [List.getElem?_map] at hp
      cases hfi : fs[i]? with
      | none => simp [hfi] at hp
      | some f =>
        simp [hfi] at hp
        have h1 := hel i f hfi
        subst hp
        rw [hF.size] at h1
        have hi : i < xs.length := by rw [hxl]; exact (Array.getElem?_eq_some_iff.1 hfi).1
        rw [List.getElem?_eq_getElem hi] at h1
        exact hF.rd h1)
    simpa using this

theorem open_flat {H : Type} {enc : TypeId × Value → H} {W : World} {r : Reach} {b0 base : Nat} {spare : Nat → Bool} {held : Bool} {v : Value} {d : DataW H} {ps : List MemPlace} (hF : FLp P t ks) (ha : (P.underlying t).map isAggD = some true)
    (hval : Value.okWide P W r b0 t v) (h : DataW.Trod enc P W base spare held t v d ps) : ∃ cs : List Value, v = .agg cs.toArray ∧ skB ks cs = true ∧ wfC cs := by
  obtain ⟨n, hn⟩ := h
  have h1 := hF.rd hn
  cases hu : P.underlying t with
  | none => simp [hu] at ha
  | some D =>
    simp only [Value.okWide, hu] at hval
    cases D <;> simp [hu, isAggD] at ha
    all_goals
      obtain ⟨cs, rfl, _⟩ := hval
      exact ⟨cs.toList, by simp, by simpa [Value.cells] using h1.1, by simpa [Value.cells] using h1.2⟩
end

theorem sk_i {k : IntKind} {ks : List SK} {cs : List Value} (h : skB (.i k :: ks) cs = true) (hw : wfC cs) : ∃ n cs', cs = .int k n :: cs' ∧ inR k n ∧ skB ks cs' = true ∧ wfC cs' := by
  cases cs with
  | nil => cases h
  | cons v cs =>
    simp only [skB, Bool.and_eq_true] at h
    cases v <;> simp [skV] at h
    obtain ⟨rfl, h2⟩ := h
    exact ⟨_, cs, rfl, hw _ (.head _), h2, fun v hv => hw v (.tail _ hv)⟩
theorem sk_b {ks : List SK} {cs : List Value} (h : skB (.b :: ks) cs = true) (hw : wfC cs) : ∃ n cs', cs = .bool n :: cs' ∧ skB ks cs' = true ∧ wfC cs' := by
  cases cs with
  | nil => cases h
  | cons v cs =>
    simp only [skB, Bool.and_eq_true] at h
    cases v <;> simp [skV] at h
    exact ⟨_, cs, rfl, h, fun v hv => hw v (.tail _ hv)⟩
theorem sk_nil {cs : List Value} (h : skB [] cs = true) : cs = [] := by
  cases cs with
  | nil => rfl
  | cons => cases h
end Go.Proofs.YtihboegopigkmaaDoor
