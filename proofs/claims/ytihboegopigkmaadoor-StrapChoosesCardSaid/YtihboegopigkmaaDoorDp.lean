/- Opening arguments of depth: structs, arrays and slices of integers, bools and slices, at any depth. -/
import Derived.Test.YtihboegopigkmaaDoorFl
namespace Go.Proofs.YtihboegopigkmaaDoor
set_option linter.unusedSimpArgs false
set_option linter.unusedVariables false
set_option linter.unnecessarySimpa false
set_option linter.unusedSectionVars false
open Go.ChangeShapes Go.WideShapes Go.ChangeAt Go.RowKit

inductive DK
  | i (k : IntKind)
  | b
  | s (ks : List DK)
mutual
/-- How a cell reads in a world. -/
def okD (w : World) : DK → Value → Prop
  | .i k, v => ∃ n, v = .int k n ∧ inR k n
  | .b, v => ∃ b, v = .bool b
  | .s ks, v => ∃ A n c, v = .slice A n c ∧ n ≤ c ∧ c ≤ maxLen ∧ (A = none → n = 0 ∧ c = 0) ∧
      (0 < n → ∃ b off, A = some ⟨b, off, none⟩ ∧ ∀ i, i < n → ∃ cs : List Value, (∀ j u, cs[j]? = some u → w.cell? ⟨b, off + i * ks.length + j, none⟩ = some u) ∧ okDs w ks cs)
def okDs (w : World) : List DK → List Value → Prop
  | [], cs => cs = []
  | k :: ks, cs => ∃ v r, cs = v :: r ∧ okD w k v ∧ okDs w ks r
end
theorem okDs_len {w : World} : ∀ {ks : List DK} {cs : List Value}, okDs w ks cs → cs.length = ks.length
  | [], cs, h => by simp only [okDs] at h; simp [h]
  | k :: ks, cs, h => by
    simp only [okDs] at h
    obtain ⟨v, r, rfl, _, h⟩ := h
    simp [okDs_len h]
theorem okDs_app {w : World} : ∀ {k1 k2 : List DK} {c1 c2 : List Value}, okDs w k1 c1 → okDs w k2 c2 → okDs w (k1 ++ k2) (c1 ++ c2)
  | [], k2, c1, c2, h1, h2 => by simp only [okDs] at h1; subst h1; exact h2
  | k :: k1, k2, c1, c2, h1, h2 => by
    simp only [okDs] at h1
    obtain ⟨v, r, rfl, h3, h4⟩ := h1
    simp only [List.cons_append, okDs]
    exact ⟨v, r ++ c2, rfl, h3, okDs_app h4 h2⟩
def repD (n : Nat) (ks : List DK) : List DK := match n with
  | 0 => []
  | n + 1 => ks ++ repD n ks
theorem repD_len (n : Nat) (ks : List DK) : (repD n ks).length = n * ks.length := by
  induction n with
  | zero => simp [repD]
  | succ n ih => simp [repD, ih, Nat.add_mul, Nat.add_comm]

structure DLp (P : Program) (t : TypeId) (ks : List DK) : Prop where
  size : P.cellsOf t = ks.length
  rd : ∀ {H : Type} {enc : TypeId × Value → H} {w : World} {base : Nat} {spare : Nat → Bool} {held : Bool} {n : Nat} {cs : List Value} {x : DataW H × List MemPlace},
    DataW.trod enc P w base spare held n t cs = some x → okDs w ks cs
section
variable {P : Program} {t : TypeId} {ks : List DK}
theorem dlp_int {k : IntKind} (h : P.underlying t = some (.int k)) (hs : P.cellsOf t = 1) : DLp P t [.i k] :=
  ⟨hs, fun hd => by
    obtain ⟨a, rfl, _, wa⟩ := DataW.trod_int h hd
    simp only [okDs, okD]
    exact ⟨_, _, rfl, ⟨a, rfl, inR_wf wa⟩, rfl⟩⟩
theorem dlp_bool (h : P.underlying t = some .bool) (hs : P.cellsOf t = 1) : DLp P t [.b] :=
  ⟨hs, fun hd => by
    obtain ⟨a, rfl, _⟩ := DataW.trod_bool h hd
    simp only [okDs, okD]
    exact ⟨_, _, rfl, ⟨a, rfl⟩, rfl⟩⟩
theorem mapM_get {α β : Type} {f : α → Option β} : ∀ {l : List α} {r : List β}, l.mapM f = some r → r.length = l.length ∧ ∀ (i : Nat) (x : α) (y : β), l[i]? = some x → r[i]? = some y → f x = some y
  | [], r, h => by simp at h; subst h; simp
  | a :: l, r, h => by
    rw [List.mapM_cons] at h
    cases ha : f a with
    | none => simp [ha] at h
    | some b =>
      cases hl : l.mapM f with
      | none => simp [ha, hl] at h
      | some r' =>
        simp [ha, hl] at h
        subst h
        obtain ⟨h1, h2⟩ := mapM_get hl
        refine ⟨by simp [h1], fun i x y hx hy => ?_⟩
        cases i with
        | zero => simp at hx hy; subst hx hy; exact ha
        | succ i => simp at hx hy; exact h2 i x y hx hy
theorem cells_get {w : World} {base n : Nat} {a : Addr} {cs : List Value} (h : w.cells? base a n = some cs) : ∀ (j : Nat) (u : Value), cs[j]? = some u → w.cell? (a.add j) = some u := by
  unfold World.cells? at h
  split at h
  · obtain ⟨h1, h2⟩ := mapM_get h
    intro j u hu
    have hj := (List.getElem?_eq_some_iff.1 hu).1
    rw [h1, List.length_range] at hj
    exact h2 j j u (by simp [hj]) hu
  · cases h
theorem dlp_slice {e : TypeId} (h : P.underlying t = some (.slice e)) (he : DLp P e ks) (h0 : 0 < ks.length) (hs : P.cellsOf t = 1) : DLp P t [.s ks] := by
  refine ⟨hs, fun {H enc w base spare held fuel cs x} hd => ?_⟩
  simp only [okDs, okD]
  rcases DataW.trod_slice h hd with ⟨rfl, _⟩ | ⟨a, len, cap, elems, rest, n, _, rfl, _, _, hl, hm, hlen, hel, _, _⟩
  · exact ⟨_, _, rfl, ⟨none, 0, 0, rfl, Nat.le_refl _, Nat.zero_le _, fun _ => ⟨rfl, rfl⟩, fun h => absurd h (Nat.lt_irrefl _)⟩, rfl⟩
  · refine ⟨_, _, rfl, ⟨some a, len, cap, rfl, hl, hm, (fun h => by cases h), fun hp => ?_⟩, rfl⟩
    have key : ∀ i, i < len → ∃ cs' : List Value, (∀ j u, cs'[j]? = some u → w.cell? ((a.add (i * ks.length)).add j) = some u) ∧ okDs w ks cs' := fun i hi => by
      have h1 := hel i hi
      rw [List.getElem?_eq_getElem (by omega), he.size, Option.bind_eq_some_iff] at h1
      obtain ⟨cs', hc, ht⟩ := h1
      exact ⟨cs', fun j u hu => cells_get hc j u hu, he.rd ht⟩
    obtain ⟨c0, hc0, ho0⟩ := key 0 hp
    have hl0 := okDs_len ho0
    have hsp := World.cell?_spot (hc0 0 c0[0] (by rw [List.getElem?_eq_getElem (by omega)]))
    obtain ⟨b, off, sp⟩ := a
    obtain rfl : sp = none := by simpa [Addr.add] using hsp
    refine ⟨b, off, rfl, fun i hi => ?_⟩
    obtain ⟨cs', hc, ho⟩ := key i hi
    refine ⟨cs', fun j u hu => ?_, ho⟩
    have := hc j u hu
    rwa [Addr.add_lit, Addr.add_lit] at this
inductive FldD (P : Program) : Nat → List (Bool × Nat × TypeId) → List DK → Prop
  | nil {off} : FldD P off [] []
  | cons {off off' b ft L ks1 ks2 ks} : DLp P ft ks1 → off + ks1.length = off' → ks1 ++ ks2 = ks → FldD P off' L ks2 → FldD P off ((b, off, ft) :: L) ks
theorem FldD.rd {w : World} {off : Nat} {L : List (Bool × Nat × TypeId)} {ks : List DK} (h : FldD P off L ks) (cs : List Value) (hl : cs.length = off + ks.length)
    (hc : ∀ (i : Nat) (p : Bool × Nat × TypeId), L[i]? = some p → ∀ ks1, DLp P p.2.2 ks1 → okDs w ks1 ((cs.drop p.2.1).take ks1.length)) : okDs w ks (cs.drop off) := by
  induction h with
  | nil =>
    rw [List.drop_of_length_le (by simpa using Nat.le_of_eq hl)]
    simp only [okDs]
  | @cons off off' b ft L ks1 ks2 ks h1 h2 h3 _ ih =>
    subst h2
    subst h3
    have h0 := hc 0 (b, off, ft) rfl ks1 h1
    simp only at h0
    have hr := ih (by simp at hl; omega) (fun i p hp => hc (i + 1) p (by simpa using hp))
    have e := List.take_append_drop ks1.length (cs.drop off)
    rw [List.drop_drop] at e
    rw [← e]
    exact okDs_app h0 hr
theorem dlp_struct {L : List (Bool × Nat × TypeId)} (h : fldsOf P t = some L) (hf : FldD P 0 L ks) (hs : P.cellsOf t = ks.length) : DLp P t ks := by
  refine ⟨hs, fun {H enc w base spare held fuel cs x} hd => ?_⟩
  unfold fldsOf at h
  cases hu : P.underlying t with
  | none => simp [hu] at h
  | some D =>
    cases D <;> simp [hu] at h
    rename_i fs
    obtain ⟨xs, m, rfl, _, hlen, hxl, hel⟩ := DataW.trod_struct hu hd
    have := hf.rd (w := w) cs (by rw [hlen, hs]; omega) (fun i p hp ks1 hF => by
      subst h
      rw [List.getElem?_map] at hp
      cases hfi : fs[i]? with
      | none => simp [hfi] at hp
      | some f =>
        simp [hfi] at hp
        have h1 := hel i f hfi
        subst hp
        rw [hF.size] at h1
        have hi : i < xs.length := by rw [hxl]; exact (Array.getElem?_eq_some_iff.1 hfi).1
        rw [List.getElem?_eq_getElem hi] at h1
        exact hF.rd h1)
    simpa using this
theorem dlp_rep {w : World} (ks : List DK) (m : Nat) (cs : List Value) (hl : cs.length = m * ks.length)
    (h : ∀ i, i < m → okDs w ks ((cs.drop (i * ks.length)).take ks.length)) : okDs w (repD m ks) cs := by
  induction m generalizing cs with
  | zero =>
    obtain rfl : cs = [] := List.eq_nil_of_length_eq_zero (by simpa using hl)
    simp only [repD, okDs]
  | succ m ih =>
    rw [Nat.add_mul] at hl
    have h0 := h 0 (by omega)
    simp only [Nat.zero_mul, List.drop_zero] at h0
    have h1 := ih (cs.drop ks.length) (by simp; omega) (fun i hi => by
      have := h (i + 1) (by omega)
      rw [Nat.add_mul, Nat.one_mul, Nat.add_comm] at this
      rw [List.drop_drop]
      exact this)
    have e := List.take_append_drop ks.length cs
    rw [← e]
    exact okDs_app h0 h1
theorem dlp_arr {e : TypeId} {n : Nat} {ks' : List DK} (h : P.underlying t = some (.array n e)) (he : DLp P e ks) (hk : repD n ks = ks') (hs : P.cellsOf t = ks'.length) : DLp P t ks' := by
  subst hk
  refine ⟨hs, fun {H enc w base spare held fuel cs x} hd => ?_⟩
  obtain ⟨xs, m, rfl, _, hlen, hxl, hel⟩ := DataW.trod_array h hd
  refine dlp_rep ks n cs (by rw [hlen, hs, repD_len]) fun i hi => ?_
  have := hel i hi
  rw [he.size] at this
  have hx : ∃ y, xs[i]? = some y := ⟨xs[i]'(by omega), List.getElem?_eq_getElem _⟩
  obtain ⟨y, hy⟩ := hx
  rw [hy] at this
  exact he.rd this
/-- A struct or an array that came in. -/
theorem open_deep {H : Type} {enc : TypeId × Value → H} {W : World} {r : Reach} {b0 base : Nat} {spare : Nat → Bool} {held : Bool} {v : Value} {d : DataW H} {ps : List MemPlace} (hF : DLp P t ks) (ha : (P.underlying t).map isAggD = some true)
    (hval : Value.okWide P W r b0 t v) (h : DataW.Trod enc P W base spare held t v d ps) : ∃ cs : List Value, v = .agg cs.toArray ∧ okDs W ks cs := by
  obtain ⟨n, hn⟩ := h
  have h1 := hF.rd hn
  cases hu : P.underlying t with
  | none => simp [hu] at ha
  | some D =>
    simp only [Value.okWide, hu] at hval
    cases D <;> simp [hu, isAggD] at ha
    all_goals
      obtain ⟨cs, rfl, _⟩ := hval
      exact ⟨cs.toList, by simp, by simpa [Value.cells] using h1⟩
/-- A slice that came in. -/
theorem open_deepS {H : Type} {enc : TypeId × Value → H} {W : World} {r : Reach} {b0 base : Nat} {spare : Nat → Bool} {held : Bool} {v : Value} {d : DataW H} {ps : List MemPlace} {e : TypeId} {k : DK} (hF : DLp P t [k]) (hu : P.underlying t = some (.slice e))
    (hval : Value.okWide P W r b0 t v) (h : DataW.Trod enc P W base spare held t v d ps) : okD W k v := by
  obtain ⟨a, len, cap, rfl⟩ := okWide_slice hu hval
  obtain ⟨n, hn⟩ := h
  have h1 := hF.rd hn
  simp only [okDs, Value.cells] at h1
  obtain ⟨v, r, e, h2, _⟩ := h1
  simp at e
  rw [e.1]
  exact h2
end
theorem dk_i {w : World} {k : IntKind} {ks : List DK} {cs : List Value} (h : okDs w (.i k :: ks) cs) : ∃ n cs', cs = .int k n :: cs' ∧ inR k n ∧ okDs w ks cs' := by
  simp only [okDs, okD] at h
  obtain ⟨v, r, rfl, ⟨n, rfl, hn⟩, h⟩ := h
  exact ⟨n, r, rfl, hn, h⟩
theorem dk_b {w : World} {ks : List DK} {cs : List Value} (h : okDs w (.b :: ks) cs) : ∃ n cs', cs = .bool n :: cs' ∧ okDs w ks cs' := by
  simp only [okDs, okD] at h
  obtain ⟨v, r, rfl, ⟨n, rfl⟩, h⟩ := h
  exact ⟨n, r, rfl, h⟩
theorem dk_nil {w : World} {cs : List Value} (h : okDs w [] cs) : cs = [] := by simpa only [okDs] using h
/-- A slice of integers, as a list. -/
theorem okD_ints {w : World} {k : IntKind} {v : Value} (h : okD w (.s [.i k]) v) : ∃ A n c zs, v = .slice A n c ∧ IRow k w A n zs ∧ n ≤ c ∧ c ≤ maxLen ∧ (∀ z ∈ zs, inR k z) ∧ (A = none → n = 0 ∧ c = 0) := by
  simp only [okD] at h
  obtain ⟨A, n, c, rfl, hle, hm, hn0, hc⟩ := h
  by_cases hn : 0 < n
  · obtain ⟨b, off, rfl, hc'⟩ := hc hn
    have key : ∀ i, i < n → ∃ z, w.cell? ⟨b, off + i, none⟩ = some (.int k z) ∧ inR k z := fun i hi => by
      obtain ⟨cs, h1, h2⟩ := hc' i hi
      obtain ⟨z, r, rfl, hz, h2⟩ := dk_i h2
      have := h1 0 _ rfl
      simp at this
      exact ⟨z, this, hz⟩
    have hex : ∃ zs : List Int, zs.length = n ∧ ∀ i, i < n → w.cell? ⟨b, off + i, none⟩ = some (.int k (zs.getD i 0)) ∧ inR k (zs.getD i 0) := by
      have : ∀ m, m ≤ n → ∃ zs : List Int, zs.length = m ∧ ∀ i, i < m → w.cell? ⟨b, off + i, none⟩ = some (.int k (zs.getD i 0)) ∧ inR k (zs.getD i 0) := by
        intro m
        induction m with
        | zero => exact fun _ => ⟨[], rfl, fun i h => by omega⟩
        | succ m ih =>
          intro hm
          obtain ⟨zs, hl, hz⟩ := ih (by omega)
          obtain ⟨z, h1, h2⟩ := key m (by omega)
          refine ⟨zs ++ [z], by simp [hl], fun i hi => ?_⟩
          rcases Nat.lt_succ_iff_lt_or_eq.1 hi with h3 | h3
          · have := hz i h3
            rwa [show (zs ++ [z]).getD i 0 = zs.getD i 0 by simp [List.getD, List.getElem?_append_left (show i < zs.length by omega)]]
          · subst h3
            rw [show (zs ++ [z]).getD i 0 = z by simp [List.getD, ← hl]]
            exact ⟨h1, h2⟩
      exact this n (Nat.le_refl _)
    obtain ⟨zs, hl, hz⟩ := hex
    refine ⟨_, n, c, zs, rfl, ⟨hl, fun _ => ⟨b, off, rfl, fun j hj => (hz j hj).1⟩⟩, hle, hm, fun z hz' => ?_, fun h => by cases h⟩
    obtain ⟨i, hi, rfl⟩ := List.mem_iff_getElem.1 hz'
    have := (hz i (by omega)).2
    simpa [List.getD, List.getElem?_eq_getElem hi] using this
  · obtain rfl : n = 0 := by omega
    exact ⟨A, 0, c, [], rfl, IRow.nil _ _ _, hle, hm, (fun z hz => nomatch hz), hn0⟩
theorem dk_s {w : World} {k : IntKind} {ks : List DK} {cs : List Value} (h : okDs w (.s [.i k] :: ks) cs) : ∃ A n c zs cs', cs = .slice A n c :: cs' ∧ IRow k w A n zs ∧ n ≤ c ∧ c ≤ maxLen ∧ (∀ z ∈ zs, inR k z) ∧ (A = none → n = 0 ∧ c = 0) ∧ okDs w ks cs' := by
  rw [okDs] at h
  obtain ⟨v, r, rfl, h1, h2⟩ := h
  obtain ⟨A, n, c, zs, rfl, a1, a2, a3, a4, a5⟩ := okD_ints h1
  exact ⟨A, n, c, zs, r, rfl, a1, a2, a3, a4, a5, h2⟩
end Go.Proofs.YtihboegopigkmaaDoor
