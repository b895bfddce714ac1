/- Maps from pairs of numbers to pairs of numbers: what lies in memory, and what the operations do. No program. -/
import Derived.Test.YtihboegopigkmaaDoorGs
import Derived.Test.YtihboegopigkmaaDoorGx
import Derived.Test.YtihboegopigkmaaDoorSq
import Derived.Maps.RangeRun
namespace Go.Proofs.YtihboegopigkmaaDoor
set_option linter.unusedSimpArgs false
set_option linter.unusedVariables false
set_option linter.unnecessarySimpa false
set_option linter.unusedSectionVars false
open Go.RowKit
open Go.ChangeMaps (setBlock)

/-- A pair as a value. -/
def pV (k1 k2 : IntKind) (p : Int × Int) : Value := .agg #[.int k1 p.1, .int k2 p.2]
abbrev PE := List ((Int × Int) × (Int × Int))
/-- A map's types. -/
structure MapT (P : Program) (t k e : TypeId) (ik k1 k2 : IntKind) : Prop where
  m : P.underlying t = some (.map k e)
  q : ∃ d, d ≤ 10000 ∧ EqT P d k true [.i ik, .i ik]
  u : ∃ d, P.underlying k = some d
  c : ∀ e w p, (Instr.checkKey e 10000 k (pV ik ik p)).run P w = .ok () w
  z : ∀ w, (zeroValue e).run P w = .ok (pV k1 k2 (0, 0)) w
def entsL (ik k1 k2 : IntKind) : Nat → PE → List MapEntry
  | _, [] => []
  | n, p :: E => ⟨pV ik ik p.1, pV k1 k2 p.2, n⟩ :: entsL ik k1 k2 (n + 1) E
def mapI (ik k1 k2 : IntKind) (b : Nat) (E : PE) : Itm where
  foot := [b]
  holds w := w.heap[b]? = some (.map (entsL ik k1 k2 0 E).toArray E.length)
  loc w w' h hh := by rw [h b (List.mem_singleton.2 rfl)]; exact hh
  live w h k hk := by cases List.mem_singleton.1 hk; exact (Array.getElem?_eq_some_iff.1 h).1
/-- An iterator over a map: which entries were seen. -/
def itI (r : Nat) (m : Option Nat) (n : Nat) (seen : List Nat) : Itm where
  foot := [r]
  holds w := w.heap[r]? = some (.mapIter m n seen.toArray n)
  loc w w' h hh := by rw [h r (List.mem_singleton.2 rfl)]; exact hh
  live w h k hk := by cases List.mem_singleton.1 hk; exact (Array.getElem?_eq_some_iff.1 h).1
def getE (E : PE) (key : Int × Int) : Option (Int × Int) := (E.find? (fun p => decide (key = p.1))).map (·.2)
def putE : PE → Int × Int → Int × Int → PE
  | [], key, v => [(key, v)]
  | p :: E, key, v => if key = p.1 then (key, v) :: E else p :: putE E key v
theorem getE_put (E : PE) (key v key' : Int × Int) : getE (putE E key v) key' = if key' = key then some v else getE E key' := by
  induction E with
  | nil =>
    unfold putE getE
    by_cases h : key' = key
    · simp [h]
    · simp [h]
  | cons p E ih =>
    unfold putE
    by_cases h1 : key = p.1
    · rw [if_pos h1]
      unfold getE
      by_cases h2 : key' = key
      · simp [h2]
      · have h3 : ¬ key' = p.1 := by rw [← h1]; exact h2
        simp [h2, h3]
    · rw [if_neg h1]
      unfold getE at ih ⊢
      by_cases h2 : key' = p.1
      · have h3 : ¬ key' = key := fun e => h1 (by rw [← e, h2])
        subst h2
        simp [h3]
      · simp only [List.find?_cons, decide_eq_false h2]
        exact ih
theorem putE_len (E : PE) (key v : Int × Int) : (putE E key v).length ≤ E.length + 1 := by
  induction E with
  | nil => simp [putE]
  | cons p E ih => unfold putE; split <;> simp <;> omega
def findI (key : Int × Int) : PE → Nat → Option (Nat × (Int × Int))
  | [], _ => none
  | p :: E, i => if key = p.1 then some (i, p.2) else findI key E (i + 1)
theorem findI_get (key : Int × Int) : ∀ (E : PE) (i : Nat), (findI key E i).map (·.2) = getE E key
  | [], i => rfl
  | p :: E, i => by
    unfold findI getE
    by_cases h : key = p.1
    · simp [h]
    · rw [if_neg h, findI_get key E (i + 1)]
      simp [getE, h]
section
variable {P : Program} {t k e : TypeId} {ik k1 k2 : IntKind}
theorem eq_run (H : MapT P t k e ik k1 k2) (a b : Int × Int) (w : World) : (Op.equal k (pV ik ik a) (pV ik ik b)).run P w = .ok (decide (a = b)) w := by
  obtain ⟨d, hd, hq⟩ := H.q
  have h1 : skB [.i ik, .i ik] [.int ik a.1, .int ik a.2] = true := by simp [skB, skV]
  have h2 : skB [.i ik, .i ik] [.int ik b.1, .int ik b.2] = true := by simp [skB, skV]
  have := hq.e 10000 hd _ _ w h1 h2
  simp only [asV] at this
  show (Op.equalIn 10000 k (pV ik ik a) (pV ik ik b)).run P w = _
  unfold pV
  rw [this]
  congr 1
  rw [Bool.eq_iff_iff, eqC_iff h1 h2]
  obtain ⟨a1, a2⟩ := a
  obtain ⟨b1, b2⟩ := b
  simp
theorem ask_run (H : MapT P t k e ik k1 k2) (key : Int × Int) (w : World) : ∀ (E : PE) (n i : Nat), (Instr.findAsking k (pV ik ik key) (entsL ik k1 k2 n E) i).run P w = .ok ((findI key E i).map fun q => (q.1, pV k1 k2 q.2)) w
  | [], n, i => rfl
  | p :: E, n, i => by
    unfold entsL Instr.findAsking findI
    simp only [Sem.run_bind, eq_run H, Result.andThen_ok]
    by_cases h : key = p.1
    · simp [h]
    · simp only [decide_eq_false h, Bool.false_eq_true, if_false, if_neg h]
      exact ask_run H key w E (n + 1) (i + 1)
theorem key_run (H : MapT P t k e ik k1 k2) (key : Int × Int) (w : World) (E : PE) : (Instr.findKey k (pV ik ik key) (entsL ik k1 k2 0 E)).run P w = .ok ((findI key E 0).map fun q => (q.1, pV k1 k2 q.2)) w := by
  obtain ⟨d, hd⟩ := H.u
  unfold Instr.findKey
  simp only [Sem.run_bind, run_underlying hd, Result.andThen_ok]
  cases E with
  | nil => rfl
  | cons p E =>
    have : Instr.findNow d (pV ik ik key) (entsL ik k1 k2 0 (p :: E)) 0 = none := by
      show (match Instr.sameNow d (pV ik ik key) (pV ik ik p.1) with | some true => _ | some false => _ | none => none) = none
      have : Instr.sameNow d (pV ik ik key) (pV ik ik p.1) = none := by cases d <;> rfl
      rw [this]
    rw [this]
    exact ask_run H key w (p :: E) 0 0
theorem look_run (H : MapT P t k e ik k1 k2) (key : Int × Int) {w : World} {b : Nat} {E : PE} (hb : (mapI ik k1 k2 b E).holds w) (c : Bool) :
    (Instr.lookup t (.map (some b)) (pV ik ik key) c).run P w = .ok (bif c then .tuple #[pV k1 k2 ((getE E key).getD (0, 0)), .bool (getE E key).isSome] else pV k1 k2 ((getE E key).getD (0, 0))) w := by
  have hb : w.heap[b]? = some (.map (entsL ik k1 k2 0 E).toArray E.length) := hb
  have h1 := key_run H key w E
  have h2 := findI_get key E 0
  have hg : (getObj b).run P w = .ok (.map (entsL ik k1 k2 0 E).toArray E.length) w := by simp [getObj, Sem.run, hb]
  unfold Instr.lookup
  simp only [Sem.run_bind, run_underlying H.m, Result.andThen_ok, hg, Sem.run_pure, H.c, h1]
  rw [← h2]
  cases hf : findI key E 0 with
  | none => cases c <;> simp [H.z w]
  | some q => cases c <;> simp
theorem look_nil (H : MapT P t k e ik k1 k2) (key : Int × Int) (w : World) (c : Bool) :
    (Instr.lookup t (.map none) (pV ik ik key) c).run P w = .ok (bif c then .tuple #[pV k1 k2 (0, 0), .bool false] else pV k1 k2 (0, 0)) w := by
  unfold Instr.lookup
  have h1 := key_run H key w []
  have hz := H.z w
  have hc := H.c
  cases c <;> simp [run_underlying H.m, hc, show entsL ik k1 k2 0 [] = [] from rfl] at h1 ⊢ <;> simp [h1, findI, hz]
theorem ents_mod (key v : Int × Int) : ∀ (E : PE) (n i j : Nat) (v0 : Int × Int), findI key E i = some (j, v0) → ∃ m, j = i + m ∧ (entsL ik k1 k2 n E).modify m (fun e => { e with key := pV ik ik key, val := pV k1 k2 v }) = entsL ik k1 k2 n (putE E key v) ∧ (putE E key v).length = E.length
  | [], n, i, j, v0, h => by cases h
  | p :: E, n, i, j, v0, h => by
    unfold findI at h
    unfold putE
    by_cases hk : key = p.1
    · rw [if_pos hk] at h ⊢
      injection h with h
      injection h with h1 h2
      exact ⟨0, by omega, rfl, rfl⟩
    · rw [if_neg hk] at h ⊢
      obtain ⟨m, h1, h2, h3⟩ := ents_mod key v E (n + 1) (i + 1) j v0 h
      refine ⟨m + 1, by omega, ?_, by simp [h3]⟩
      show (⟨pV ik ik p.1, pV k1 k2 p.2, n⟩ : MapEntry) :: (entsL ik k1 k2 (n + 1) E).modify m _ = _
      rw [h2]
      rfl
theorem ents_push (key v : Int × Int) : ∀ (E : PE) (n i : Nat), findI key E i = none → entsL ik k1 k2 n E ++ [⟨pV ik ik key, pV k1 k2 v, n + E.length⟩] = entsL ik k1 k2 n (putE E key v) ∧ (putE E key v).length = E.length + 1
  | [], n, i, h => ⟨rfl, rfl⟩
  | p :: E, n, i, h => by
    unfold findI at h
    unfold putE
    by_cases hk : key = p.1
    · rw [if_pos hk] at h; cases h
    · rw [if_neg hk] at h ⊢
      obtain ⟨h2, h3⟩ := ents_push key v E (n + 1) (i + 1) h
      refine ⟨?_, by simp [h3]⟩
      show (⟨pV ik ik p.1, pV k1 k2 p.2, n⟩ : MapEntry) :: (entsL ik k1 k2 (n + 1) E ++ _) = _
      rw [List.length_cons, show n + (E.length + 1) = n + 1 + E.length by omega, h2]
      rfl
theorem ents_get : ∀ (E : PE) (n m : Nat) (key : Int × Int) (q : Nat × (Int × Int)), findI key E n = some q → q.1 = n + m → ((entsL ik k1 k2 n E)[m]?).map (·.key) = some (pV ik ik key)
  | [], n, m, key, q, h, _ => by cases h
  | p :: E, n, m, key, q, h, hq => by
    unfold findI at h
    by_cases hk : key = p.1
    · rw [if_pos hk] at h
      injection h with h
      subst h
      obtain rfl : m = 0 := by dsimp only at hq; omega
      simp [entsL, hk]
    · rw [if_neg hk] at h
      cases m with
      | zero =>
        exfalso
        have : ∀ (E : PE) (i : Nat) (q : Nat × (Int × Int)), findI key E i = some q → i ≤ q.1 := by
          intro E
          induction E with
          | nil => intro i q h; cases h
          | cons p E ih =>
            intro i q h
            unfold findI at h
            split at h
            · injection h with h; subst h; exact Nat.le_refl _
            · have := ih (i + 1) q h; omega
        have := this E (n + 1) q h
        omega
      | succ m =>
        show ((entsL ik k1 k2 (n + 1) E)[m]?).map (·.key) = _
        exact ents_get E (n + 1) m key q h (by omega)
theorem same_pV (a : Int × Int) : Instr.sameBits 10000 (pV ik ik a) (pV ik ik a) = true := by
  simp [pV, Instr.sameBits]
theorem upd_run (H : MapT P t k e ik k1 k2) (key v : Int × Int) {w : World} {b : Nat} {E : PE} (hb : (mapI ik k1 k2 b E).holds w) :
    (Instr.mapUpdate t (.map (some b)) (pV ik ik key) (pV k1 k2 v)).run P w = .ok () (setBlock w b (.map (entsL ik k1 k2 0 (putE E key v)).toArray (putE E key v).length)) := by
  have hb : w.heap[b]? = some (.map (entsL ik k1 k2 0 E).toArray E.length) := hb
  have h1 := key_run H key w E
  have hs : ∀ o', (setObj b o').run P w = .ok () (setBlock w b o') := fun o' => by simp [setObj, Sem.run, hb, setBlock]
  have hg : (getObj b).run P w = .ok (.map (entsL ik k1 k2 0 E).toArray E.length) w := by simp [getObj, Sem.run, hb]
  unfold Instr.mapUpdate
  simp only [Sem.run_bind, run_underlying H.m, Result.andThen_ok, hg, H.c, h1]
  cases hf : findI key E 0 with
  | none =>
    obtain ⟨h2, h3⟩ := ents_push (ik := ik) (k1 := k1) (k2 := k2) key v E 0 0 hf
    rw [Nat.zero_add] at h2
    simp only [Option.map_none, hs]
    rw [← h2, h3]
    simp
  | some q =>
    obtain ⟨m, h2, h3, h4⟩ := ents_mod (ik := ik) (k1 := k1) (k2 := k2) key v E 0 0 q.1 q.2 hf
    have h5 := ents_get (ik := ik) (k1 := k1) (k2 := k2) E 0 m key q hf h2
    rw [Nat.zero_add] at h2
    simp only [Option.map_some, h2]
    have h6 : (((entsL ik k1 k2 0 E).toArray[m]?).map (·.key)).getD (pV ik ik key) = pV ik ik key := by
      have : ((entsL ik k1 k2 0 E).toArray[m]?).map (·.key) = some (pV ik ik key) := by simpa using h5
      rw [this]; rfl
    rw [h6]
    simp only [Instr.keyThatStays, same_pV, if_true, Sem.run_bind, Sem.run_pure, Result.andThen_ok, hs]
    rw [← h3, h4]
    simp
end
end Go.Proofs.YtihboegopigkmaaDoor
