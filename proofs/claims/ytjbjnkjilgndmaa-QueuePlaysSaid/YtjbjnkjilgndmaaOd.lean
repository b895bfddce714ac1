/- Rings as lists, plain. No program is walked. -/
import Derived.Test.YtjbjnkjilgndmaaOb
namespace Go.Proofs.Ytjbjnkjilgndmaa.RQ
set_option linter.unusedSimpArgs false
set_option linter.unusedVariables false
set_option linter.unnecessarySimpa false
set_option maxRecDepth 100000

/-- What is in a ring, the oldest first. -/
def Rg.list (r : Rg) : List En := (List.range r.n).map r.at
theorem Rg.list_len (r : Rg) : r.list.length = r.n := by simp [Rg.list]
theorem Rg.list_get (r : Rg) {i : Nat} (h : i < r.n) : r.list.getD i e0 = r.at i := by
  simp [Rg.list, List.getD, h]
theorem mod_ne {f m i : Nat} (hf : f < m) (h0 : 0 < i) (h1 : i < m) : (f + i) % m ≠ f := by
  by_cases h : f + i < m
  · rw [Nat.mod_eq_of_lt h]; omega
  · rw [Nat.mod_eq_sub_mod (by omega), Nat.mod_eq_of_lt (by omega)]; omega
theorem mod_inj {f m i j : Nat} (hf : f < m) (hi : i < m) (hj : j < m) (h : (f + i) % m = (f + j) % m) : i = j := by
  have e : ∀ x, x < m → (f + x) % m = if f + x < m then f + x else f + x - m := fun x hx => by
    split
    · exact Nat.mod_eq_of_lt (by assumption)
    · rw [Nat.mod_eq_sub_mod (by omega), Nat.mod_eq_of_lt (by omega)]
  rw [e i hi, e j hj] at h
  split at h <;> split at h <;> omega
theorem Rg.offer_list {r : Rg} (h : r.ok) (v : En) (hn : r.n < r.m) : (r.offer v).1.list = r.list ++ [v] := by
  have hfr := h.fr
  have hlen := h.len
  unfold Rg.offer
  rw [if_neg (by omega)]
  unfold Rg.list
  dsimp only
  rw [List.range_succ, List.map_append]
  congr 1
  · refine List.map_congr_left fun i hi => ?_
    have hi := List.mem_range.1 hi
    unfold Rg.at
    dsimp only
    have : (r.fr + r.n) % r.m ≠ (r.fr + i) % r.m := fun e => by
      have := mod_inj hfr hn (by omega) e
      omega
    simp [List.getD, List.getElem?_set_ne this]
  · have hx : (r.fr + r.n) % r.m < r.L.length := by rw [hlen]; exact Nat.mod_lt _ (by omega)
    simp [Rg.at, List.getD, hx]
theorem Rg.pop_list {r : Rg} (h : r.ok) (hn : 0 < r.n) : r.list = r.at 0 :: r.pop.1.list := by
  have hfr := h.fr
  have hnm := h.n
  unfold Rg.pop
  rw [if_neg (by omega)]
  unfold Rg.list
  dsimp only
  obtain ⟨k, hk⟩ : ∃ k, r.n = k + 1 := ⟨r.n - 1, by omega⟩
  rw [hk, Nat.add_sub_cancel, List.range_succ_eq_map, List.map_cons, List.map_map]
  congr 1
  refine List.map_congr_left fun i hi => ?_
  have hi := List.mem_range.1 hi
  show r.at (i + 1) = _
  unfold Rg.at
  dsimp only
  have e : ((r.fr + 1) % r.m + i) % r.m = (r.fr + (i + 1)) % r.m := by
    rw [Nat.add_mod ((r.fr + 1) % r.m), Nat.mod_mod, ← Nat.add_mod]
    congr 1; omega
  rw [e]
  have : r.fr ≠ (r.fr + (i + 1)) % r.m := (mod_ne hfr (by omega) (by omega)).symm
  simp [List.getD, List.getElem?_set_ne this]
theorem Rg.pop_fields {r : Rg} (hn : 0 < r.n) : r.pop.1.n = r.n - 1 ∧ r.pop.1.m = r.m ∧ r.pop.1.lo = r.lo ∧ r.pop.1.dr = r.dr ∧ r.pop.2.1 = r.at 0 ∧ r.pop.2.2 = true := by
  unfold Rg.pop; rw [if_neg (by omega)]; exact ⟨rfl, rfl, rfl, rfl, rfl, rfl⟩
end Go.Proofs.Ytjbjnkjilgndmaa.RQ
