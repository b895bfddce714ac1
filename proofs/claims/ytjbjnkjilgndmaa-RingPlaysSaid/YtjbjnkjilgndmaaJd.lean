/- Rings as lists, plain. No program is walked. -/
import Derived.Test.YtjbjnkjilgndmaaJc
namespace Go.Proofs.Ytjbjnkjilgndmaa
set_option linter.unusedSimpArgs false
set_option linter.unusedVariables false
set_option linter.unnecessarySimpa false
set_option maxRecDepth 100000

/-- What is in a ring, the oldest first. -/
def Rg.list (r : Rg) : List Int := (List.range r.n).map r.at
theorem Rg.list_len (r : Rg) : r.list.length = r.n := by simp [Rg.list]
theorem Rg.list_get (r : Rg) {i : Nat} (h : i < r.n) : r.list.getD i 0 = r.at i := by
  simp [Rg.list, List.getD, h]
theorem mod_ne {f m i : Nat} (hf : f < m) (h0 : 0 < i) (h1 : i < m) : (f + i) % m ≠ f := by
  by_cases h : f + i < m
  · rw [Nat.mod_eq_of_lt h]; omega
  · rw [Nat.mod_eq_sub_mod (by omega), Nat.mod_eq_of_lt (by omega)]; omega
theorem mod_inj {f m i j : Nat} (hf : f < m) (hi : i < m) (hj : j < m) (h : (f + i) % m = (f + j) % m) : i = j := by
  have e : ∀ x, x < m → (f + x) % m = if f + x < m then f + x else f + x - m := fun x hx => by
    split
    · exact Nat.mod_eq_of_lt (by assumption)
    · rw [Nat.mod_eq_sub_mod (by omega), Nat.mod_eq_of_lt (by omega)]
  rw [e i hi, e j hj] at h
  split at h <;> split at h <;> omega
theorem Rg.offer_list {r : Rg} (h : r.ok) (v : Int) (hn : r.n < r.m) : (r.offer v).1.list = r.list ++ [v] := by
  have hfr := h.fr
  have hlen := h.len
  unfold Rg.offer
  rw [if_neg (by omega)]
  unfold Rg.list
  dsimp only
  rw [List.range_succ, List.map_append]
  congr 1
  · refine List.map_congr_left fun i hi => ?_
    have hi := List.mem_range.1 hi
    unfold Rg.at
    dsimp only
    have : (r.fr + r.n) % r.m ≠ (r.fr + i) % r.m := fun e => by
      have := mod_inj hfr hn (by omega) e
      omega
    simp [List.getD, List.getElem?_set_ne this]
  · have hx : (r.fr + r.n) % r.m < r.L.length := by rw [hlen]; exact Nat.mod_lt _ (by omega)
    simp [Rg.at, List.getD, hx]
theorem Rg.pop_list {r : Rg} (h : r.ok) (hn : 0 < r.n) : r.list = r.at 0 :: r.pop.1.list := by
  have hfr := h.fr
  have hnm := h.n
  unfold Rg.pop
  rw [if_neg (by omega)]
  unfold Rg.list
  dsimp only
  obtain ⟨k, hk⟩ : ∃ k, r.n = k + 1 := ⟨r.n - 1, by omega⟩
  rw [hk, Nat.add_sub_cancel, List.range_succ_eq_map, List.map_cons, List.map_map]
  congr 1
  refine List.map_congr_left fun i hi => ?_
  have hi := List.mem_range.1 hi
  show r.at (i + 1) = _
  unfold Rg.at
  dsimp only
  have e : ((r.fr + 1) % r.m + i) % r.m = (r.fr + (i + 1)) % r.m := by
    rw [Nat.add_mod ((r.fr + 1) % r.m), Nat.mod_mod, ← Nat.add_mod]
    congr 1; omega
  rw [e]
  have : r.fr ≠ (r.fr + (i + 1)) % r.m := (mod_ne hfr (by omega) (by omega)).symm
  simp [List.getD, List.getElem?_set_ne this]
theorem Rg.pop_fields {r : Rg} (hn : 0 < r.n) : r.pop.1.n = r.n - 1 ∧ r.pop.1.m = r.m ∧ r.pop.1.lo = r.lo ∧ r.pop.1.dr = r.dr ∧ r.pop.2.1 = r.at 0 ∧ r.pop.2.2 = true := by
  unfold Rg.pop; rw [if_neg (by omega)]; exact ⟨rfl, rfl, rfl, rfl, rfl, rfl⟩
/-- The last so many. -/
def lastN (m : Nat) (l : List Int) : List Int := l.drop (l.length - m)
theorem lastN_snoc {m : Nat} (hm : 0 < m) (l : List Int) (v : Int) : lastN m (l ++ [v]) = if m ≤ l.length then (lastN m l).tail ++ [v] else l ++ [v] := by
  unfold lastN
  rw [List.length_append, List.length_singleton]
  split
  · rw [show l.length + 1 - m = (l.length - m) + 1 by omega, List.drop_append_of_le_length (by omega), List.tail_drop]
  · rw [show l.length + 1 - m = 0 by omega, List.drop_zero]
theorem lastN_len (m : Nat) (l : List Int) : (lastN m l).length = min m l.length := by unfold lastN; rw [List.length_drop]; omega
theorem lastN_le {m : Nat} {l : List Int} (h : l.length ≤ m) : lastN m l = l := by unfold lastN; rw [show l.length - m = 0 by omega]; rfl
/-- What is pushed into an empty ring: the last ones; the others were lost. -/
theorem pushN_list {r : Rg} (h : r.ok) (h0 : r.n = 0) (l : List Int) : (pushN r l).1.list = lastN r.m l ∧ (pushN r l).2 = l.length - r.m ∧ (pushN r l).1.lo = min (r.lo + (l.length - r.m)) 65535 ∧ (pushN r l).1.dr = r.dr := by
  have key : ∀ j, j ≤ l.length → (pushN r (l.take j)).1.list = lastN r.m (l.take j) ∧ (pushN r (l.take j)).2 = j - r.m ∧ (pushN r (l.take j)).1.lo = min (r.lo + (j - r.m)) 65535 ∧ (pushN r (l.take j)).1.dr = r.dr := by
    intro j
    induction j with
    | zero =>
      intro _
      have e : r.list = [] := by unfold Rg.list; rw [h0]; rfl
      have := h.lo
      exact ⟨by rw [List.take_zero]; show r.list = _; rw [e]; simp [lastN], by simp [pushN], by simp [pushN]; omega, rfl⟩
    | succ j ih =>
      intro hj
      obtain ⟨h1, h2, h3, h4⟩ := ih (by omega)
      have hok := pushN_ok h (l.take j)
      rw [pushN_snoc r (by omega)]
      obtain ⟨x, hx⟩ : ∃ x, pushN r (l.take j) = x := ⟨_, rfl⟩
      rw [hx] at h1 h2 h3 h4 hok ⊢
      have hroom := h.room
      have hn : x.1.n = min r.m j := by
        have := x.1.list_len
        rw [h1, lastN_len, List.length_take] at this
        omega
      rw [take_snoc l j (by omega), lastN_snoc (by omega), List.length_take, show min j l.length = j by omega]
      unfold pushF
      rw [hok.2]
      by_cases hf : x.1.n = r.m
      · rw [if_pos hf, if_pos (by omega)]
        have hp := Rg.pop_list hok.1 (show 0 < x.1.n by omega)
        have hpf := Rg.pop_fields (show 0 < x.1.n by omega)
        have hlo := lost_ok hok.1
        have hol := Rg.offer_list hlo (l.getD j 0) (by dsimp only; rw [hpf.1, hpf.2.1, hok.2]; omega)
        refine ⟨?_, by rw [h2]; omega, ?_, ?_⟩
        · rw [hol, ← h1, hp]; rfl
        · unfold Rg.offer
          rw [if_neg (by dsimp only; rw [hpf.1, hpf.2.1, hok.2]; omega)]
          dsimp only
          rw [hpf.2.2.1, h3]; omega
        · unfold Rg.offer
          rw [if_neg (by dsimp only; rw [hpf.1, hpf.2.1, hok.2]; omega)]
          dsimp only
          rw [hpf.2.2.2.1, h4]
      · rw [if_neg hf, if_neg (by omega)]
        have hol := Rg.offer_list hok.1 (l.getD j 0) (by rw [hok.2]; omega)
        refine ⟨?_, by rw [h2]; omega, ?_, ?_⟩
        · rw [hol, h1, lastN_le (by rw [List.length_take]; omega)]
        · unfold Rg.offer
          rw [if_neg (by rw [hok.2]; exact hf)]
          dsimp only
          rw [h3]; omega
        · unfold Rg.offer
          rw [if_neg (by rw [hok.2]; exact hf)]
          exact h4
  have := key l.length (Nat.le_refl _)
  rwa [List.take_length] at this
end Go.Proofs.Ytjbjnkjilgndmaa
