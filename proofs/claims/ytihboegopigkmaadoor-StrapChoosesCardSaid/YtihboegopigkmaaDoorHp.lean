/- Strap: all chains: how many, by their ends. No program. -/
import Derived.Test.YtihboegopigkmaaDoorHd
namespace Go.Proofs.YtihboegopigkmaaDoor
set_option linter.unusedSimpArgs false
set_option linter.unusedVariables false
set_option linter.unnecessarySimpa false
set_option maxRecDepth 100000
set_option maxHeartbeats 4000000
open Go.RowKit

def one_ (us : List Nat) (v : Nat) : Nat := if v ∈ us then 1 else 0
theorem one_snoc (us : List Nat) (u : Nat) : ∀ v, (one_ (us ++ [u]) v : Int) = if v = u then 1 else (one_ us v : Int) := by
  intro v
  unfold one_
  by_cases h : v = u
  · subst h; simp
  · by_cases h2 : v ∈ us <;> simp [h, h2]
theorem cnt_pre1 (M : HM) (bad v : Nat) : cntL (M.pre bad 1) v = one_ (M.us bad 0 0) v := by
  show cntL (M.stepP bad 0 [[]]) v = _
  unfold HM.stepP one_
  rw [List.flatMap_cons, List.flatMap_nil, List.append_nil]
  exact cntL_map [] _ v (units_nodup _)
/-- What is added up of the first u units. -/
def nxN (M : HM) (bad i : Nat) (g : Nat → Nat) (u v : Nat) : Nat := sumN (fun u' => if v ∈ M.us bad i u' then g u' else 0) u
def nxP (M : HM) (bad i : Nat) (g : Nat → Nat) (u : Nat) (us : List Nat) (v : Nat) : Nat := nxN M bad i g u v + if v ∈ us then g u else 0
theorem nxP_snoc (M : HM) (bad i : Nat) (g : Nat → Nat) (u : Nat) (us : List Nat) (x : Nat) (hx : x ∉ us) : ∀ v, (nxP M bad i g u (us ++ [x]) v : Int) = if v = x then (nxP M bad i g u us x : Int) + (g u : Int) else (nxP M bad i g u us v : Int) := by
  intro v
  unfold nxP
  by_cases h : v = x
  · subst h; simp [hx]
  · by_cases h2 : v ∈ us <;> simp [h, h2]
theorem nxP_nil (M : HM) (bad i : Nat) (g : Nat → Nat) (u : Nat) : nxP M bad i g u [] = nxN M bad i g u := by funext v; simp [nxP]
theorem nxP_all (M : HM) (bad i : Nat) (g : Nat → Nat) (u : Nat) : nxP M bad i g u (M.us bad i u) = nxN M bad i g (u + 1) := by funext v; rfl
theorem nxN_skip {M : HM} {bad i : Nat} {g : Nat → Nat} {u : Nat} (h : g u = 0) : nxN M bad i g (u + 1) = nxN M bad i g u := by
  funext v
  unfold nxN
  rw [sumN, h]
  split <;> rfl
theorem sumN_le {f g : Nat → Nat} : ∀ n, (∀ u, f u ≤ g u) → sumN f n ≤ sumN g n
  | 0, _ => Nat.le_refl _
  | n + 1, h => by rw [sumN, sumN]; have := sumN_le n h; have := h n; omega
theorem sumN_mono {f : Nat → Nat} : ∀ {n m : Nat}, n ≤ m → sumN f n ≤ sumN f m
  | n, 0, h => by
    obtain rfl : n = 0 := by omega
    exact Nat.le_refl _
  | n, m + 1, h => by
    by_cases e : n = m + 1
    · subst e; exact Nat.le_refl _
    · have := sumN_mono (f := f) (n := n) (m := m) (by omega)
      rw [sumN]; omega
theorem pre_count (M : HM) (bad i : Nat) (hi : i ≤ 6) : (M.pre bad i).length ≤ 16777216 := by
  rw [pre_all]
  refine Nat.le_trans (ext_count M bad i 0 0) ?_
  exact Nat.le_trans (Nat.pow_le_pow_right (by decide) hi) (by decide)
theorem pre_last {M : HM} {bad i : Nat} : ∀ c ∈ M.pre bad i, lastD c < 16 := by
  cases i with
  | zero => intro c h; simp [HM.pre] at h; subst h; decide
  | succ i => exact stepP_last
theorem pre_step (M : HM) (bad i : Nat) : nxN M bad i (cntL (M.pre bad i)) 16 = cntL (M.pre bad (i + 1)) := by
  funext v
  exact (cntL_step M bad i v _ pre_last).symm
theorem pre_sum (M : HM) (bad i : Nat) : sumN (cntL (M.pre bad i)) 16 = (M.pre bad i).length := cntL_sum _ pre_last
/-- All that is counted is small. -/
theorem nxP_le {M : HM} {bad i u : Nat} {us : List Nat} (v : Nat) (hi : i ≤ 6) (hu : u < 16) : nxP M bad i (cntL (M.pre bad i)) u us v ≤ 16777216 ∧ cntL (M.pre bad i) u ≤ 16777216 ∧ sumN (cntL (M.pre bad i)) u ≤ 16777216 ∧ nxP M bad i (cntL (M.pre bad i)) u us v ≤ 16777216 := by
  have h1 := pre_sum M bad i
  have h2 := pre_count M bad i hi
  have h3 : sumN (cntL (M.pre bad i)) (u + 1) ≤ sumN (cntL (M.pre bad i)) 16 := sumN_mono (by omega)
  have h4 : nxN M bad i (cntL (M.pre bad i)) u v ≤ sumN (cntL (M.pre bad i)) u := sumN_le u fun u' => by split <;> omega
  rw [sumN] at h3
  have h5 : nxP M bad i (cntL (M.pre bad i)) u us v ≤ 16777216 := by
    unfold nxP
    split <;> omega
  exact ⟨h5, by omega, by omega, h5⟩
end Go.Proofs.YtihboegopigkmaaDoor
