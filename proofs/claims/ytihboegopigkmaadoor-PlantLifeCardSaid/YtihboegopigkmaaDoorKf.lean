/- Plants: rules that are too many; units that aren't there; values are values. -/
import Derived.Test.YtihboegopigkmaaDoorKe
import Derived.Test.YtihboegopigkmaaDoorFl
namespace Go.Proofs.YtihboegopigkmaaDoor
set_option linter.unusedSimpArgs false
set_option linter.unusedVariables false
set_option linter.unnecessarySimpa false
set_option maxRecDepth 100000
set_option maxHeartbeats 4000000
open Go.RowKit

theorem evN_zero {f : Nat → Bool} (h : ∀ j, f j = false) : ∀ n, evN f n = 0
  | 0 => rfl
  | n + 1 => by rw [evN_f (by rw [h]; exact Bool.false_ne_true), evN_zero h n]
theorem rl0_ok : (⟨0, 0⟩ : Rl).ok := ⟨⟨by decide, by decide⟩, ⟨by decide, by decide⟩⟩
theorem plZ_ok : plZ.ok := ⟨fun _ => un0_ok, fun _ => rl0_ok, by decide, by decide⟩
theorem ordN_none {on : Bool} {p : Pl} (h : p.n = 0) (l : List Int) : ordN on p l = (p, []) := by
  unfold ordN
  induction l with
  | nil => rfl
  | cons i l ih =>
    rw [List.foldl_cons]
    have : ordF on (p, []) i = (p, []) := by
      unfold ordF
      rw [if_neg (by dsimp only; omega)]
    rw [this]; exact ih
end Go.Proofs.YtihboegopigkmaaDoor
