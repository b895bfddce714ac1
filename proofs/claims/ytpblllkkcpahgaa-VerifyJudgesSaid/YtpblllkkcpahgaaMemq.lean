/- Words for memory: a slice of integers that reads as a list; appending to one of the call's own. -/
import Derived.Test.YtpblllkkcpahgaaProg
import Derived.WalkKit
import Derived.WalkSpells
import Derived.WalkLawsBesides
import Derived.Lib.Hide
import Derived.Deep.Draws
import Derived.Laws.AppendOwnNone
namespace Go.Proofs.Ytpblllkkcpahgaa
set_option linter.unusedSimpArgs false
set_option linter.unusedVariables false
set_option linter.unnecessarySimpa false
set_option linter.unusedSectionVars false
open Go.RowKit

/-- A slice of integers that reads as a list. -/
def IRow (k : IntKind) (w : World) (A : Option Addr) (n : Nat) (zs : List Int) : Prop :=
  zs.length = n ∧ (0 < n → ∃ b off, A = some ⟨b, off, none⟩ ∧ ∀ j, j < n → w.cell? ⟨b, off + j, none⟩ = some (.int k (zs.getD j 0)))

section
variable {k : IntKind} {w w' : World} {A : Option Addr} {n : Nat} {zs : List Int}

theorem IRow.nil (k : IntKind) (w : World) (A : Option Addr) : IRow k w A 0 [] := ⟨rfl, fun h => absurd h (by omega)⟩

theorem IRow.keep (h : IRow k w A n zs) (hk : ∀ p : Addr, (w.cell? p).isSome = true → w'.cell? p = w.cell? p) : IRow k w' A n zs :=
  ⟨h.1, fun hn => by
    obtain ⟨b, off, e, hc⟩ := h.2 hn
    exact ⟨b, off, e, fun j hj => (hk _ (by rw [hc j hj]; rfl)).trans (hc j hj)⟩⟩

theorem IRow.below (h : IRow k w A n zs) (hb : Below w.heap.size w w') : IRow k w' A n zs :=
  h.keep fun p hp => by
    obtain ⟨v, hv⟩ := Option.isSome_iff_exists.1 hp
    exact hb.cell (World.block_lt_of_cell? w p hv)

theorem IRow.alloc (h : IRow k w A n zs) (o : Obj) : IRow k (w.alloc o) A n zs := h.below ((Below.refl _ _).alloc (Nat.le_refl _) o)
theorem IRow.drew (h : IRow k w A n zs) : IRow k w.drew A n zs := h
theorem IRow.take (h : IRow k w A n zs) {m : Nat} (hm : m ≤ n) : IRow k w A m (zs.take m) :=
  ⟨by rw [List.length_take, h.1]; omega, fun hp => by
    obtain ⟨b, off, e, hc⟩ := h.2 (by omega)
    exact ⟨b, off, e, fun j hj => by rw [hc j (by omega)]; simp [List.getD, List.getElem?_take, hj]⟩⟩

theorem irow_blk {k : IntKind} {w : World} {B : Nat} {t : TypeId} {zs : List Int} (h : w.heap[B]? = some (.cells (zs.map (Value.int k)).toArray t (0, 0))) : IRow k w (some ⟨B, 0, none⟩) zs.length zs := by
  refine ⟨rfl, fun _ => ⟨_, _, rfl, fun j hj => ?_⟩⟩
  rw [Nat.zero_add, cell_of_row _ _ _ _ _ _ h]
  simp [List.getD, hj]

theorem IRow.of_own {base : Nat} {e : TypeId} {cap : Nat} (h : w.ownsRow base e 1 (.slice A n cap) n (zs.map (Value.int k))) : IRow k w A n zs := by
  obtain ⟨hl, h2⟩ := h
  have hl' : zs.length = n := by simpa using hl
  refine ⟨hl', fun hp => ?_⟩
  rcases h2 with ⟨_, h0⟩ | ⟨g, cap', cur, hv, _, hh, hnc, _, hs, ht⟩
  · omega
  · injection hv with hA _ _
    refine ⟨g, 0, hA, fun j hj => ?_⟩
    rw [Nat.zero_add, cell_of_row _ _ _ _ _ _ hh]
    have h3 : (cur.toList.take (n * 1))[j]? = (zs.map (Value.int k))[j]? := by rw [ht]
    rw [List.getElem?_take, if_pos (by omega)] at h3
    rw [← Array.getElem?_toList, h3]
    simp [List.getD, List.getElem?_eq_getElem (show j < zs.length by omega)]
end

end Go.Proofs.Ytpblllkkcpahgaa
