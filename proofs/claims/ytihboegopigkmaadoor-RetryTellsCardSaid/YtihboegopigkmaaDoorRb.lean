/- Layer 19 (retry): what is spent in one go is what is spent one by one. -/
import Derived.Test.YtihboegopigkmaaDoorRa
import Derived.Test.YtihboegopigkmaaDoorFl
namespace Go.Proofs.YtihboegopigkmaaDoor
set_option linter.unusedSimpArgs false
set_option linter.unusedVariables false
set_option linter.unnecessarySimpa false
set_option maxRecDepth 100000
open Go.RowKit

theorem six_of {cs : List Value} (h : skB [.i .u8, .i .u8, .i .u8, .i .u8, .i .u8, .i .u8] cs = true) (hw : wfC cs) : ∃ l : Six, cs = dens [u8 l.x0, u8 l.x1, u8 l.x2, u8 l.x3, u8 l.x4, u8 l.x5] ∧ l.ok := by
  obtain ⟨a0, l1, rfl, i0, h, hw⟩ := sk_i h hw
  obtain ⟨a1, l1, rfl, i1, h, hw⟩ := sk_i h hw
  obtain ⟨a2, l1, rfl, i2, h, hw⟩ := sk_i h hw
  obtain ⟨a3, l1, rfl, i3, h, hw⟩ := sk_i h hw
  obtain ⟨a4, l1, rfl, i4, h, hw⟩ := sk_i h hw
  obtain ⟨a5, l1, rfl, i5, h, hw⟩ := sk_i h hw
  obtain rfl := sk_nil h
  simp only [inR] at i0 i1 i2 i3 i4 i5
  exact ⟨⟨a0, a1, a2, a3, a4, a5⟩, rfl, by unfold Six.ok; dsimp only; omega⟩
/-- Whether a context's numbers are within their types. -/
def Ctx.ok (c : Ctx) : Prop := inR .u16 c.a ∧ inR .u16 c.b ∧ c.r.ok ∧ inR .i8 c.c0 ∧ inR .i8 c.c1 ∧ inR .i8 c.c2 ∧ inR .i8 c.c3 ∧ inR .i8 c.c4 ∧ inR .i8 c.c5 ∧ inR .u8 c.m ∧ inR .u16 c.z ∧ inR .u8 c.h
theorem ctx_of {cs : List Value} (h : skB [.i .u16, .i .u16, .i .u8, .i .u8, .i .u8, .i .u8, .i .u8, .i .u8, .i .i8, .i .i8, .i .i8, .i .i8, .i .i8, .i .i8, .i .u8, .i .u16, .b, .i .u8] cs = true) (hw : wfC cs) :
    ∃ c : Ctx, cs = dens c.cells ∧ c.ok := by
  obtain ⟨a0, l1, rfl, i0, h, hw⟩ := sk_i h hw
  obtain ⟨a1, l1, rfl, i1, h, hw⟩ := sk_i h hw
  obtain ⟨r0, l1, rfl, j0, h, hw⟩ := sk_i h hw
  obtain ⟨r1, l1, rfl, j1, h, hw⟩ := sk_i h hw
  obtain ⟨r2, l1, rfl, j2, h, hw⟩ := sk_i h hw
  obtain ⟨r3, l1, rfl, j3, h, hw⟩ := sk_i h hw
  obtain ⟨r4, l1, rfl, j4, h, hw⟩ := sk_i h hw
  obtain ⟨r5, l1, rfl, j5, h, hw⟩ := sk_i h hw
  obtain ⟨c0, l1, rfl, k0, h, hw⟩ := sk_i h hw
  obtain ⟨c1, l1, rfl, k1, h, hw⟩ := sk_i h hw
  obtain ⟨c2, l1, rfl, k2, h, hw⟩ := sk_i h hw
  obtain ⟨c3, l1, rfl, k3, h, hw⟩ := sk_i h hw
  obtain ⟨c4, l1, rfl, k4, h, hw⟩ := sk_i h hw
  obtain ⟨c5, l1, rfl, k5, h, hw⟩ := sk_i h hw
  obtain ⟨m, l1, rfl, m0, h, hw⟩ := sk_i h hw
  obtain ⟨z, l1, rfl, z0, h, hw⟩ := sk_i h hw
  obtain ⟨x, l1, rfl, h, hw⟩ := sk_b h hw
  obtain ⟨y, l1, rfl, y0, h, hw⟩ := sk_i h hw
  obtain rfl := sk_nil h
  simp only [inR] at j0 j1 j2 j3 j4 j5
  exact ⟨⟨a0, a1, ⟨r0, r1, r2, r3, r4, r5⟩, c0, c1, c2, c3, c4, c5, m, z, x, y⟩, rfl, i0, i1, by unfold Six.ok; dsimp only; omega, k0, k1, k2, k3, k4, k5, m0, z0, y0⟩
theorem spend_one (l : Six) (c : Ctx) (x : Int) : spend l c [x] = again l c x := by
  simp only [spend]
  cases again l c x <;> rfl
theorem spend_some_of {l : Six} {c : Ctx} {xs : List Int} (h : (spend l c xs).isSome = true) : spend l c xs = some (spent l c xs) := by
  unfold spent
  cases hs : spend l c xs with
  | none => rw [hs] at h; cases h
  | some e => rfl
theorem ctx_eq (c : Ctx) : cellEq c.cells c.cells := by simp [cellEq, toB, Ctx.cells]
end Go.Proofs.YtihboegopigkmaaDoor
