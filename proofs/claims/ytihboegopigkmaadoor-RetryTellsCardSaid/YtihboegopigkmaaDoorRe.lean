/- Layer 19 (retry): however often it is tried, no role is switched over more often than its limit. -/
import Derived.Test.YtihboegopigkmaaDoorRd
import Derived.Test.YtihboegopigkmaaDoorDp
namespace Go.Proofs.YtihboegopigkmaaDoor
set_option linter.unusedSimpArgs false
set_option linter.unusedVariables false
set_option linter.unnecessarySimpa false
set_option maxRecDepth 100000
open Go.RowKit

/-- A context as the default, but for the retries. -/
def cx (s : Six) : Ctx := { dctx with r := s }
def Six.le (s l : Six) : Prop := s.x0 ≤ l.x0 ∧ s.x1 ≤ l.x1 ∧ s.x2 ≤ l.x2 ∧ s.x3 ≤ l.x3 ∧ s.x4 ≤ l.x4 ∧ s.x5 ≤ l.x5
def zeroS : Six := ⟨0, 0, 0, 0, 0, 0⟩
theorem sum_adds {s : Six} {ys : List Int} (h : ys.any outside = false) : (s.adds ys).sum = s.sum + ys.length := by
  have key : ∀ ys : List Int, ys.any outside = false → cnt 0 ys + cnt 1 ys + cnt 2 ys + cnt 3 ys + cnt 4 ys + cnt 5 ys = ys.length := by
    intro ys
    induction ys with
    | nil => intro _; rfl
    | cons y ys ih =>
      intro h
      simp only [List.any_cons, Bool.or_eq_false_iff] at h
      have hr : y = 0 ∨ y = 1 ∨ y = 2 ∨ y = 3 ∨ y = 4 ∨ y = 5 := by have := h.1; simp [outside] at this; omega
      have := ih h.2
      simp only [cnt, List.length_cons]
      rcases hr with rfl | rfl | rfl | rfl | rfl | rfl <;> simp <;> omega
  have := key ys h
  unfold Six.sum Six.adds
  dsimp only
  omega
theorem adds_le {s l : Six} {ys : List Int} (h : fits l s ys) (hs : s.le l) : (s.adds ys).le l := by
  unfold fits fit1 at h
  unfold Six.le Six.adds at *
  dsimp only
  have n0 := cnt_nn 0 ys
  omega
theorem clrs_le {s l : Six} (hl : l.ok) (hs : s.le l) (ys : List Int) : (clrs s ys).le l := by
  induction ys generalizing s with
  | nil => exact hs
  | cons y ys ih =>
    refine ih ?_
    unfold Six.ok at hl
    unfold Six.le Six.clr clr1 at *
    dsimp only
    refine ⟨?_, ?_, ?_, ?_, ?_, ?_⟩ <;> split <;> omega
theorem clrs_ok {s : Six} (hs : s.ok) (ys : List Int) : (clrs s ys).ok := by
  induction ys generalizing s with
  | nil => exact hs
  | cons y ys ih =>
    refine ih ?_
    unfold Six.ok at hs
    unfold Six.ok Six.clr clr1
    dsimp only
    refine ⟨?_, ?_, ?_, ?_, ?_, ?_⟩ <;> split <;> omega
theorem clrs_all (s : Six) : clrs s [0, 1, 2, 3, 4, 5] = zeroS := by simp [clrs, Six.clr, clr1, zeroS]
theorem le_sum {s l : Six} (h : s.le l) : s.sum ≤ l.sum := by unfold Six.le at h; unfold Six.sum; omega
theorem left_le {s l : Six} (h : s.le l) : leftN l s = l.sum - s.sum := by unfold Six.le at h; unfold leftN left1 Six.sum; omega
/-- A part that is named is none behind it. -/
theorem clrs_keep (g : Six → Int) (hg : ∀ s x, g s = 0 → g (s.clr x) = 0) {s : Six} (ys : List Int) (h : g s = 0) : g (clrs s ys) = 0 := by
  induction ys generalizing s with
  | nil => exact h
  | cons y ys ih => exact ih (hg s y h)
theorem clrs_mem (g : Six → Int) (r : Int) (hg : ∀ s x, g s = 0 → g (s.clr x) = 0) (hr : ∀ s : Six, g (s.clr r) = 0) {s : Six} {ys : List Int} (h : r ∈ ys) : g (clrs s ys) = 0 := by
  induction ys generalizing s with
  | nil => cases h
  | cons y ys ih =>
    rcases List.mem_cons.1 h with rfl | h
    · exact clrs_keep g hg ys (hr s)
    · exact ih h
theorem clr1_z (x i v : Int) (h : v = 0) : clr1 x i v = 0 := by unfold clr1; split <;> simp [h]
theorem clr1_s (i v : Int) : clr1 i i v = 0 := by simp [clr1]
theorem cleared (s : Six) (ys : List Int) : (0 ∈ ys → (clrs s ys).x0 = 0) ∧ (1 ∈ ys → (clrs s ys).x1 = 0) ∧ (2 ∈ ys → (clrs s ys).x2 = 0) ∧ (3 ∈ ys → (clrs s ys).x3 = 0) ∧ (4 ∈ ys → (clrs s ys).x4 = 0) ∧ (5 ∈ ys → (clrs s ys).x5 = 0) :=
  ⟨clrs_mem (·.x0) 0 (fun s x h => clr1_z _ _ _ h) (fun s => clr1_s 0 s.x0), clrs_mem (·.x1) 1 (fun s x h => clr1_z _ _ _ h) (fun s => clr1_s 1 s.x1), clrs_mem (·.x2) 2 (fun s x h => clr1_z _ _ _ h) (fun s => clr1_s 2 s.x2),
    clrs_mem (·.x3) 3 (fun s x h => clr1_z _ _ _ h) (fun s => clr1_s 3 s.x3), clrs_mem (·.x4) 4 (fun s x h => clr1_z _ _ _ h) (fun s => clr1_s 4 s.x4), clrs_mem (·.x5) 5 (fun s x h => clr1_z _ _ _ h) (fun s => clr1_s 5 s.x5)⟩
section
variable {P : Program} {w0 : World} {S : List Nat}
/-- A place of an old slice of one-cell elements. -/
theorem ixs_cell {A : Option Addr} {n j b o : Nat} {X : Nat → Nat → Prop} (hA : A = some ⟨b, o, none⟩) (h : j < n) (nx : X b (o + (j : Int).toNat * 1)) : LIxS A (j : Int) n 1 X := ⟨by omega, by omega, b, o, hA, nx⟩
end
/-- A slice of slices of integers, round by round. -/
def NRow (k : IntKind) (w : World) (A : Option Addr) (n : Nat) : Prop :=
  ∀ j, j < n → ∃ b o A' n' c' zs, A = some ⟨b, o, none⟩ ∧ w.cell? ⟨b, o + (j : Int).toNat * 1, none⟩ = some (SV.sl 0 A' n' c').den ∧ IRow k w A' n' zs ∧ n' ≤ c' ∧ c' ≤ maxLen ∧ (∀ z ∈ zs, inR k z)
theorem nrow_of {w : World} {k : IntKind} {v : Value} (h : okD w (.s [.s [.i k]]) v) : ∃ A n c, v = .slice A n c ∧ n ≤ c ∧ c ≤ maxLen ∧ NRow k w A n := by
  rw [okD] at h
  obtain ⟨A, n, c, rfl, h1, h2, _, h4⟩ := h
  refine ⟨A, n, c, rfl, h1, h2, fun j hj => ?_⟩
  obtain ⟨b, o, hA, hc⟩ := h4 (by omega)
  obtain ⟨cs, hcs, hok⟩ := hc j hj
  obtain ⟨A', n', c', zs, cs', rfl, hr, hle, hmx, hz, _, hnil⟩ := dk_s hok
  refine ⟨b, o, A', n', c', zs, hA, ?_, hr, hle, hmx, hz⟩
  have := hcs 0 _ rfl
  simpa [SV.den] using this
theorem ctx_eq' (c : Ctx) : cellEq c.cells c.cells := by simp [cellEq, toB, Ctx.cells]
end Go.Proofs.YtihboegopigkmaaDoor
