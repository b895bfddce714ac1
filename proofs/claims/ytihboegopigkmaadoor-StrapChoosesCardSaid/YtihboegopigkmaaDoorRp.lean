/- Layer 19 (retry), plain: what is spent, by lists. No program. -/
import Derived.Test.YtihboegopigkmaaDoorGf
namespace Go.Proofs.YtihboegopigkmaaDoor
set_option linter.unusedSimpArgs false
set_option linter.unusedVariables false
set_option linter.unnecessarySimpa false

abbrev i64 (x : Int) : SV := .int .i64 x
abbrev u8 (x : Int) : SV := .int .u8 x
/-- Six numbers, by the role. -/
structure Six where
  (x0 x1 x2 x3 x4 x5 : Int)
def Six.get (l : Six) (r : Int) : Int := if r = 0 then l.x0 else if r = 1 then l.x1 else if r = 2 then l.x2 else if r = 3 then l.x3 else if r = 4 then l.x4 else if r = 5 then l.x5 else 0
def Six.sv (l : Six) : SV := .agg [u8 l.x0, u8 l.x1, u8 l.x2, u8 l.x3, u8 l.x4, u8 l.x5]
def Six.ok (l : Six) : Prop := (0 ≤ l.x0 ∧ l.x0 ≤ 255) ∧ (0 ≤ l.x1 ∧ l.x1 ≤ 255) ∧ (0 ≤ l.x2 ∧ l.x2 ≤ 255) ∧ (0 ≤ l.x3 ∧ l.x3 ≤ 255) ∧ (0 ≤ l.x4 ∧ l.x4 ≤ 255) ∧ (0 ≤ l.x5 ∧ l.x5 ≤ 255)
/-- A context: the sets, the retries, the chain, the mode, the resets, whether it is exhausted, what is inhibited. -/
structure Ctx where
  (a b : Int)
  r : Six
  (c0 c1 c2 c3 c4 c5 m z : Int)
  x : Bool
  h : Int
def Ctx.sv (c : Ctx) : SV := .agg [.int .u16 c.a, .int .u16 c.b, u8 c.r.x0, u8 c.r.x1, u8 c.r.x2, u8 c.r.x3, u8 c.r.x4, u8 c.r.x5, .int .i8 c.c0, .int .i8 c.c1, .int .i8 c.c2, .int .i8 c.c3, .int .i8 c.c4, .int .i8 c.c5, u8 c.m, .int .u16 c.z, .boo c.x, u8 c.h]
def inc1 (r i x : Int) : Int := if r = i then x + 1 else x
def Six.inc (l : Six) (r : Int) : Six := ⟨inc1 r 0 l.x0, inc1 r 1 l.x1, inc1 r 2 l.x2, inc1 r 3 l.x3, inc1 r 4 l.x4, inc1 r 5 l.x5⟩
def Ctx.inc (c : Ctx) (r : Int) : Ctx := { c with r := c.r.inc r }
def outside (r : Int) : Bool := decide (r < 0 ∨ 6 ≤ r)
def again (l : Six) (c : Ctx) (r : Int) : Option Ctx := if outside r = false ∧ c.r.get r < l.get r then some (c.inc r) else none
def spend (l : Six) : Ctx → List Int → Option Ctx
  | c, [] => some c
  | c, r :: rs => (again l c r).bind fun d => spend l d rs
theorem spend_append (l : Six) (c : Ctx) (xs ys : List Int) : spend l c (xs ++ ys) = (spend l c xs).bind fun d => spend l d ys := by
  induction xs generalizing c with
  | nil => rfl
  | cons x xs ih =>
    simp only [List.cons_append, spend]
    cases again l c x with
    | none => rfl
    | some d => simpa using ih d
theorem take_snoc (xs : List Int) (j : Nat) (h : j < xs.length) : xs.take (j + 1) = xs.take j ++ [xs.getD j 0] := by
  rw [List.take_add_one]; simp [h]
theorem spend_snoc {l : Six} {c d : Ctx} {xs : List Int} {j : Nat} (h : j < xs.length) (hd : spend l c (xs.take j) = some d) : spend l c (xs.take (j + 1)) = again l d (xs.getD j 0) := by
  rw [take_snoc xs j h, spend_append, hd]
  simp [spend]
theorem spend_none {l : Six} {c : Ctx} {xs : List Int} {j : Nat} (hd : spend l c (xs.take j) = none) : spend l c xs = none := by
  have := spend_append l c (xs.take j) (xs.drop j)
  rw [List.take_append_drop, hd] at this
  simpa using this
theorem again_out {l : Six} {c : Ctx} {r : Int} (h : outside r = true) : again l c r = none := by simp [again, h]
theorem spend_out {l : Six} {c : Ctx} {xs : List Int} (h : xs.any outside = true) : spend l c xs = none := by
  induction xs generalizing c with
  | nil => simp at h
  | cons x xs ih =>
    simp only [List.any_cons, Bool.or_eq_true] at h
    simp only [spend]
    rcases h with h | h
    · rw [again_out h]; rfl
    · cases again l c x with
      | none => rfl
      | some d => exact ih h
theorem Six.inc_ok {l c : Six} {r : Int} (hc : c.ok) (hl : l.ok) (h : outside r = false) (hlt : c.get r < l.get r) : (c.inc r).ok := by
  have hr : r = 0 ∨ r = 1 ∨ r = 2 ∨ r = 3 ∨ r = 4 ∨ r = 5 := by simp [outside] at h; omega
  unfold Six.ok at hc hl ⊢
  rcases hr with rfl | rfl | rfl | rfl | rfl | rfl <;> simp [Six.inc, inc1, Six.get] at hlt ⊢ <;> omega
theorem again_ok {l : Six} {c d : Ctx} {r : Int} (hc : c.r.ok) (hl : l.ok) (h : again l c r = some d) : d.r.ok := by
  unfold again at h
  split at h
  · rename_i h1
    injection h with h
    subst h
    exact Six.inc_ok hc hl h1.1 h1.2
  · cases h
theorem spend_ok {l : Six} {c d : Ctx} {xs : List Int} (hc : c.r.ok) (hl : l.ok) (h : spend l c xs = some d) : d.r.ok := by
  induction xs generalizing c with
  | nil => simp [spend] at h; subst h; exact hc
  | cons x xs ih =>
    simp only [spend] at h
    cases he : again l c x with
    | none => rw [he] at h; cases h
    | some e => rw [he] at h; exact ih (again_ok hc hl he) h
/-- Spent: the context, and whether it was. -/
def spent (l : Six) (c : Ctx) (xs : List Int) : Ctx := (spend l c xs).getD c
def spok (l : Six) (c : Ctx) (xs : List Int) : Bool := (spend l c xs).isSome
theorem spent_some {l : Six} {c d : Ctx} {xs : List Int} (h : spend l c xs = some d) : spent l c xs = d ∧ spok l c xs = true := by simp [spent, spok, h]
theorem spent_no {l : Six} {c : Ctx} {xs : List Int} (h : spend l c xs = none) : spent l c xs = c ∧ spok l c xs = false := by simp [spent, spok, h]
/-- How often a role stands in a list. -/
def cnt (r : Int) : List Int → Int
  | [] => 0
  | x :: xs => (if x = r then 1 else 0) + cnt r xs
theorem cnt_nn (r : Int) (xs : List Int) : 0 ≤ cnt r xs := by
  induction xs with
  | nil => simp [cnt]
  | cons x xs ih => simp only [cnt]; split <;> omega
theorem cnt_snoc (r : Int) (xs : List Int) (y : Int) : cnt r (xs ++ [y]) = cnt r xs + if y = r then 1 else 0 := by
  induction xs with
  | nil => simp [cnt]
  | cons x xs ih => simp only [cnt, List.cons_append, ih]; omega
theorem cnt_le (r : Int) (xs : List Int) : cnt r xs ≤ xs.length := by
  induction xs with
  | nil => simp [cnt]
  | cons x xs ih => simp only [cnt, List.length_cons]; split <;> omega
def Six.adds (l : Six) (xs : List Int) : Six := ⟨l.x0 + cnt 0 xs, l.x1 + cnt 1 xs, l.x2 + cnt 2 xs, l.x3 + cnt 3 xs, l.x4 + cnt 4 xs, l.x5 + cnt 5 xs⟩
def fit1 (l c n : Int) : Prop := n = 0 ∨ c + n ≤ l
def fits (l c : Six) (xs : List Int) : Prop := fit1 l.x0 c.x0 (cnt 0 xs) ∧ fit1 l.x1 c.x1 (cnt 1 xs) ∧ fit1 l.x2 c.x2 (cnt 2 xs) ∧ fit1 l.x3 c.x3 (cnt 3 xs) ∧ fit1 l.x4 c.x4 (cnt 4 xs) ∧ fit1 l.x5 c.x5 (cnt 5 xs)
theorem spend_iff (l : Six) (c : Ctx) (xs : List Int) : spend l c xs = some { c with r := c.r.adds xs } ∧ xs.any outside = false ∧ fits l c.r xs ∨ spend l c xs = none ∧ ¬ (xs.any outside = false ∧ fits l c.r xs) := by
  induction xs generalizing c with
  | nil => left; simp [spend, fits, fit1, cnt, Six.adds]
  | cons x xs ih =>
    simp only [spend, again]
    by_cases ho : outside x = true
    · right; simp [ho]
    · have ho : outside x = false := by simpa using ho
      have hr : x = 0 ∨ x = 1 ∨ x = 2 ∨ x = 3 ∨ x = 4 ∨ x = 5 := by simp [outside] at ho; omega
      by_cases hlt : c.r.get x < l.get x
      · rw [if_pos ⟨ho, hlt⟩]
        simp only [Option.bind_some]
        have n0 := cnt_nn 0 xs
        have n1 := cnt_nn 1 xs
        have n2 := cnt_nn 2 xs
        have n3 := cnt_nn 3 xs
        have n4 := cnt_nn 4 xs
        have n5 := cnt_nn 5 xs
        have hf : fits l (c.inc x).r xs ↔ fits l c.r (x :: xs) := by
          rcases hr with rfl | rfl | rfl | rfl | rfl | rfl <;> simp [fits, fit1, cnt, Ctx.inc, Six.inc, inc1, Six.get] at hlt ⊢ <;> omega
        rcases ih (c.inc x) with ⟨h1, h2, h3⟩ | ⟨h1, h2⟩
        · left
          refine ⟨?_, by simp [ho, h2], hf.1 h3⟩
          rw [h1]
          rcases hr with rfl | rfl | rfl | rfl | rfl | rfl <;> simp [Ctx.inc, Six.inc, inc1, Six.adds, cnt] <;> omega
        · right
          refine ⟨h1, fun hh => h2 ⟨?_, hf.2 hh.2⟩⟩
          simpa [ho] using hh.1
      · rw [if_neg (fun h => hlt h.2)]
        right
        refine ⟨rfl, fun hh => ?_⟩
        have n0 := cnt_nn 0 xs
        have n1 := cnt_nn 1 xs
        have n2 := cnt_nn 2 xs
        have n3 := cnt_nn 3 xs
        have n4 := cnt_nn 4 xs
        have n5 := cnt_nn 5 xs
        have := hh.2
        rcases hr with rfl | rfl | rfl | rfl | rfl | rfl <;> simp [fits, fit1, cnt, Six.get] at hlt this <;> omega
end Go.Proofs.YtihboegopigkmaaDoor
