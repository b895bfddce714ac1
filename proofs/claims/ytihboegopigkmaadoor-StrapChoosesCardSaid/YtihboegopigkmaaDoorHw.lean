/- Strap: the two ways agree. No program. -/
import Derived.Test.YtihboegopigkmaaDoorHf
namespace Go.Proofs.YtihboegopigkmaaDoor
set_option linter.unusedSimpArgs false
set_option linter.unusedVariables false
set_option linter.unnecessarySimpa false
set_option maxRecDepth 100000
set_option maxHeartbeats 4000000
open Go.RowKit

def dif (f g : Nat → Int) (i : Nat) : Nat := if f i = g i then 0 else 1
def far6 (f g : Nat → Int) : Nat := sumN (dif f g) 6
/-! Near -/
def farP (f : Nat → Int) (s : List Nat) : Int := (far6 (padF s) f : Nat)
def bestF : Option (Int × List Nat) → Nat → Int
  | none => fun _ => -1
  | some a => padF a.2
theorem minF_take {α : Type} (f : α → Int) {l : List α} {j : Nat} {x : α} (h : l[j]? = some x) : minF f (l.take (j + 1)) = comb (minF f (l.take j)) (some (f x, x)) := by
  rw [List.take_add_one, h]
  exact minF_snoc f _ x
/-! The two ways agree. -/
theorem minF_congr {α : Type} {f g : α → Int} : ∀ {l : List α}, (∀ x ∈ l, f x = g x) → minF f l = minF g l := by
  intro l
  unfold minF
  have key : ∀ (l : List α) (acc : Option (Int × α)), (∀ x ∈ l, f x = g x) → l.foldl (fun acc x => comb acc (some (f x, x))) acc = l.foldl (fun acc x => comb acc (some (g x, x))) acc := by
    intro l
    induction l with
    | nil => intro acc _; rfl
    | cons x l ih =>
      intro acc h
      rw [List.foldl_cons, List.foldl_cons, h x (List.mem_cons_self ..)]
      exact ih _ fun y hy => h y (List.mem_cons_of_mem _ hy)
  exact key l none
theorem farC_sum (f : Nat → Int) : ∀ (s : List Nat) (i : Nat), farC f i s = (sumN (fun j => if f (i + j) = ((s.getD j 0 : Nat) : Int) then 0 else 1) s.length : Nat)
  | [], i => rfl
  | u :: s, i => by
    have ih := farC_sum f s (i + 1)
    have key : ∀ n, sumN (fun j => if f (i + j) = (((u :: s).getD j 0 : Nat) : Int) then 0 else 1) (n + 1) = (if f i = (u : Int) then 0 else 1) + sumN (fun j => if f (i + 1 + j) = ((s.getD j 0 : Nat) : Int) then 0 else 1) n := by
      intro n
      induction n with
      | zero => simp [sumN]
      | succ n ih => rw [sumN, ih, sumN]; simp only [List.getD_cons_succ, show i + (n + 1) = i + 1 + n by omega]; omega
    show ownC f i u + farC f (i + 1) s = _
    rw [ih, List.length_cons, key]
    unfold ownC
    split <;> omega
/-- What differs behind the roles. -/
def tailC (f : Nat → Int) (n : Nat) : Nat := sumN (fun j => if j < n then 0 else if f j = -1 then 0 else 1) 6
theorem sumN_split {f g : Nat → Nat} : ∀ (n m : Nat), n ≤ m → sumN (fun j => if j < n then f j else g j) m = sumN f n + sumN (fun j => if j < n then 0 else g j) m
  | n, 0, h => by
    obtain rfl : n = 0 := by omega
    rfl
  | n, m + 1, h => by
    by_cases e : n = m + 1
    · subst e
      rw [sumN_congr (g := f) (m + 1) (fun u hu => if_pos hu), sumN_congr (f := fun j => if j < m + 1 then 0 else g j) (g := fun _ => 0) (m + 1) (fun u hu => if_pos hu), sumN_zero]
      omega
    · have ih := sumN_split (f := f) (g := g) n m (by omega)
      rw [sumN, ih, sumN]
      rw [if_neg (by omega), if_neg (by omega)]
      omega
theorem farP_far (f : Nat → Int) {s : List Nat} {n : Nat} (hs : s.length = n) (hn : n ≤ 6) : farP f s = (tailC f n : Nat) + farC f 0 s := by
  rw [farC_sum]
  unfold farP far6 tailC
  have e : sumN (dif (padF s) f) 6 = sumN (fun j => if j < n then (if f (0 + j) = ((s.getD j 0 : Nat) : Int) then 0 else 1) else if f j = -1 then 0 else 1) 6 := by
    refine sumN_congr 6 fun j _ => ?_
    unfold dif padF
    rw [hs, Nat.zero_add]
    by_cases h : j < n
    · rw [if_pos h, if_pos h]
      by_cases h2 : f j = ((s.getD j 0 : Nat) : Int)
      · rw [if_pos h2.symm, if_pos h2]
      · rw [if_neg (fun e => h2 e.symm), if_neg h2]
    · rw [if_neg h, if_neg h]
      by_cases h2 : f j = -1
      · rw [if_pos h2.symm, if_pos h2]
      · rw [if_neg (fun e => h2 e.symm), if_neg h2]
  rw [e, sumN_split n 6 hn, hs]
  omega
theorem near_agree (M : HM) (f : Nat → Int) (bad n : Nat) (hn : n ≤ 6) : (minF (farP f) (M.ext bad n 0 0)).map (·.2) = nearF M f bad n := by
  rw [minF_congr (g := fun s => (tailC f n : Nat) + farC f 0 s) (fun s hs => farP_far f (ext_len hs) hn), minF_add, Option.map_map]
  unfold nearF
  by_cases h : n = 0
  · subst h
    rw [if_pos rfl]
    rfl
  · rw [if_neg h]
    obtain ⟨k, rfl⟩ : ∃ k, n = k + 1 := ⟨n - 1, by omega⟩
    rw [minF_all, Option.map_map]
    rfl
end Go.Proofs.YtihboegopigkmaaDoor
