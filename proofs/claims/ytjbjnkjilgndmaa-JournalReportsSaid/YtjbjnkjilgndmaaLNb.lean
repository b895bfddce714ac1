/- Layer 10 (pus): numbers that are laid, and read again: the plain law. -/
import Derived.Test.YtjbjnkjilgndmaaLNa
namespace Go.Proofs.Ytjbjnkjilgndmaa
set_option linter.unusedSimpArgs false
set_option linter.unusedVariables false
set_option linter.unnecessarySimpa false
open Go.RowKit
def lowN (m v : Int) : Int := if m = 1 then v % 256 else if m = 2 then v % 65536 else v
def numsW (zs ls : List Int) : Nat → List Int
  | 0 => []
  | j + 1 => numsW zs ls j ++ if Sized (zs.getD j 0) then [lowN (zs.getD j 0) (ls.getD j 0)] else []
theorem layN_sz {m : Int} (v : Int) (h : Sized m) : (layN m v).length = m.toNat := by
  rcases h with rfl | rfl | rfl <;> rfl
theorem layN_no {m : Int} (v : Int) (h : ¬ Sized m) : layN m v = [] := by
  unfold layN
  rw [if_neg (fun e => h (Or.inl e)), if_neg (fun e => h (Or.inr (Or.inl e))), if_neg (fun e => h (Or.inr (Or.inr e)))]
theorem layTo_tot (zs ls : List Int) (j : Nat) : (layTo zs ls j).length = totN zs j := by
  induction j with
  | zero => rfl
  | succ j ih =>
    simp only [layTo, totN, List.length_append, ih]
    split
    · rename_i h; rw [layN_sz _ h]
    · rename_i h; rw [layN_no _ h]; rfl
theorem layTo_u8 (zs ls : List Int) (j : Nat) : AllU8 (layTo zs ls j) := by
  induction j with
  | zero => exact AllU8.nil
  | succ j ih =>
    refine AllU8.append ih ?_
    unfold layN
    split
    · exact AllU8.cons (by unfold U8; omega) AllU8.nil
    · split
      · exact AllU8.cons (by unfold U8; omega) (AllU8.cons (by unfold U8; omega) AllU8.nil)
      · split
        · exact AllU8.cons (by unfold U8; omega) (AllU8.cons (by unfold U8; omega) (AllU8.cons (by unfold U8; omega) (AllU8.cons (by unfold U8; omega) AllU8.nil)))
        · exact AllU8.nil
theorem layTo_ext (zs ls : List Int) {i j : Nat} (h : i ≤ j) : ∃ r, layTo zs ls j = layTo zs ls i ++ r := by
  induction j with
  | zero => obtain rfl : i = 0 := by omega
            exact ⟨[], rfl⟩
  | succ j ih =>
    by_cases e : i = j + 1
    · subst e; exact ⟨[], by simp⟩
    · obtain ⟨r, hr⟩ := ih (by omega)
      exact ⟨r ++ layN (zs.getD j 0) (ls.getD j 0), by simp only [layTo]; rw [hr, List.append_assoc]⟩
theorem val_layN {m v : Int} (hm : Sized m) (hv : 0 ≤ v ∧ v < 4294967296) : val (layN m v) = lowN m v := by
  rcases hm with rfl | rfl | rfl
  · show 256 * 0 + v % 256 = v % 256
    omega
  · show 256 * (256 * 0 + v / 256 % 256) + v % 256 = v % 65536
    omega
  · show 256 * (256 * (256 * (256 * 0 + v / 16777216 % 256) + v / 65536 % 256) + v / 256 % 256) + v % 256 = v
    omega
theorem nums_lay (zs ls : List Int) (n : Nat) (hok : szTo zs n) (hl : ∀ j, 0 ≤ ls.getD j 0 ∧ ls.getD j 0 < 4294967296) (j : Nat) (hj : j ≤ n) : numsTo (layTo zs ls n) zs j = numsW zs ls j := by
  induction j with
  | zero => rfl
  | succ j ih =>
    have hsz := hok j (by omega)
    simp only [numsTo, numsW]
    rw [ih (by omega), if_pos hsz]
    obtain ⟨r, hr⟩ := layTo_ext zs ls hj
    have e : layTo zs ls n = layTo zs ls j ++ (layN (zs.getD j 0) (ls.getD j 0) ++ r) := by rw [hr]; simp only [layTo]; rw [List.append_assoc]
    rw [e, ← layTo_tot zs ls j, List.drop_left', ← layN_sz (ls.getD j 0) hsz, List.take_left', val_layN hsz (hl j)]
    all_goals rfl
theorem numsW_len (zs ls : List Int) (n : Nat) (hok : szTo zs n) (j : Nat) (hj : j ≤ n) : (numsW zs ls j).length = j := by
  induction j with
  | zero => rfl
  | succ j ih => simp only [numsW]; rw [if_pos (hok j (by omega)), List.length_append, ih (by omega)]; rfl
theorem numsW_le (zs ls : List Int) (j : Nat) : (numsW zs ls j).length ≤ j := by
  induction j with
  | zero => exact Nat.le_refl _
  | succ j ih =>
    simp only [numsW, List.length_append]
    split <;> simp <;> omega
theorem numsTo_get (R zs : List Int) (n j : Nat) (hj : j < n) : (numsTo R zs n).getD j 0 = val ((R.drop (totN zs j)).take (zs.getD j 0).toNat) := by
  induction n with
  | zero => omega
  | succ n ih =>
    simp only [numsTo]
    have hl := numsTo_len R zs n
    by_cases e : j = n
    · subst e
      simp [List.getD, List.getElem?_append_right, hl]
    · have := ih (by omega)
      simpa [List.getD, List.getElem?_append_left, hl, show j < n by omega] using this
theorem layN_val {m : Int} {Q : List Int} (hm : Sized m) (hQ : Q.length = m.toNat) (hu : AllU8 Q) : layN m (val Q) = Q := by
  rcases hm with rfl | rfl | rfl
  · match Q, hQ with
    | [a], _ =>
      have h1 : 0 ≤ a ∧ a < 256 := hu a (by simp)
      show [(256 * 0 + a) % 256] = [a]
      rw [show (256 * 0 + a) % 256 = a by omega]
  · match Q, hQ with
    | [a, b], _ =>
      have h1 : 0 ≤ a ∧ a < 256 := hu a (by simp)
      have h2 : 0 ≤ b ∧ b < 256 := hu b (by simp)
      show [(256 * (256 * 0 + a) + b) / 256 % 256, (256 * (256 * 0 + a) + b) % 256] = [a, b]
      rw [show (256 * (256 * 0 + a) + b) / 256 % 256 = a by omega, show (256 * (256 * 0 + a) + b) % 256 = b by omega]
  · match Q, hQ with
    | [a, b, c, d], _ =>
      have h1 : 0 ≤ a ∧ a < 256 := hu a (by simp)
      have h2 : 0 ≤ b ∧ b < 256 := hu b (by simp)
      have h3 : 0 ≤ c ∧ c < 256 := hu c (by simp)
      have h4 : 0 ≤ d ∧ d < 256 := hu d (by simp)
      show [(256 * (256 * (256 * (256 * 0 + a) + b) + c) + d) / 16777216 % 256, (256 * (256 * (256 * (256 * 0 + a) + b) + c) + d) / 65536 % 256, (256 * (256 * (256 * (256 * 0 + a) + b) + c) + d) / 256 % 256, (256 * (256 * (256 * (256 * 0 + a) + b) + c) + d) % 256] = [a, b, c, d]
      obtain ⟨V, hV⟩ : ∃ V, 256 * (256 * (256 * (256 * 0 + a) + b) + c) + d = V := ⟨_, rfl⟩
      rw [hV, show V / 16777216 % 256 = a by omega, show V / 65536 % 256 = b by omega, show V / 256 % 256 = c by omega, show V % 256 = d by omega]
theorem lay_nums (R zs : List Int) (n : Nat) (hok : szTo zs n) (hu : AllU8 R) (ht : totN zs n = R.length) (j : Nat) (hj : j ≤ n) : layTo zs (numsTo R zs n) j = R.take (totN zs j) := by
  induction j with
  | zero => rfl
  | succ j ih =>
    have hsz := hok j (by omega)
    have h1 := totN_mono zs hj
    have e2 : totN zs (j + 1) = totN zs j + (zs.getD j 0).toNat := by show totN zs j + _ = _; rw [if_pos hsz]
    simp only [layTo]
    rw [ih (by omega), numsTo_get R zs n j (by omega), layN_val hsz (by rw [List.length_take, List.length_drop]; omega) ((hu.drop _).take _), e2, List.take_add]
theorem numsTo_rng (R zs : List Int) (n : Nat) (hok : szTo zs n) (hu : AllU8 R) (j : Nat) (hj : j ≤ n) : ∀ z ∈ numsTo R zs j, inR .u32 z := by
  induction j with
  | zero => intro z hz; simp [numsTo] at hz
  | succ j ih =>
    intro z hz
    simp only [numsTo, List.mem_append, List.mem_singleton] at hz
    rcases hz with hz | rfl
    · exact ih (by omega) z hz
    · have hsz := hok j (by omega)
      have hu2 : AllU8 ((R.drop (totN zs j)).take (zs.getD j 0).toNat) := (hu.drop _).take _
      have hb := val_bd hu2 _ (Nat.le_refl _)
      rw [List.take_length] at hb
      have hl : ((R.drop (totN zs j)).take (zs.getD j 0).toNat).length ≤ 4 := by
        rw [List.length_take]
        rcases hsz with h | h | h <;> rw [h] <;> omega
      have hp : (256 : Int) ^ ((R.drop (totN zs j)).take (zs.getD j 0).toNat).length ≤ 4294967296 := by
        generalize ((R.drop (totN zs j)).take (zs.getD j 0).toNat).length = q at hl
        rcases (show q = 0 ∨ q = 1 ∨ q = 2 ∨ q = 3 ∨ q = 4 by omega) with rfl | rfl | rfl | rfl | rfl <;> decide
      dsimp only [inR]
      omega
end Go.Proofs.Ytjbjnkjilgndmaa
