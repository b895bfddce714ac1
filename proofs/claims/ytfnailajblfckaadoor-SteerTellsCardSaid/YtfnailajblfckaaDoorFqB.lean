/- The contracts of fixq.Add and fixq.Sum, which range over a slice. -/
import Derived.Test.YtfnailajblfckaaDoorFqA
namespace Go.Proofs.YtfnailajblfckaaDoor
set_option linter.unusedSimpArgs false
set_option linter.unusedVariables false
set_option linter.unnecessarySimpa false
set_option linter.unusedSectionVars false
open Go.RowKit

theorem add_any (A : Option Addr) (n cap : Nat) (zs : List Int) (w : World) (hr : IRow .i32 w A n zs) (hn : n ≤ 1000000) (hz : ∀ z ∈ zs, -2147483648 ≤ z ∧ z ≤ 2147483647) :
    Calls Tryd.prog 41 #[.slice A n cap] w fun e w' => e = .returned (.int .i32 (sat zs.sum)) ∧ w = w' := by
  obtain ⟨hl, hc⟩ := hr
  have Hc := Lib.hid hc
  have Hl := Lib.hid hl
  have Hz := Lib.hid hz
  clear hc hl hz
  go_enter Tryd.func41, Tryd.ntmps41
  go_wp2
  go_loop [3, 8] (fun s i => ∃ k : Nat, k ≤ n ∧ i = .int .i64 k ∧ s = .int .i64 (zs.take k).sum) (fun _ i => n - (intOf i).toNat)
  case atStart => exact ⟨0, Nat.zero_le _, rfl, rfl⟩
  case round =>
    obtain ⟨k, hk, rfl, rfl⟩ := hrel
    by_cases hlt : k < n
    · obtain ⟨b, off, rfl, hc⟩ := Hc.out (by omega)
      have hck := hc k hlt
      have hs := sum_take_succ zs k
      have hb := sum_take_bd zs Hz.out k
      have hb' := sum_take_bd zs Hz.out (k + 1)
      rw [hs] at hb'
      have hg : -2147483648 ≤ zs.getD k 0 ∧ zs.getD k 0 ≤ 2147483647 := by
        have hl := Hl.out
        have h : k < zs.length := by omega
        have := Hz.out zs[k] (List.getElem_mem h)
        simpa [List.getD, h] using this
      have Hs := Lib.hid hs
      clear hs hc
      generalize zs.getD k 0 = z at *
      generalize (zs.take k).sum = s at *
      go_wp2
      go_round
      case rel => exact ⟨k + 1, by omega, by go_num, by rw [Hs.out]⟩
      case measure => simp only [intOf]; omega
    · have hkn : k = n := by omega
      have Hk := Lib.hid hkn
      clear hkn
      go_wp2_with (go_at_call 27; refine (sat_any _ _).mono ?_; rintro e w' ⟨rfl, rfl⟩)
      go_ret
      exact ⟨ret_int (by rw [List.take_of_length_le (by rw [Hl.out, Hk.out]; exact Nat.le_refl _)]), rfl⟩

/-- Within 64 bits at each step. -/
def sadd (n a : Int) : Int := if 9223372036854775807 < n + a then 9223372036854775807 else if n + a < -9223372036854775808 then -9223372036854775808 else n + a
theorem sadd_bd (n a : Int) : -9223372036854775808 ≤ sadd n a ∧ sadd n a ≤ 9223372036854775807 := by grind [sadd]
def ssum (zs : List Int) : Int := zs.foldl sadd 0
theorem ssum_take_succ (zs : List Int) (k : Nat) (h : k < zs.length) : ssum (zs.take (k + 1)) = sadd (ssum (zs.take k)) (zs.getD k 0) := by
  unfold ssum
  rw [List.take_add_one, List.foldl_append]
  simp [h]
theorem ssum_bd (zs : List Int) : -9223372036854775808 ≤ ssum zs ∧ ssum zs ≤ 9223372036854775807 := by
  rcases List.eq_nil_or_concat zs with rfl | ⟨l, a, rfl⟩
  · simp [ssum]
  · have : ssum (l ++ [a]) = sadd (ssum l) a := by simp [ssum]
    rw [List.concat_eq_append, this]; exact sadd_bd _ _

theorem wrap_over (n a : Int) (h1 : n ≤ 9223372036854775807) (h2 : a ≤ 9223372036854775807) (h : 9223372036854775807 < n + a) : wrap64 (n + a) < n := by unfold wrap64; omega
theorem wrap_under (n a : Int) (h1 : -9223372036854775808 ≤ n) (h2 : -9223372036854775808 ≤ a) (h : n + a < -9223372036854775808) : n < wrap64 (n + a) := by unfold wrap64; omega

theorem sum_any (A : Option Addr) (n cap : Nat) (zs : List Int) (w : World) (hr : IRow .i64 w A n zs) (hn : n ≤ 1000000) (hz : ∀ z ∈ zs, -9223372036854775808 ≤ z ∧ z ≤ 9223372036854775807) :
    Calls Tryd.prog 40 #[.slice A n cap] w fun e w' => e = .returned (.int .i64 (ssum zs)) ∧ w = w' := by
  obtain ⟨hl, hc⟩ := hr
  have Hc := Lib.hid hc
  have Hl := Lib.hid hl
  have Hz := Lib.hid hz
  clear hc hl hz
  go_enter Tryd.func40, Tryd.ntmps40
  go_wp2
  go_loop [3, 9] (fun s i => ∃ k : Nat, k ≤ n ∧ i = .int .i64 k ∧ s = .int .i64 (ssum (zs.take k))) (fun _ i => n - (intOf i).toNat)
  case atStart => exact ⟨0, Nat.zero_le _, rfl, rfl⟩
  case round =>
    obtain ⟨k, hk, rfl, rfl⟩ := hrel
    by_cases hlt : k < n
    · obtain ⟨b, off, rfl, hc⟩ := Hc.out (by omega)
      have hck := hc k hlt
      have h : k < zs.length := by have hl := Hl.out; omega
      have hs := ssum_take_succ zs k h
      have hb := ssum_bd (zs.take k)
      have hg : -9223372036854775808 ≤ zs.getD k 0 ∧ zs.getD k 0 ≤ 9223372036854775807 := by
        have := Hz.out zs[k] (List.getElem_mem h)
        simpa [List.getD, h] using this
      have Hs := Lib.hid hs
      clear hs hc
      generalize zs.getD k 0 = z at *
      generalize ssum (zs.take k) = s at *
      by_cases c1 : 9223372036854775807 < s + z
      · have hw := wrap_over s z hb.2 hg.2 c1
        have hz : 0 < z := by omega
        go_wp2
        go_round
        case rel => exact ⟨k + 1, by omega, by go_num, by rw [Hs.out, sadd, if_pos c1]⟩
        case measure => simp only [intOf]; omega
      · by_cases c2 : s + z < -9223372036854775808
        · have hw := wrap_under s z hb.1 hg.1 c2
          have hz : z < 0 := by omega
          have hz : ¬ 0 < z := by omega
          go_wp2
          go_round
          case rel => exact ⟨k + 1, by omega, by go_num, by rw [Hs.out, sadd, if_neg c1, if_pos c2]⟩
          case measure => simp only [intOf]; omega
        · have E : sadd s z = s + z := by rw [sadd, if_neg c1, if_neg c2]
          have HE := Lib.hid E
          clear E
          go_wp2
          all_goals
            go_round
            case rel => exact ⟨k + 1, by omega, by go_num, by rw [Hs.out, HE.out]⟩
            case measure => simp only [intOf]; omega
    · have hkn : k = n := by omega
      have Hk := Lib.hid hkn
      clear hkn
      go_wp2
      go_ret
      exact ⟨ret_int (by rw [List.take_of_length_le (by rw [Hl.out, Hk.out]; exact Nat.le_refl _)]), rfl⟩
end Go.Proofs.YtfnailajblfckaaDoor
