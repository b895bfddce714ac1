/- The walks of the laws FixqAdds, FixqSums. -/
import Derived.Test.YtklfkopfgiafcaaFqAw
import Derived.OpenShut
namespace Go.Proofs.Ytklfkopfgiafcaa
set_option linter.unusedSimpArgs false
set_option linter.unusedVariables false
set_option linter.unnecessarySimpa false
set_option linter.unusedSectionVars false
open Go.RowKit

theorem info_i32 : (Try.prog.info? 21).map (fun i => (i.zero, i.size, i.bytes)) = some (some (.int .i32 0), 1, 4) := by kernel_rfl
theorem info_i64 : (Try.prog.info? 2).map (fun i => (i.zero, i.size, i.bytes)) = some (some (.int .i64 0), 1, 8) := by kernel_rfl

theorem fixqAdds_walk (a b : Int) (A : Option Addr) (len cap : Nat) (zs : List Int) (n : Int) (w : World) (ha : -2147483648 ≤ a ∧ a ≤ 2147483647) (hb : -2147483648 ≤ b ∧ b ≤ 2147483647)
    (hr : IRow .i32 w A len zs ∧ len ≤ cap ∧ cap ≤ maxLen ∧ (∀ z ∈ zs, (Lit.int .i32 z).wf = true) ∧ (A = none → len = 0 ∧ cap = 0)) (hn : -9223372036854775808 ≤ n ∧ n ≤ 9223372036854775807) :
    Calls Try.prog 3 #[.int .i32 a, .int .i32 b, .slice A len cap, .int .i64 n] w fun e w' => e = .returned (.bool true) ∧ Below w.heap.size w w' := by
  obtain ⟨hr, hlc, hcm, hw, hnil⟩ := hr
  have Hw := Lib.hid (fun z hz => bounds_i32 (hw z hz))
  have Hnil := Lib.hid hnil
  clear hw hnil
  unfold maxLen at hcm
  have key : ∀ (m : Nat) (w1 w2 : World) (A' : Option Addr) (cap' : Nat), m ≤ 50 → m ≤ len → Below w.heap.size w w1 → w2.ownsRow w1.heap.size 21 1 (.slice A' m cap') m ((zs.take m).map (Value.int .i32)) →
      (w1.alloc (Obj.cells #[] 21)).grownBy w2 (Value.slice (some ⟨w1.heap.size, 0, none⟩) 0 0).ownBlock → IRow .i32 w2 A' m (zs.take m) ∧ Below w.heap.size w w2 := by
    intro m w1 w2 A' cap' _ hml hb1 hown hg
    exact ⟨IRow.of_own hown, below_made hb1 hg⟩
  have Hk := Lib.hid key
  clear key
  obtain ⟨m, hm, hm50, hml⟩ : ∃ m : Nat, (m = if 50 < len then 50 else len) ∧ m ≤ 50 ∧ m ≤ len := ⟨_, rfl, by split <;> omega, by split <;> omega⟩
  have Hm := Lib.hid hm
  clear hm
  have Hz : ∀ z ∈ zs.take m, -2147483648 ≤ z ∧ z ≤ 2147483647 := fun z hz => Hw.out z (List.mem_of_mem_take hz)
  have HZ := Lib.hid Hz
  clear Hz
  by_cases h50 : 50 < len
  · obtain rfl : m = 50 := by rw [Hm.out]; rw [if_pos h50]
    go_enter Try.func3, Try.ntmps3
    go_wp2_with fail
    refine (awake_any _).mono ?_
    rintro e w1 ⟨rfl, hb1⟩
    have hr1 := Lib.hid (hr.below hb1)
    go_wp2_with (at_builtin; refine wpList_append_ints _ _ .i32 22 21 4 w1.heap.size _ 0 0 [] (World.ownsRow_made w1 #[] 0 (by simp) (by unfold maxLen; omega) rfl) A 50 cap (zs.take 50) ((hr1.out.take (by omega)).alloc _) rfl rfl Try.underlying22 info_i32 (by omega) rfl rfl (fun h => (Hnil.out h).2) (by omega) (by simp) ?_)
    intro A' cap' w2 hown hg
    obtain ⟨hr2, hb2⟩ := Hk.out 50 w1 w2 A' cap' (by omega) (by omega) hb1 (by simpa using hown) hg
    clear hown hg hb1
    have Hr2 := Lib.hid hr2
    clear hr2
    generalize zs.take 50 = ys at *
    have hl50 : ys.length = 50 := Hr2.out.1
    have HL := Lib.hid hl50
    clear hl50
    go_wp2_with fail
    go_loop [9, 24] (fun s i => ∃ k : Nat, k ≤ 50 ∧ i = .int .i64 k ∧ s = .int .i64 (ys.take k).sum) (fun _ i => 50 - (intOf i).toNat)
    case atStart => exact ⟨0, Nat.zero_le _, rfl, rfl⟩
    case round =>
      obtain ⟨k, hk, rfl, rfl⟩ := hrel
      have hbd := sum_take_bd ys HZ.out k
      by_cases hlt : k < 50
      · obtain ⟨b, off, rfl, hc⟩ := Hr2.out.2 (by omega)
        have hck := hc k hlt
        have hs := sum_take_succ ys k
        have hb' := sum_take_bd ys HZ.out (k + 1)
        rw [hs] at hb'
        have hg : -2147483648 ≤ ys.getD k 0 ∧ ys.getD k 0 ≤ 2147483647 := by
          have hl := HL.out
          have h : k < ys.length := by omega
          have := HZ.out ys[k] (List.getElem_mem h)
          simpa [List.getD, h] using this
        have Hs := Lib.hid hs
        clear hs hc
        generalize ys.getD k 0 = z at *
        generalize (ys.take k).sum = s at *
        go_wp2
        go_round
        case rel => exact ⟨k + 1, by omega, by go_num, by rw [Hs.out]⟩
        case measure => simp only [intOf]; omega
      · have e50 : ys.take k = ys := List.take_of_length_le (by rw [HL.out]; omega)
        rw [e50] at hbd
        rw [e50]
        clear e50
        by_cases ha0 : a < 0
        all_goals
          go_wp2_with (first
            | (go_at_call 12; refine (sat_any _ _).mono ?_; rintro e w' ⟨rfl, rfl⟩)
            | (go_at_call 13; refine (rsat_any _ _).mono ?_; rintro e w' ⟨rfl, rfl⟩)
            | (go_at_call 14; refine (add_any _ _ _ _ _ Hr2.out (by omega) HZ.out).mono ?_; rintro e w' ⟨rfl, rfl⟩)
            | (go_at_call 15; refine (sub_any _ _ _ (by omega) (by omega)).mono ?_; rintro e w' ⟨rfl, rfl⟩)
            | (go_at_call 16; refine (neg_any _ _ (by omega)).mono ?_; rintro e w' ⟨rfl, rfl⟩)
            | (go_at_call 17; refine (abs_any _ _ (by omega)).mono ?_; rintro e w' ⟨rfl, rfl⟩))
          go_ret
          exact ⟨ret_bool (by first | (rw [absv, if_pos (by omega)]; simp; done) | (rw [absv, if_neg (by omega)]; simp; done)), by assumption⟩
  · obtain rfl : m = len := by rw [Hm.out]; rw [if_neg h50]
    go_enter Try.func3, Try.ntmps3
    go_wp2_with fail
    refine (awake_any _).mono ?_
    rintro e w1 ⟨rfl, hb1⟩
    have hr1 := Lib.hid (hr.below hb1)
    go_wp2_with (at_builtin; refine wpList_append_ints _ _ .i32 22 21 4 w1.heap.size _ 0 0 [] (World.ownsRow_made w1 #[] 0 (by simp) (by unfold maxLen; omega) rfl) A m cap (zs.take m) ((hr1.out.take (by omega)).alloc _) rfl rfl Try.underlying22 info_i32 (by omega) rfl rfl (fun h => (Hnil.out h).2) (by omega) (by simp) ?_)
    intro A' cap' w2 hown hg
    obtain ⟨hr2, hb2⟩ := Hk.out m w1 w2 A' cap' (by omega) (by omega) hb1 (by simpa using hown) hg
    clear hown hg hb1
    have Hr2 := Lib.hid hr2
    clear hr2
    generalize zs.take m = ys at *
    have hl50 : ys.length = m := Hr2.out.1
    have HL := Lib.hid hl50
    clear hl50
    go_wp2_with fail
    go_loop [9, 24] (fun s i => ∃ k : Nat, k ≤ m ∧ i = .int .i64 k ∧ s = .int .i64 (ys.take k).sum) (fun _ i => m - (intOf i).toNat)
    case atStart => exact ⟨0, Nat.zero_le _, rfl, rfl⟩
    case round =>
      obtain ⟨k, hk, rfl, rfl⟩ := hrel
      have hbd := sum_take_bd ys HZ.out k
      by_cases hlt : k < m
      · obtain ⟨b, off, rfl, hc⟩ := Hr2.out.2 (by omega)
        have hck := hc k hlt
        have hs := sum_take_succ ys k
        have hb' := sum_take_bd ys HZ.out (k + 1)
        rw [hs] at hb'
        have hg : -2147483648 ≤ ys.getD k 0 ∧ ys.getD k 0 ≤ 2147483647 := by
          have hl := HL.out
          have h : k < ys.length := by omega
          have := HZ.out ys[k] (List.getElem_mem h)
          simpa [List.getD, h] using this
        have Hs := Lib.hid hs
        clear hs hc
        generalize ys.getD k 0 = z at *
        generalize (ys.take k).sum = s at *
        go_wp2
        go_round
        case rel => exact ⟨k + 1, by omega, by go_num, by rw [Hs.out]⟩
        case measure => simp only [intOf]; omega
      · have e50 : ys.take k = ys := List.take_of_length_le (by rw [HL.out]; omega)
        rw [e50] at hbd
        rw [e50]
        clear e50
        by_cases ha0 : a < 0
        all_goals
          go_wp2_with (first
            | (go_at_call 12; refine (sat_any _ _).mono ?_; rintro e w' ⟨rfl, rfl⟩)
            | (go_at_call 13; refine (rsat_any _ _).mono ?_; rintro e w' ⟨rfl, rfl⟩)
            | (go_at_call 14; refine (add_any _ _ _ _ _ Hr2.out (by omega) HZ.out).mono ?_; rintro e w' ⟨rfl, rfl⟩)
            | (go_at_call 15; refine (sub_any _ _ _ (by omega) (by omega)).mono ?_; rintro e w' ⟨rfl, rfl⟩)
            | (go_at_call 16; refine (neg_any _ _ (by omega)).mono ?_; rintro e w' ⟨rfl, rfl⟩)
            | (go_at_call 17; refine (abs_any _ _ (by omega)).mono ?_; rintro e w' ⟨rfl, rfl⟩))
          go_ret
          exact ⟨ret_bool (by first | (rw [absv, if_pos (by omega)]; simp; done) | (rw [absv, if_neg (by omega)]; simp; done)), by assumption⟩

theorem fixqSums_walk (A : Option Addr) (len cap : Nat) (zs : List Int) (w : World)
    (hr : IRow .i64 w A len zs ∧ len ≤ cap ∧ cap ≤ maxLen ∧ (∀ z ∈ zs, (Lit.int .i64 z).wf = true) ∧ (A = none → len = 0 ∧ cap = 0)) :
    Calls Try.prog 8 #[.slice A len cap] w fun e w' => e = .returned (.bool true) ∧ Below w.heap.size w w' := by
  obtain ⟨hr, hlc, hcm, hw, hnil⟩ := hr
  have Hw := Lib.hid (fun z hz => bounds_i64 (hw z hz))
  have Hnil := Lib.hid hnil
  clear hw hnil
  unfold maxLen at hcm
  have key : ∀ (m : Nat) (w1 w2 : World) (A' : Option Addr) (cap' : Nat), m ≤ 50 → m ≤ len → Below w.heap.size w w1 → w2.ownsRow w1.heap.size 2 1 (.slice A' m cap') m ((zs.take m).map (Value.int .i64)) →
      (w1.alloc (Obj.cells #[] 2)).grownBy w2 (Value.slice (some ⟨w1.heap.size, 0, none⟩) 0 0).ownBlock → IRow .i64 w2 A' m (zs.take m) ∧ Below w.heap.size w w2 := by
    intro m w1 w2 A' cap' _ hml hb1 hown hg
    exact ⟨IRow.of_own hown, below_made hb1 hg⟩
  have Hk := Lib.hid key
  clear key
  obtain ⟨m, hm, hm50, hml⟩ : ∃ m : Nat, (m = if 50 < len then 50 else len) ∧ m ≤ 50 ∧ m ≤ len := ⟨_, rfl, by split <;> omega, by split <;> omega⟩
  have Hm := Lib.hid hm
  clear hm
  have Hz : ∀ z ∈ zs.take m, -9223372036854775808 ≤ z ∧ z ≤ 9223372036854775807 := fun z hz => Hw.out z (List.mem_of_mem_take hz)
  have HZ := Lib.hid Hz
  clear Hz
  by_cases h50 : 50 < len
  · obtain rfl : m = 50 := by rw [Hm.out]; rw [if_pos h50]
    go_enter Try.func8, Try.ntmps8
    go_wp2_with fail
    refine (awake_any _).mono ?_
    rintro e w1 ⟨rfl, hb1⟩
    have hr1 := Lib.hid (hr.below hb1)
    go_wp2_with (at_builtin; refine wpList_append_ints _ _ .i64 38 2 8 w1.heap.size _ 0 0 [] (World.ownsRow_made w1 #[] 0 (by simp) (by unfold maxLen; omega) rfl) A 50 cap (zs.take 50) ((hr1.out.take (by omega)).alloc _) rfl rfl Try.underlying38 info_i64 (by omega) rfl rfl (fun h => (Hnil.out h).2) (by omega) (by simp) ?_)
    intro A' cap' w2 hown hg
    obtain ⟨hr2, hb2⟩ := Hk.out 50 w1 w2 A' cap' (by omega) (by omega) hb1 (by simpa using hown) hg
    clear hown hg hb1
    have Hr2 := Lib.hid hr2
    clear hr2
    generalize zs.take 50 = ys at *
    have hl50 : ys.length = 50 := Hr2.out.1
    have HL := Lib.hid hl50
    clear hl50
    go_wp2_with fail
    go_loop [3, 17] (fun s i => ∃ k : Nat, k ≤ 50 ∧ i = .int .i64 k ∧ s = .int .i64 (ssum (ys.take k))) (fun _ i => 50 - (intOf i).toNat)
    case atStart => exact ⟨0, Nat.zero_le _, rfl, rfl⟩
    case round =>
      obtain ⟨k, hk, rfl, rfl⟩ := hrel
      have hb := ssum_bd (ys.take k)
      by_cases hlt : k < 50
      · obtain ⟨b, off, rfl, hc⟩ := Hr2.out.2 (by omega)
        have hck := hc k hlt
        have h : k < ys.length := by have hl := HL.out; omega
        have hs := ssum_take_succ ys k h
        have hg : -9223372036854775808 ≤ ys.getD k 0 ∧ ys.getD k 0 ≤ 9223372036854775807 := by
          have := HZ.out ys[k] (List.getElem_mem h)
          simpa [List.getD, h] using this
        have Hs := Lib.hid hs
        clear hs hc
        generalize ys.getD k 0 = z at *
        generalize ssum (ys.take k) = s at *
        rcases (show 0 < z ∨ z < 0 ∨ z = 0 by omega) with c1 | c1 | c1
        · by_cases c2 : 9223372036854775807 < s + z
          all_goals
            go_wp2
            go_round
            case rel => exact ⟨k + 1, by omega, by go_num, by rw [Hs.out]; grind [sadd]⟩
            case measure => simp only [intOf]; omega
        · by_cases c2 : s + z < -9223372036854775808
          all_goals
            go_wp2
            go_round
            case rel => exact ⟨k + 1, by omega, by go_num, by rw [Hs.out]; grind [sadd]⟩
            case measure => simp only [intOf]; omega
        · subst c1
          go_wp2
          go_round
          case rel => exact ⟨k + 1, by omega, by go_num, by rw [Hs.out]; grind [sadd]⟩
          case measure => simp only [intOf]; omega
      · have e50 : ys.take k = ys := List.take_of_length_le (by rw [HL.out]; omega)
        rw [e50] at hb
        rw [e50]
        clear e50
        go_wp2_with (go_at_call 25; refine (sum_any _ _ _ _ _ Hr2.out (by omega) HZ.out).mono ?_; rintro e w' ⟨rfl, rfl⟩)
        go_ret
        exact ⟨ret_bool (by simp), by assumption⟩
  · obtain rfl : m = len := by rw [Hm.out]; rw [if_neg h50]
    go_enter Try.func8, Try.ntmps8
    go_wp2_with fail
    refine (awake_any _).mono ?_
    rintro e w1 ⟨rfl, hb1⟩
    have hr1 := Lib.hid (hr.below hb1)
    go_wp2_with (at_builtin; refine wpList_append_ints _ _ .i64 38 2 8 w1.heap.size _ 0 0 [] (World.ownsRow_made w1 #[] 0 (by simp) (by unfold maxLen; omega) rfl) A m cap (zs.take m) ((hr1.out.take (by omega)).alloc _) rfl rfl Try.underlying38 info_i64 (by omega) rfl rfl (fun h => (Hnil.out h).2) (by omega) (by simp) ?_)
    intro A' cap' w2 hown hg
    obtain ⟨hr2, hb2⟩ := Hk.out m w1 w2 A' cap' (by omega) (by omega) hb1 (by simpa using hown) hg
    clear hown hg hb1
    have Hr2 := Lib.hid hr2
    clear hr2
    generalize zs.take m = ys at *
    have hl50 : ys.length = m := Hr2.out.1
    have HL := Lib.hid hl50
    clear hl50
    go_wp2_with fail
    go_loop [3, 17] (fun s i => ∃ k : Nat, k ≤ m ∧ i = .int .i64 k ∧ s = .int .i64 (ssum (ys.take k))) (fun _ i => m - (intOf i).toNat)
    case atStart => exact ⟨0, Nat.zero_le _, rfl, rfl⟩
    case round =>
      obtain ⟨k, hk, rfl, rfl⟩ := hrel
      have hb := ssum_bd (ys.take k)
      by_cases hlt : k < m
      · obtain ⟨b, off, rfl, hc⟩ := Hr2.out.2 (by omega)
        have hck := hc k hlt
        have h : k < ys.length := by have hl := HL.out; omega
        have hs := ssum_take_succ ys k h
        have hg : -9223372036854775808 ≤ ys.getD k 0 ∧ ys.getD k 0 ≤ 9223372036854775807 := by
          have := HZ.out ys[k] (List.getElem_mem h)
          simpa [List.getD, h] using this
        have Hs := Lib.hid hs
        clear hs hc
        generalize ys.getD k 0 = z at *
        generalize ssum (ys.take k) = s at *
        rcases (show 0 < z ∨ z < 0 ∨ z = 0 by omega) with c1 | c1 | c1
        · by_cases c2 : 9223372036854775807 < s + z
          all_goals
            go_wp2
            go_round
            case rel => exact ⟨k + 1, by omega, by go_num, by rw [Hs.out]; grind [sadd]⟩
            case measure => simp only [intOf]; omega
        · by_cases c2 : s + z < -9223372036854775808
          all_goals
            go_wp2
            go_round
            case rel => exact ⟨k + 1, by omega, by go_num, by rw [Hs.out]; grind [sadd]⟩
            case measure => simp only [intOf]; omega
        · subst c1
          go_wp2
          go_round
          case rel => exact ⟨k + 1, by omega, by go_num, by rw [Hs.out]; grind [sadd]⟩
          case measure => simp only [intOf]; omega
      · have e50 : ys.take k = ys := List.take_of_length_le (by rw [HL.out]; omega)
        rw [e50] at hb
        rw [e50]
        clear e50
        go_wp2_with (go_at_call 25; refine (sum_any _ _ _ _ _ Hr2.out (by omega) HZ.out).mono ?_; rintro e w' ⟨rfl, rfl⟩)
        go_ret
        exact ⟨ret_bool (by simp), by assumption⟩
end Go.Proofs.Ytklfkopfgiafcaa
