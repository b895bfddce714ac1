/- Chains of units: the plain law: all chains, how few roles differ, how many there are. No program. -/
import Derived.Test.YtihboegopigkmaaDoorBt
namespace Go.Proofs.YtihboegopigkmaaDoor
set_option linter.unusedSimpArgs false
set_option linter.unusedVariables false
set_option linter.unnecessarySimpa false

/-- A map: of each role its units, of each unit those that work with it. -/
structure HM where
  R : List Nat
  L : Nat → Nat
def HM.ok (M : HM) : Prop := (∀ r ∈ M.R, r < 65536) ∧ ∀ j, M.L j < 65536
def HM.set (M : HM) (bad i u : Nat) : Nat := if i = 0 then lessN (M.R.getD i 0) bad else lessN (M.R.getD i 0) bad &&& M.L u
def HM.us (M : HM) (bad i u : Nat) : List Nat := units (M.set bad i u)
theorem HM.getR {M : HM} (h : M.ok) (i : Nat) : M.R.getD i 0 < 65536 := by
  by_cases hi : i < M.R.length
  · rw [List.getD_eq_getElem?_getD, List.getElem?_eq_getElem hi]
    exact h.1 _ (List.getElem_mem _)
  · rw [List.getD_eq_getElem?_getD, List.getElem?_eq_none (by omega)]
    exact Nat.zero_lt_succ _
theorem HM.set_lt {M : HM} (h : M.ok) (bad i u : Nat) : M.set bad i u < 65536 := by
  unfold HM.set
  split
  · exact lessN_lt (M.getR h i)
  · exact and16 (h.2 u)
theorem mem_units {s u : Nat} : u ∈ units s ↔ u < 16 ∧ s.testBit u = true := by
  unfold units
  rw [unitsFrom_mem]
  exact ⟨fun ⟨_, h, k⟩ => ⟨by omega, k⟩, fun ⟨h, k⟩ => ⟨Nat.zero_le _, by omega, k⟩⟩
theorem mem_us {M : HM} {bad i p u : Nat} : u ∈ M.us bad i p ↔ u < 16 ∧ (M.set bad i p).testBit u = true := mem_units
theorem us_set {M : HM} (h : M.ok) {bad i p u : Nat} : u ∈ M.us bad i p → u ∈ units (lessN (M.R.getD i 0) bad) := by
  rw [mem_us, mem_units]
  rintro ⟨h1, h2⟩
  refine ⟨h1, ?_⟩
  unfold HM.set at h2
  split at h2
  · exact h2
  · rw [Nat.testBit_and, Bool.and_eq_true] at h2; exact h2.1
/-! All chains. -/
def HM.ext (M : HM) (bad : Nat) : Nat → Nat → Nat → List (List Nat)
  | 0, _, _ => [[]]
  | k + 1, i, p => (M.us bad i p).flatMap fun u => (HM.ext M bad k (i + 1) u).map (u :: ·)
def lastD (c : List Nat) : Nat := c.getLastD 0
theorem lastD_snoc (c : List Nat) (u : Nat) : lastD (c ++ [u]) = u := by simp [lastD]
def HM.stepP (M : HM) (bad i : Nat) (P : List (List Nat)) : List (List Nat) := P.flatMap fun c => (M.us bad i (lastD c)).map fun u => c ++ [u]
def HM.pre (M : HM) (bad : Nat) : Nat → List (List Nat)
  | 0 => [[]]
  | i + 1 => M.stepP bad i (HM.pre M bad i)
theorem pre_ext (M : HM) (bad : Nat) : ∀ i k, (M.pre bad i).flatMap (fun c => (M.ext bad k i (lastD c)).map (c ++ ·)) = M.ext bad (i + k) 0 0
  | 0, k => by simp [HM.pre, lastD]
  | i + 1, k => by
    have ih := pre_ext M bad i (k + 1)
    rw [show i + 1 + k = i + (k + 1) by omega, ← ih]
    show (M.stepP bad i (M.pre bad i)).flatMap _ = _
    unfold HM.stepP
    rw [List.flatMap_assoc]
    congr 1
    funext c
    rw [List.flatMap_map]
    show _ = List.map (c ++ ·) ((M.us bad i (lastD c)).flatMap fun u => (M.ext bad k (i + 1) u).map (u :: ·))
    rw [List.map_flatMap]
    congr 1
    funext u
    rw [lastD_snoc, List.map_map]
    congr 1
    funext s
    simp
theorem pre_all (M : HM) (bad n : Nat) : M.pre bad n = M.ext bad n 0 0 := by
  have := pre_ext M bad n 0
  rw [Nat.add_zero] at this
  rw [← this]
  simp [HM.ext]
theorem ext_len {M : HM} {bad : Nat} : ∀ {k i p : Nat} {s : List Nat}, s ∈ M.ext bad k i p → s.length = k
  | 0, i, p, s, h => by simp [HM.ext] at h; simp [h]
  | k + 1, i, p, s, h => by
    simp only [HM.ext, List.mem_flatMap, List.mem_map] at h
    obtain ⟨u, _, t, ht, rfl⟩ := h
    simp [ext_len ht]
theorem mem_ext_cons {M : HM} {bad k i p u : Nat} {s : List Nat} : u :: s ∈ M.ext bad (k + 1) i p ↔ u ∈ M.us bad i p ∧ s ∈ M.ext bad k (i + 1) u := by
  simp only [HM.ext, List.mem_flatMap, List.mem_map]
  constructor
  · rintro ⟨v, hv, t, ht, e⟩
    injection e with e1 e2
    subst e1 e2
    exact ⟨hv, ht⟩
  · rintro ⟨h1, h2⟩
    exact ⟨u, h1, s, h2, rfl⟩
theorem ext_lt {M : HM} {bad : Nat} : ∀ {k i p : Nat} {s : List Nat}, s ∈ M.ext bad k i p → ∀ u ∈ s, u < 16
  | 0, i, p, s, h, u, hu => by simp [HM.ext] at h; subst h; cases hu
  | k + 1, i, p, s, h, u, hu => by
    simp only [HM.ext, List.mem_flatMap, List.mem_map] at h
    obtain ⟨v, hv, t, ht, rfl⟩ := h
    rcases List.mem_cons.1 hu with rfl | hu
    · exact (mem_us.1 hv).1
    · exact ext_lt ht u hu
theorem units_le (s : Nat) : (units s).length ≤ 16 := units_len s 16 0
theorem ext_count (M : HM) (bad : Nat) : ∀ k i p, (M.ext bad k i p).length ≤ 16 ^ k
  | 0, i, p => by simp [HM.ext]
  | k + 1, i, p => by
    have key : ∀ us : List Nat, (us.flatMap fun u => (M.ext bad k (i + 1) u).map (u :: ·)).length ≤ us.length * 16 ^ k := by
      intro us
      induction us with
      | nil => simp
      | cons u us ih =>
        rw [List.flatMap_cons, List.length_append, List.length_map, List.length_cons, Nat.add_mul, Nat.one_mul]
        have := ext_count M bad k (i + 1) u
        omega
    have h1 := key (M.us bad i p)
    have h2 := Nat.mul_le_mul_right (16 ^ k) (units_le (M.set bad i p))
    rw [Nat.pow_succ, Nat.mul_comm]
    exact Nat.le_trans h1 h2
/-! The least of some costs, the first of them. -/
section
variable {α β : Type}
def comb : Option (Int × α) → Option (Int × α) → Option (Int × α)
  | none, b => b
  | some a, none => some a
  | some a, some b => if b.1 < a.1 then some b else some a
theorem comb_none (a : Option (Int × α)) : comb a none = a := by cases a <;> rfl
theorem comb_assoc (a b c : Option (Int × α)) : comb (comb a b) c = comb a (comb b c) := by
  cases a with
  | none => rfl
  | some a =>
    cases b with
    | none => rw [comb_none]; rfl
    | some b =>
      cases c with
      | none => rw [comb_none, comb_none]
      | some c =>
        simp only [comb]
        by_cases h1 : b.1 < a.1 <;> by_cases h2 : c.1 < b.1 <;> by_cases h3 : c.1 < a.1 <;> simp only [h1, h2, h3, if_true, if_false, comb] <;> omega
def minF (f : α → Int) (l : List α) : Option (Int × α) := l.foldl (fun acc x => comb acc (some (f x, x))) none
theorem foldl_comb (g : α → Option (Int × β)) : ∀ (l : List α) (acc : Option (Int × β)), l.foldl (fun acc x => comb acc (g x)) acc = comb acc (l.foldl (fun acc x => comb acc (g x)) none)
  | [], acc => (comb_none acc).symm
  | x :: l, acc => by
    rw [List.foldl_cons, List.foldl_cons, foldl_comb g l (comb acc (g x)), foldl_comb g l (comb none (g x)), comb_assoc]
    rfl
theorem minF_append (f : α → Int) (l m : List α) : minF f (l ++ m) = comb (minF f l) (minF f m) := by
  unfold minF
  rw [List.foldl_append, foldl_comb]
theorem minF_flatMap (f : β → Int) (g : α → List β) : ∀ l : List α, minF f (l.flatMap g) = l.foldl (fun acc x => comb acc (minF f (g x))) none
  | [] => rfl
  | x :: l => by
    rw [List.flatMap_cons, minF_append, minF_flatMap f g l, List.foldl_cons, foldl_comb _ l (comb none _)]
    rfl
theorem minF_map (f : β → Int) (h : α → β) (l : List α) : minF f (l.map h) = (minF (fun x => f (h x)) l).map fun p => (p.1, h p.2) := by
  have key : ∀ (l : List α) (acc : Option (Int × α)), (l.map h).foldl (fun acc x => comb acc (some (f x, x))) (acc.map fun p => (p.1, h p.2)) = (l.foldl (fun acc x => comb acc (some (f (h x), x))) acc).map fun p => (p.1, h p.2) := by
    intro l
    induction l with
    | nil => intro acc; rfl
    | cons x l ih =>
      intro acc
      rw [List.map_cons, List.foldl_cons, List.foldl_cons, ← ih]
      congr 1
      cases acc with
      | none => rfl
      | some a =>
        simp only [Option.map_some, comb]
        split <;> rfl
  exact key l none
theorem minF_add (a : Int) (f : α → Int) (l : List α) : minF (fun x => a + f x) l = (minF f l).map fun p => (a + p.1, p.2) := by
  have key : ∀ (l : List α) (acc : Option (Int × α)), l.foldl (fun acc x => comb acc (some (a + f x, x))) (acc.map fun p => (a + p.1, p.2)) = (l.foldl (fun acc x => comb acc (some (f x, x))) acc).map fun p => (a + p.1, p.2) := by
    intro l
    induction l with
    | nil => intro acc; rfl
    | cons x l ih =>
      intro acc
      rw [List.foldl_cons, List.foldl_cons, ← ih]
      congr 1
      cases acc with
      | none => rfl
      | some b =>
        simp only [Option.map_some, comb]
        by_cases h : f x < b.1
        · rw [if_pos h, if_pos (by omega)]; rfl
        · rw [if_neg h, if_neg (by omega)]; rfl
  exact key l none
theorem minF_snoc (f : α → Int) (l : List α) (x : α) : minF f (l ++ [x]) = comb (minF f l) (some (f x, x)) := by
  rw [minF_append]; rfl
/-- It is one of them, and none is less. -/
theorem minF_spec (f : α → Int) : ∀ (l : List α), (l = [] ∧ minF f l = none) ∨ ∃ x, x ∈ l ∧ minF f l = some (f x, x) ∧ ∀ y ∈ l, f x ≤ f y := by
  intro l
  have key : ∀ l : List α, (l.reverse = [] ∧ minF f l.reverse = none) ∨ ∃ x, x ∈ l.reverse ∧ minF f l.reverse = some (f x, x) ∧ ∀ y ∈ l.reverse, f x ≤ f y := by
    intro l
    induction l with
    | nil => left; exact ⟨rfl, rfl⟩
    | cons z l ih =>
      right
      rw [List.reverse_cons, minF_snoc]
      rcases ih with ⟨h1, h2⟩ | ⟨x, hx, h2, h3⟩
      · rw [h2, h1]
        exact ⟨z, by simp, rfl, fun y hy => by simp at hy; rw [hy]; exact Int.le_refl _⟩
      · rw [h2]
        simp only [comb]
        by_cases h : f z < f x
        · rw [if_pos h]
          refine ⟨z, by simp, rfl, fun y hy => ?_⟩
          rcases List.mem_append.1 hy with hy | hy
          · have := h3 y hy; omega
          · simp at hy; rw [hy]; exact Int.le_refl _
        · rw [if_neg h]
          refine ⟨x, List.mem_append.2 (.inl hx), rfl, fun y hy => ?_⟩
          rcases List.mem_append.1 hy with hy | hy
          · exact h3 y hy
          · simp at hy; rw [hy]; omega
  have := key l.reverse
  rwa [List.reverse_reverse] at this
end
/-! The way back from the last role. -/
def ownC (c : Nat → Int) (i u : Nat) : Int := if c i = (u : Int) then 0 else 1
def farC (c : Nat → Int) : Nat → List Nat → Int
  | _, [] => 0
  | i, u :: s => ownC c i u + farC c (i + 1) s
def leastF (f : Nat → Option (Int × Int)) (us : List Nat) : Option (Int × Int) := us.foldl (fun acc u => comb acc ((f u).map fun x => (x.1, (u : Int)))) none
def HM.B (M : HM) (c : Nat → Int) (bad : Nat) : Nat → Nat → Nat → Option (Int × Int)
  | 0, i, u => some (ownC c i u, -1)
  | k + 1, i, u => (leastF (HM.B M c bad k (i + 1)) (M.us bad (i + 1) u)).map fun x => (ownC c i u + x.1, x.2)
def HM.fol (M : HM) (c : Nat → Int) (bad : Nat) : Nat → Nat → Nat → List Nat
  | 0, _, u => [u]
  | k + 1, i, u => u :: match leastF (M.B c bad k (i + 1)) (M.us bad (i + 1) u) with
    | some x => HM.fol M c bad k (i + 1) x.2.toNat
    | none => []
theorem leastF_fol (g : Nat → Option (Int × Int)) (h : Nat → List Nat) (us : List Nat) : us.foldl (fun acc v => comb acc ((g v).map fun x => (x.1, h v))) none = (leastF g us).map fun a => (a.1, h a.2.toNat) := by
  unfold leastF
  have key : ∀ (us : List Nat) (acc : Option (Int × Int)), us.foldl (fun acc v => comb acc ((g v).map fun x => (x.1, h v))) (acc.map fun a => (a.1, h a.2.toNat)) = (us.foldl (fun acc u => comb acc ((g u).map fun x => (x.1, (u : Int)))) acc).map fun a => (a.1, h a.2.toNat) := by
    intro us
    induction us with
    | nil => intro acc; rfl
    | cons u us ih =>
      intro acc
      rw [List.foldl_cons, List.foldl_cons, ← ih]
      congr 1
      cases acc with
      | none => cases g u <;> simp [comb]
      | some a =>
        cases g u with
        | none => rfl
        | some x =>
          simp only [Option.map_some, comb]
          split <;> simp
  exact key us none
theorem minF_B (M : HM) (c : Nat → Int) (bad : Nat) : ∀ k i u, minF (farC c i) ((M.ext bad k (i + 1) u).map (u :: ·)) = (M.B c bad k i u).map fun x => (x.1, M.fol c bad k i u)
  | 0, i, u => by simp [HM.ext, minF, comb, farC, HM.B, HM.fol]
  | k + 1, i, u => by
    rw [minF_map]
    show (minF (fun s => ownC c i u + farC c (i + 1) s) (M.ext bad (k + 1) (i + 1) u)).map _ = _
    rw [minF_add]
    show ((minF (farC c (i + 1)) ((M.us bad (i + 1) u).flatMap fun v => (M.ext bad k (i + 1 + 1) v).map (v :: ·))).map _).map _ = _
    rw [minF_flatMap]
    have e : (fun (acc : Option (Int × List Nat)) v => comb acc (minF (farC c (i + 1)) ((M.ext bad k (i + 1 + 1) v).map (v :: ·)))) = fun acc v => comb acc ((M.B c bad k (i + 1) v).map fun x => (x.1, M.fol c bad k (i + 1) v)) := by
      funext acc v
      rw [minF_B M c bad k (i + 1) v]
    rw [e, leastF_fol]
    show _ = ((leastF (M.B c bad k (i + 1)) (M.us bad (i + 1) u)).map fun x => (ownC c i u + x.1, x.2)).map fun x => (x.1, u :: match leastF (M.B c bad k (i + 1)) (M.us bad (i + 1) u) with
      | some x => M.fol c bad k (i + 1) x.2.toNat
      | none => [])
    cases leastF (M.B c bad k (i + 1)) (M.us bad (i + 1) u) <;> rfl
/-- The first of all chains that differ least, by the way back. -/
theorem minF_all (M : HM) (c : Nat → Int) (bad k : Nat) : minF (farC c 0) (M.ext bad (k + 1) 0 0) = (leastF (M.B c bad k 0) (M.us bad 0 0)).map fun a => (a.1, M.fol c bad k 0 a.2.toNat) := by
  show minF (farC c 0) ((M.us bad 0 0).flatMap fun v => (M.ext bad k (0 + 1) v).map (v :: ·)) = _
  rw [minF_flatMap, ← leastF_fol]
  congr 1
  funext acc v
  rw [minF_B M c bad k 0 v]
theorem leastF_mem {f : Nat → Option (Int × Int)} : ∀ {us : List Nat} {a : Int × Int}, leastF f us = some a → ∃ u ∈ us, a.2 = (u : Int) ∧ ∃ y, f u = some (a.1, y) := by
  intro us
  have key : ∀ (us : List Nat) (acc : Option (Int × Int)) (a : Int × Int), us.foldl (fun acc u => comb acc ((f u).map fun x => (x.1, (u : Int)))) acc = some a → acc = some a ∨ ∃ u ∈ us, a.2 = (u : Int) ∧ ∃ y, f u = some (a.1, y) := by
    intro us
    induction us with
    | nil => intro acc a h; exact .inl h
    | cons u us ih =>
      intro acc a h
      rw [List.foldl_cons] at h
      rcases ih _ a h with h1 | ⟨v, hv, h2⟩
      · cases hu : f u with
        | none => rw [hu, Option.map_none, comb_none] at h1; exact .inl h1
        | some x =>
          rw [hu] at h1
          cases acc with
          | none =>
            simp only [comb, Option.map_some, Option.some.injEq] at h1
            subst h1
            exact .inr ⟨u, List.mem_cons_self .., rfl, x.2, hu⟩
          | some b =>
            simp only [comb, Option.map_some] at h1
            split at h1
            · injection h1 with h1
              subst h1
              exact .inr ⟨u, List.mem_cons_self .., rfl, x.2, hu⟩
            · exact .inl h1
      · exact .inr ⟨v, List.mem_cons_of_mem _ hv, h2⟩
  intro a h
  rcases key us none a h with h | h
  · cases h
  · exact h
/-! How many. -/
def sumN (f : Nat → Nat) : Nat → Nat
  | 0 => 0
  | n + 1 => sumN f n + f n
theorem sumN_congr {f g : Nat → Nat} : ∀ n, (∀ u, u < n → f u = g u) → sumN f n = sumN g n
  | 0, _ => rfl
  | n + 1, h => by rw [sumN, sumN, sumN_congr n (fun u hu => h u (by omega)), h n (by omega)]
theorem sumN_add {f g : Nat → Nat} : ∀ n, sumN (fun u => f u + g u) n = sumN f n + sumN g n
  | 0 => rfl
  | n + 1 => by rw [sumN, sumN, sumN, sumN_add n]; omega
theorem sumN_one (a x : Nat) : ∀ n, sumN (fun u => if u = x then a else 0) n = if x < n then a else 0
  | 0 => rfl
  | n + 1 => by
    rw [sumN, sumN_one a x n]
    by_cases h1 : x < n
    · rw [if_pos h1, if_neg (by omega), if_pos (by omega)]; rfl
    · rw [if_neg h1]
      by_cases h2 : n = x
      · rw [if_pos h2, if_pos (by omega)]; omega
      · rw [if_neg h2, if_neg (by omega)]
theorem sumN_zero : ∀ n, sumN (fun _ => 0) n = 0
  | 0 => rfl
  | n + 1 => by rw [sumN, sumN_zero n]
/-- How many end in a unit. -/
def cntL (P : List (List Nat)) (v : Nat) : Nat := (P.filter fun c => decide (lastD c = v)).length
theorem cntL_cons (c : List Nat) (P : List (List Nat)) (v : Nat) : cntL (c :: P) v = cntL P v + if lastD c = v then 1 else 0 := by
  unfold cntL
  rw [List.filter_cons]
  by_cases h : lastD c = v <;> simp [h]
theorem cntL_append (P Q : List (List Nat)) (v : Nat) : cntL (P ++ Q) v = cntL P v + cntL Q v := by unfold cntL; rw [List.filter_append, List.length_append]
theorem cntL_map (c : List Nat) (us : List Nat) (v : Nat) (hd : us.Nodup) : cntL (us.map fun u => c ++ [u]) v = if v ∈ us then 1 else 0 := by
  induction us with
  | nil => simp [cntL]
  | cons u us ih =>
    rw [List.map_cons, cntL_cons, lastD_snoc, ih (List.nodup_cons.1 hd).2]
    have h1 := (List.nodup_cons.1 hd).1
    by_cases h : u = v
    · subst h
      rw [if_neg h1, if_pos rfl, if_pos (List.mem_cons_self ..)]
    · rw [if_neg h]
      by_cases h2 : v ∈ us
      · rw [if_pos h2, if_pos (List.mem_cons_of_mem _ h2)]
      · rw [if_neg h2, if_neg (fun h3 => by rcases List.mem_cons.1 h3 with h3 | h3; exact h h3.symm; exact h2 h3)]
theorem units_sorted (s : Nat) : (units s).Pairwise (· < ·) := by
  unfold units
  have : ∀ n j, (unitsFrom s n j).Pairwise (· < ·) := by
    intro n
    induction n with
    | zero => intro j; exact .nil
    | succ n ih =>
      intro j
      unfold unitsFrom
      split
      · refine List.pairwise_cons.2 ⟨fun x hx => ?_, ih _⟩
        have := (unitsFrom_mem s n (j + 1) x).1 hx
        omega
      · exact ih _
  exact this 16 0
theorem units_nodup (s : Nat) : (units s).Nodup := (units_sorted s).imp fun h => Nat.ne_of_lt h
theorem cntL_step (M : HM) (bad i v : Nat) : ∀ P : List (List Nat), (∀ c ∈ P, lastD c < 16) → cntL (M.stepP bad i P) v = sumN (fun u => if v ∈ M.us bad i u then cntL P u else 0) 16
  | [], _ => by
    show cntL [] v = _
    rw [sumN_congr (g := fun _ => 0) 16 (fun u _ => by simp [cntL]), sumN_zero]
    rfl
  | c :: P, h => by
    have hc := h c (List.mem_cons_self ..)
    have ih := cntL_step M bad i v P (fun d hd => h d (List.mem_cons_of_mem _ hd))
    unfold HM.stepP at ih ⊢
    rw [List.flatMap_cons, cntL_append, ih, cntL_map c (M.us bad i (lastD c)) v (units_nodup _)]
    have e : sumN (fun u => if v ∈ M.us bad i u then cntL (c :: P) u else 0) 16 = sumN (fun u => (if v ∈ M.us bad i u then cntL P u else 0) + if u = lastD c then (if v ∈ M.us bad i (lastD c) then 1 else 0) else 0) 16 := by
      refine sumN_congr 16 fun u _ => ?_
      rw [cntL_cons]
      by_cases h1 : lastD c = u
      · subst h1
        by_cases h2 : v ∈ M.us bad i (lastD c) <;> simp [h2]
      · by_cases h2 : v ∈ M.us bad i u <;> simp [h1, h2, Ne.symm h1] <;> (intro h3; exact absurd h3.symm h1)
    rw [e, sumN_add, sumN_one, if_pos hc]
    omega
theorem cntL_sum : ∀ P : List (List Nat), (∀ c ∈ P, lastD c < 16) → sumN (cntL P) 16 = P.length
  | [], _ => by
    rw [sumN_congr (g := fun _ => 0) 16 (fun u _ => by simp [cntL]), sumN_zero]
    rfl
  | c :: P, h => by
    have hc := h c (List.mem_cons_self ..)
    have ih := cntL_sum P (fun d hd => h d (List.mem_cons_of_mem _ hd))
    have e : sumN (cntL (c :: P)) 16 = sumN (fun u => cntL P u + if u = lastD c then 1 else 0) 16 := by
      refine sumN_congr 16 fun u _ => ?_
      rw [cntL_cons]
      congr 1
      by_cases h1 : lastD c = u
      · rw [if_pos h1, if_pos h1.symm]
      · rw [if_neg h1, if_neg (fun e => h1 e.symm)]
    rw [e, sumN_add, sumN_one, if_pos hc, ih]
    rfl
theorem stepP_last {M : HM} {bad i : Nat} {P : List (List Nat)} : ∀ c ∈ M.stepP bad i P, lastD c < 16 := by
  intro c hc
  unfold HM.stepP at hc
  simp only [List.mem_flatMap, List.mem_map] at hc
  obtain ⟨d, _, u, hu, rfl⟩ := hc
  rw [lastD_snoc]
  exact (mem_us.1 hu).1
theorem pre_len {M : HM} {bad : Nat} : ∀ {i : Nat} {c : List Nat}, c ∈ M.pre bad i → c.length = i
  | 0, c, h => by simp [HM.pre] at h; simp [h]
  | i + 1, c, h => by
    have h' : c ∈ M.stepP bad i (M.pre bad i) := h
    unfold HM.stepP at h'
    simp only [List.mem_flatMap, List.mem_map] at h'
    obtain ⟨d, hd, u, hu, rfl⟩ := h'
    rw [List.length_append, pre_len hd]
    rfl
theorem pre_lt {M : HM} {bad : Nat} : ∀ {i : Nat} {c : List Nat}, c ∈ M.pre bad i → ∀ u ∈ c, u < 16
  | 0, c, h, u, hu => by simp [HM.pre] at h; subst h; cases hu
  | i + 1, c, h, u, hu => by
    have h' : c ∈ M.stepP bad i (M.pre bad i) := h
    unfold HM.stepP at h'
    simp only [List.mem_flatMap, List.mem_map] at h'
    obtain ⟨d, hd, v, hv, rfl⟩ := h'
    rcases List.mem_append.1 hu with hu | hu
    · exact pre_lt hd u hu
    · simp at hu; subst hu; exact (mem_us.1 hv).1
end Go.Proofs.YtihboegopigkmaaDoor
