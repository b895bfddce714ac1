/- Strap: what the laws share: parameters, the example, the least of all, what is admitted. -/
import Derived.Test.YtihboegopigkmaaDoorHi
import Derived.Test.YtihboegopigkmaaDoorDp
namespace Go.Proofs.YtihboegopigkmaaDoor
set_option linter.unusedSimpArgs false
set_option linter.unusedVariables false
set_option linter.unnecessarySimpa false
set_option maxRecDepth 100000
set_option maxHeartbeats 4000000
open Go.RowKit

/-! Parameters. -/
theorem rs_of {W : World} {a : Option Addr} {n : Nat} {zs : List Int} (hr : IRow .u16 W a n zs) (hz : ∀ z ∈ zs, inR .u16 z) : ∃ rs : List Nat, RRw W a n rs ∧ (∀ r ∈ rs, r < 65536) ∧ rs.length = n := by
  refine ⟨zs.map Int.toNat, ⟨by rw [List.length_map]; exact hr.1, fun h0 => ?_⟩, fun r h => ?_, by rw [List.length_map]; exact hr.1⟩
  · obtain ⟨b, o, hA, hc⟩ := hr.2 h0
    refine ⟨b, o, hA, fun j hj => ?_⟩
    rw [hc j hj]
    have hl := hr.1
    have hj' : j < zs.length := by omega
    have h1 : zs.getD j 0 = zs[j] := by rw [List.getD_eq_getElem?_getD, List.getElem?_eq_getElem hj']; rfl
    have h2 : (zs.map Int.toNat).getD j 0 = zs[j].toNat := by rw [List.getD_eq_getElem?_getD, List.getElem?_map, List.getElem?_eq_getElem hj']; rfl
    have h3 := hz _ (List.getElem_mem hj')
    dsimp only [inR] at h3
    rw [h1, h2]
    exact congrArg some (congrArg (Value.int .u16) (Int.toNat_of_nonneg (by omega)).symm)
  · obtain ⟨z, hm, rfl⟩ := List.mem_map.1 h
    have h3 := hz z hm
    dsimp only [inR] at h3
    omega
theorem rrw_irt {w : World} {h b n : Nat} {R : List Nat} (hr : IRt h .u16 w (some ⟨b, 0, none⟩) n (R.map fun (r : Nat) => (r : Int))) : RRw w (some ⟨b, 0, none⟩) n R := by
  have hl := hr.1
  rw [List.length_map] at hl
  refine ⟨hl, fun h0 => ?_⟩
  obtain ⟨b', o, hA, hc⟩ := hr.2 h0
  refine ⟨b', o, hA, fun j hj => ?_⟩
  rw [hc j hj]
  have hj' : j < R.length := by omega
  simp [List.getD_eq_getElem?_getD, List.getElem?_eq_getElem hj', setV, SV.den]
theorem u16_nat {a : Int} (h : inR .u16 a) : ∃ s : Nat, a = (s : Int) ∧ s < 65536 := ⟨a.toNat, by dsimp only [inR] at h; omega, by dsimp only [inR] at h; omega⟩
theorem links_of {cs : List Value} (h : skB [.i .u16, .i .u16, .i .u16, .i .u16, .i .u16, .i .u16, .i .u16, .i .u16, .i .u16, .i .u16, .i .u16, .i .u16, .i .u16, .i .u16, .i .u16, .i .u16] cs = true) (hw : wfC cs) : ∃ L : Nat → Nat, cs = dens (linkV L) ∧ ∀ j, L j < 65536 := by
  obtain ⟨a0, l1, rfl, i0, h, hw⟩ := sk_i h hw
  obtain ⟨a1, l1, rfl, i1, h, hw⟩ := sk_i h hw
  obtain ⟨a2, l1, rfl, i2, h, hw⟩ := sk_i h hw
  obtain ⟨a3, l1, rfl, i3, h, hw⟩ := sk_i h hw
  obtain ⟨a4, l1, rfl, i4, h, hw⟩ := sk_i h hw
  obtain ⟨a5, l1, rfl, i5, h, hw⟩ := sk_i h hw
  obtain ⟨a6, l1, rfl, i6, h, hw⟩ := sk_i h hw
  obtain ⟨a7, l1, rfl, i7, h, hw⟩ := sk_i h hw
  obtain ⟨a8, l1, rfl, i8, h, hw⟩ := sk_i h hw
  obtain ⟨a9, l1, rfl, i9, h, hw⟩ := sk_i h hw
  obtain ⟨aa, l1, rfl, ia, h, hw⟩ := sk_i h hw
  obtain ⟨ab, l1, rfl, ib, h, hw⟩ := sk_i h hw
  obtain ⟨ac, l1, rfl, ic, h, hw⟩ := sk_i h hw
  obtain ⟨ad, l1, rfl, id_, h, hw⟩ := sk_i h hw
  obtain ⟨ae, l1, rfl, ie, h, hw⟩ := sk_i h hw
  obtain ⟨af, l1, rfl, if_, h, hw⟩ := sk_i h hw
  obtain rfl := sk_nil h
  obtain ⟨a0, rfl, i0⟩ := u16_nat i0
  obtain ⟨a1, rfl, i1⟩ := u16_nat i1
  obtain ⟨a2, rfl, i2⟩ := u16_nat i2
  obtain ⟨a3, rfl, i3⟩ := u16_nat i3
  obtain ⟨a4, rfl, i4⟩ := u16_nat i4
  obtain ⟨a5, rfl, i5⟩ := u16_nat i5
  obtain ⟨a6, rfl, i6⟩ := u16_nat i6
  obtain ⟨a7, rfl, i7⟩ := u16_nat i7
  obtain ⟨a8, rfl, i8⟩ := u16_nat i8
  obtain ⟨a9, rfl, i9⟩ := u16_nat i9
  obtain ⟨aa, rfl, ia⟩ := u16_nat ia
  obtain ⟨ab, rfl, ib⟩ := u16_nat ib
  obtain ⟨ac, rfl, ic⟩ := u16_nat ic
  obtain ⟨ad, rfl, id_⟩ := u16_nat id_
  obtain ⟨ae, rfl, ie⟩ := u16_nat ie
  obtain ⟨af, rfl, if_⟩ := u16_nat if_
  refine ⟨fun j => [a0, a1, a2, a3, a4, a5, a6, a7, a8, a9, aa, ab, ac, ad, ae, af].getD j 0, rfl, getD_lt fun r hr => ?_⟩
  simp only [List.mem_cons, List.not_mem_nil, or_false] at hr
  omega
theorem chain_of {cs : List Value} (h : skB [.i .i8, .i .i8, .i .i8, .i .i8, .i .i8, .i .i8] cs = true) (hw : wfC cs) : ∃ f : Nat → Int, cs = dens (chF f) ∧ ∀ i, I8 (f i) := by
  obtain ⟨a0, l1, rfl, i0, h, hw⟩ := sk_i h hw
  obtain ⟨a1, l1, rfl, i1, h, hw⟩ := sk_i h hw
  obtain ⟨a2, l1, rfl, i2, h, hw⟩ := sk_i h hw
  obtain ⟨a3, l1, rfl, i3, h, hw⟩ := sk_i h hw
  obtain ⟨a4, l1, rfl, i4, h, hw⟩ := sk_i h hw
  obtain ⟨a5, l1, rfl, i5, h, hw⟩ := sk_i h hw
  obtain rfl := sk_nil h
  simp only [inR] at i0 i1 i2 i3 i4 i5
  refine ⟨fun j => match j with | 0 => a0 | 1 => a1 | 2 => a2 | 3 => a3 | 4 => a4 | 5 => a5 | _ + 6 => 0, rfl, fun i => ?_⟩
  unfold I8
  rcases i with _ | _ | _ | _ | _ | _ | i <;> dsimp only <;> omega
/-! The least of all. -/
theorem minF_const {α : Type} {f : α → Int} {k : Int} : ∀ {l : List α}, (∀ x ∈ l, f x = k) → (minF f l).map (·.2) = l.head?
  | [], _ => rfl
  | x :: l, h => by
    have e : minF f (x :: l) = comb (minF f [x]) (minF f l) := minF_append f [x] l
    rw [e]
    have e1 : minF f [x] = some (f x, x) := rfl
    rw [e1]
    rcases minF_spec f l with ⟨rfl, h2⟩ | ⟨y, hy, h2, _⟩
    · rfl
    · rw [h2, h x (List.mem_cons_self ..), h y (List.mem_cons_of_mem _ hy)]
      simp [comb]
theorem padF_nonneg {s : List Nat} {j : Nat} (h : j < s.length) : 0 ≤ padF s j := by unfold padF; rw [if_pos h]; exact Int.natCast_nonneg _
theorem far_none {s : List Nat} {n : Nat} (h : s.length = n) (hn : n ≤ 6) : farP (fun _ => -1) s = (n : Int) := by
  have key : ∀ m, sumN (dif (padF s) fun _ => -1) m = min m n := by
    intro m
    induction m with
    | zero => simp [sumN]
    | succ m ih =>
      rw [sumN, ih]
      unfold dif padF
      by_cases hm : m < s.length
      · rw [if_pos hm, if_neg (by dsimp only; omega)]; omega
      · rw [if_neg hm]; simp; omega
  unfold farP far6
  rw [key]
  omega
theorem near_none (M : HM) (bad n : Nat) (hn : n ≤ 6) : nearF M (fun _ => -1) bad n = (M.ext bad n 0 0).head? := by
  rw [← near_agree M _ bad n hn]
  exact minF_const fun s hs => far_none (ext_len hs) hn
/-! What is admitted. -/
theorem adm_pre (M : HM) (bad n : Nat) (f : Nat → Int) : ∀ i, i ≤ n → (admB M bad n f i = true ↔ ∃ s ∈ M.pre bad i, ∀ j, j < i → f j = padF s j)
  | 0, _ => by simp [admB, HM.pre]
  | i + 1, hi => by
    have ih := adm_pre M bad n f i (by omega)
    have hset : ∀ s, s ∈ M.pre bad i → (∀ j, j < i → f j = padF s j) → M.set bad i (f (i - 1)).toNat = M.set bad i (lastD s) := fun s hs hf => by
      by_cases h0 : i = 0
      · unfold HM.set; rw [if_pos h0, if_pos h0]
      · rw [hf (i - 1) (by omega), lastD_pad (pre_len hs) (by omega), Int.toNat_natCast]
    rw [admB, Bool.and_eq_true, ih]
    unfold admOne
    rw [if_pos (by omega)]
    constructor
    · rintro ⟨⟨s, hs, hf⟩, ha⟩
      rw [hset s hs hf] at ha
      unfold hasN at ha
      rw [Bool.and_eq_true, decide_eq_true_eq] at ha
      have hfi : f i = ((f i).toNat : Int) := by omega
      have hl := pre_len hs
      refine ⟨s ++ [(f i).toNat], List.mem_flatMap.2 ⟨s, hs, List.mem_map.2 ⟨_, mem_us.2 ⟨by omega, ha.2⟩, rfl⟩⟩, fun j hj => ?_⟩
      rw [padF_snoc, hl]
      by_cases e : j = i
      · rw [if_pos e, e]; exact hfi
      · rw [if_neg e]; exact hf j (by omega)
    · rintro ⟨s', hs', hf⟩
      obtain ⟨s, hs, h2⟩ := List.mem_flatMap.1 hs'
      obtain ⟨u, hu, rfl⟩ := List.mem_map.1 h2
      have hl := pre_len hs
      have hf1 : ∀ j, j < i → f j = padF s j := fun j hj => by rw [hf j (by omega), padF_snoc, hl, if_neg (by omega)]
      have hf2 : f i = (u : Int) := by rw [hf i (by omega), padF_snoc, hl, if_pos rfl]
      refine ⟨⟨s, hs, hf1⟩, ?_⟩
      rw [hset s hs hf1, hf2]
      obtain ⟨h3, h4⟩ := mem_us.1 hu
      unfold hasN
      rw [Bool.and_eq_true, decide_eq_true_eq, Int.toNat_natCast]
      exact ⟨by omega, h4⟩
theorem adm_rest (M : HM) (bad n : Nat) (f : Nat → Int) : ∀ d, admB M bad n f (n + d) = true ↔ admB M bad n f n = true ∧ ∀ j, n ≤ j → j < n + d → f j = -1
  | 0 => ⟨fun h => ⟨h, fun j h1 h2 => by omega⟩, fun h => h.1⟩
  | d + 1 => by
    rw [← Nat.add_assoc, admB, Bool.and_eq_true, adm_rest M bad n f d]
    unfold admOne
    rw [if_neg (by omega), decide_eq_true_eq]
    constructor
    · rintro ⟨⟨h1, h2⟩, h3⟩
      exact ⟨h1, fun j hj hj2 => by
        by_cases e : j = n + d
        · rw [e]; exact h3
        · exact h2 j hj (by omega)⟩
    · rintro ⟨h1, h2⟩
      exact ⟨⟨h1, fun j hj hj2 => h2 j hj (by omega)⟩, h2 _ (by omega) (by omega)⟩
theorem adm_iff (M : HM) (bad n : Nat) (f : Nat → Int) (hn : n ≤ 6) : admB M bad n f 6 = true ↔ ∃ s ∈ M.ext bad n 0 0, ∀ j, j < 6 → f j = padF s j := by
  have h := adm_rest M bad n f (6 - n)
  rw [show n + (6 - n) = 6 by omega] at h
  rw [h, adm_pre M bad n f n (Nat.le_refl _), pre_all]
  constructor
  · rintro ⟨⟨s, hs, hf⟩, h2⟩
    refine ⟨s, hs, fun j hj => ?_⟩
    by_cases e : j < n
    · exact hf j e
    · rw [h2 j (by omega) hj]; unfold padF; rw [if_neg (by rw [ext_len hs]; exact e)]
  · rintro ⟨s, hs, hf⟩
    refine ⟨⟨s, hs, fun j hj => hf j (by omega)⟩, fun j hj hj2 => ?_⟩
    rw [hf j hj2]; unfold padF; rw [if_neg (by rw [ext_len hs]; omega)]
theorem chF_congr {f g : Nat → Int} (h : ∀ j, j < 6 → f j = g j) : chF f = chF g := by
  unfold chF
  rw [h 0 (by decide), h 1 (by decide), h 2 (by decide), h 3 (by decide), h 4 (by decide), h 5 (by decide)]
/-! Units of a chain. -/
def chu (f : Nat → Int) : Nat := withN 0 [f 0, f 1, f 2, f 3, f 4, f 5]
theorem chu_S (f : Nat → Int) (w : World) (hf : ∀ i, I8 (f i)) : RetS Tryd.prog 18 [chSV f] w (setV (chu f)) :=
  units_S ⟨f 0, f 1, f 2, f 3, f 4, f 5⟩ w ⟨hf 0, hf 1, hf 2, hf 3, hf 4, hf 5⟩
theorem chu_lt (f : Nat → Int) : chu f < 65536 := withN_lt (by decide) _
theorem chu_bit (f : Nat → Int) {k : Nat} (hk : k < 16) : (chu f).testBit k = true ↔ ∃ j, j < 6 ∧ f j = (k : Int) := by
  unfold chu
  rw [withN_bit _ _ hk]
  simp only [Nat.zero_testBit, Bool.false_or, List.any_cons, List.any_nil, Bool.or_false, Bool.or_eq_true, decide_eq_true_eq]
  constructor
  · rintro (h | h | h | h | h | h)
    · exact ⟨0, by decide, h⟩
    · exact ⟨1, by decide, h⟩
    · exact ⟨2, by decide, h⟩
    · exact ⟨3, by decide, h⟩
    · exact ⟨4, by decide, h⟩
    · exact ⟨5, by decide, h⟩
  · rintro ⟨j, hj, h⟩
    rcases j with _ | _ | _ | _ | _ | _ | j
    · exact .inl h
    · exact .inr (.inl h)
    · exact .inr (.inr (.inl h))
    · exact .inr (.inr (.inr (.inl h)))
    · exact .inr (.inr (.inr (.inr (.inl h))))
    · exact .inr (.inr (.inr (.inr (.inr h))))
    · omega
/-- Every unit of a chain was let in. -/
theorem ext_at {M : HM} {bad : Nat} : ∀ {k i p : Nat} {s : List Nat}, s ∈ M.ext bad k i p → ∀ u ∈ s, ∃ i' p', u ∈ M.us bad i' p'
  | 0, i, p, s, h, u, hu => by simp [HM.ext] at h; subst h; cases hu
  | k + 1, i, p, [], h, u, hu => by cases hu
  | k + 1, i, p, v :: s, h, u, hu => by
    obtain ⟨h1, h2⟩ := mem_ext_cons.1 h
    rcases List.mem_cons.1 hu with rfl | hu
    · exact ⟨i, p, h1⟩
    · exact ext_at h2 u hu
theorem us_bad {M : HM} (hM : M.ok) {bad i p u : Nat} (h : u ∈ M.us bad i p) : bad.testBit u = false := by
  have h2 := (mem_us.1 h).2
  rw [set_bit hM] at h2
  cases hb : bad.testBit u with
  | false => rfl
  | true => rw [hb] at h2; simp at h2
theorem pad_mem {s : List Nat} {j k : Nat} (h : padF s j = (k : Int)) : k ∈ s := by
  unfold padF at h
  split at h
  · rename_i hj
    rw [List.getD_eq_getElem?_getD, List.getElem?_eq_getElem hj] at h
    have : s[j] = k := by dsimp only [Option.getD_some] at h; omega
    rw [← this]; exact List.getElem_mem _
  · omega
theorem chu_bad {M : HM} (hM : M.ok) {bad n : Nat} (hb : bad < 65536) {s : List Nat} (h : s ∈ M.ext bad n 0 0) : chu (padF s) &&& bad = 0 := by
  rw [Nat.and_comm]
  refine (set_zero (and16 (chu_lt _))).2 fun k hk => ?_
  rw [Nat.testBit_and, Bool.and_comm]
  cases h1 : (chu (padF s)).testBit k with
  | false => rfl
  | true =>
    obtain ⟨j, hj, h2⟩ := (chu_bit _ hk).1 h1
    obtain ⟨i, p, h3⟩ := ext_at h k (pad_mem h2)
    rw [us_bad hM h3]; rfl
theorem pad_I8 {M : HM} {bad n : Nat} {s : List Nat} (h : s ∈ M.ext bad n 0 0) : ∀ i, I8 (padF s i) := fun i => by
  unfold padF I8
  split
  · rename_i hi
    have := ext_lt h _ (List.getElem_mem hi)
    rw [List.getD_eq_getElem?_getD, List.getElem?_eq_getElem hi]
    dsimp only [Option.getD_some]
    omega
  · omega
/-! The example. -/
def L0 : Nat → Nat
  | 1 => 16
  | 2 => 24
  | _ => 0
def M0 : HM := ⟨[6, 24], L0⟩
theorem M0_ok : M0.ok := ⟨by decide, fun j => by unfold M0 L0; dsimp only; split <;> decide⟩
theorem lay_0 (h b : Nat) (w : World) (hr : IRt h .u16 w (some ⟨b, 0, none⟩) 2 [6, 24]) : RetX Tryd.prog 41 [.slB h b 0 2 2, .agg (linkV L0)] w [] (LayR 91 92 93 2 [6, 24] L0) :=
  ⟨(lay_X 91 92 93 [6, 24] L0 h (some ⟨b, 0, none⟩) 2 2 2 w (rrw_irt hr) (by decide) rfl (by decide) (by decide)).go⟩
theorem bof (zs : List Int) (k : Nat) (hk : withN 0 zs = k) (h b n : Nat) (w : World) (hn : n ≤ 100) (hr : IRt h .i64 w (some ⟨b, 0, none⟩) n zs) : RetS Tryd.prog 49 [.slB h b 0 n n] w (setV k) := hk ▸ of_B h b zs n n w hr (by omega)
theorem srch_0 (r : Option (List Nat)) (bad : Nat) (hb : bad < 65536) (h1 : nearF M0 (fun _ => -1) bad 2 = r) (h : Nat) (A : Option Addr) (c : Nat) (w : World) (ht : Tz w) (hr : RRw w A 2 [6, 24]) :
    RetS Tryd.prog 62 [mapSV h A 2 c L0, setV bad] w (nearR r) := by subst h1; exact search_S M0 h A 2 c bad w ht M0_ok hb hr (by decide)
theorem awake18_S (w : World) (ht : Tz w) : RetS Tryd.prog 40 [] w (.lit true) := by
  refine ret_x tab_ok Tryd.func40 rfl Tryd.ntmps40 (by rfl) ?_; simp only [argX, Nat.reduceAdd, Nat.zero_add]; conv => whnf
  repeat' (first | (refine run_c tab_ok ?_; conv => whnf) | (refine side_id ?_; refine side_i (by first | rfl | exact ⟨rfl, rfl, rfl, rfl⟩ | trivial | (simp [allOne, partsOne, Value.cells, Value.oneCell']; done) | fail) ?_; conv => whnf) | (refine ar_id ?_; first | (refine ar_in (by (first | (simp only [Int.reduceAdd, Int.reduceSub, Int.reduceMul, Int.reduceNeg, Int.reduceMod, Int.reduceDiv, Int.reduceTMod, Int.reduceTDiv, Int.zero_add, Int.add_zero] <;> rfl) | rfl)) (by (dsimp only [inR]; first | decide | omega)) ?_; conv => whnf)) | (refine new_i ?_; intro _; conv => whnf) | (refine br_id ?_; first | (refine br_t (by first | decide | omega | (with_reducible rfl) | fail | (simp only [cellEq, toB]; omega) | (simp only [cellEq, toB]; simp; done) | fail) ?_; conv => whnf) | (refine br_f (by first | decide | omega | (with_reducible exact Bool.false_ne_true) | (with_reducible refine not_not_intro ?_; fail) | (simp only [cellEq, toB]; omega) | (simp only [cellEq, toB]; simp; done) | fail) ?_; conv => whnf) | ((refine br_any (fun h => ?_) (fun h => ?_) <;> (try simp only [cellEq, toB, Bool.not_eq_true, Bool.not_eq_false] at h) <;> (try (exfalso; first | omega | contradiction | (simp at h; done) | fail); done) <;> conv => whnf))) | (refine ix_id ?_; first | (refine ix_lit (by first | decide | omega) (by (first | (simp only [Nat.zero_add, Nat.add_zero, Nat.mul_one, Nat.reduceAdd, Nat.reduceMul, Int.reduceToNat, Int.toNat_natCast, Int.toNat_zero, Int.toNat_one, Nat.zero_mul] <;> rfl) | rfl)) (by rfl) ?_; conv => whnf) | (refine ix_sym (by omega) ?_; conv => whnf)) | (refine lcall_id ?_; first | (refine lcall_ret (fun w' hl => bof [4] 16 (by rfl) _ _ _ w' (by decide) (irow_tag hl (by rfl) (by rfl))) ?_; conv => whnf) | (refine lcall_ret (fun w' hl => bof [3, 4] 24 (by rfl) _ _ _ w' (by decide) (irow_tag hl (by rfl) (by rfl))) ?_; conv => whnf) | (refine lcall_ret (fun w' hl => bof [1, 2] 6 (by rfl) _ _ _ w' (by decide) (irow_tag hl (by rfl) (by rfl))) ?_; conv => whnf) | (refine lcall_ret (fun w' hl => bof [1] 2 (by rfl) _ _ _ w' (by decide) (irow_tag hl (by rfl) (by rfl))) ?_; conv => whnf) | (refine lcall_mk (fun w' hl => lay_0 _ _ w' (irow_tag hl (by rfl) (by rfl))) ?_; (rintro _ _ mm ⟨A1, c1, A2, c2, Ls, rfl, rfl, hLs, hf1, hf2, hlen⟩ hmm; simp only [List.cons_append, List.nil_append] at hmm; subst hmm; conv => whnf)) | (refine lcall_ret (fun w' hl => srch_0 (some [1, 4]) 0 (by decide) (by rfl) _ _ _ w' (ht.loc hl) (rrw_of hl (by (first | ((repeat (first | (with_reducible exact am_blk) | (with_reducible exact am_row) | (with_reducible exact am_blkV) | (with_reducible exact am_oth) | (with_reducible apply am_tail))); done) | ((repeat (first | exact am_row | exact am_blk | exact am_blkV | exact am_oth | apply am_tail)); done) | fail)) (by rfl))) ?_; conv => whnf) | (refine lcall_ret (fun w' hl => srch_0 (some [2, 3]) 16 (by decide) (by rfl) _ _ _ w' (ht.loc hl) (rrw_of hl (by (first | ((repeat (first | (with_reducible exact am_blk) | (with_reducible exact am_row) | (with_reducible exact am_blkV) | (with_reducible exact am_oth) | (with_reducible apply am_tail))); done) | ((repeat (first | exact am_row | exact am_blk | exact am_blkV | exact am_oth | apply am_tail)); done) | fail)) (by rfl))) ?_; conv => whnf) | (refine lcall_ret (fun w' hl => has_S 2 1 w' (by decide)) ?_; conv => whnf)) | (refine lload_id ?_; first | (refine load_old _ (by with_reducible assumption) (by simp; done) ?_; conv => whnf)) | (refine ex_id ?_; first | (refine ex_z (by (first | (simp only [Int.reduceAdd, Int.reduceSub, Int.reduceMul, Int.reduceNeg, Int.reduceMod, Int.reduceDiv, Int.reduceTMod, Int.reduceTDiv, Int.zero_add, Int.add_zero] <;> rfl) | rfl)) ?_; conv => whnf)) | (refine sh_id ?_; first | (refine sh_z (by omega) (by (first | (simp only [Int.reduceAdd, Int.reduceSub, Int.reduceMul, Int.reduceNeg, Int.reduceMod, Int.reduceDiv, Int.reduceTMod, Int.reduceTDiv, Int.zero_add, Int.add_zero] <;> rfl) | rfl)) ?_; conv => whnf)) | (refine quo_id ?_; first | (refine quo_in (by omega) (by (first | (simp only [Int.reduceAdd, Int.reduceSub, Int.reduceMul, Int.reduceNeg, Int.reduceMod, Int.reduceDiv, Int.reduceTMod, Int.reduceTDiv, Int.zero_add, Int.add_zero] <;> rfl) | rfl)) (by (dsimp only [inR]; first | decide | omega)) ?_; conv => whnf) | (refine quo_t (by omega) (by (dsimp only [inR]; first | decide | omega)) ?_; conv => whnf)) | (refine rem_id ?_; first | (refine rem_in (by omega) (by (first | (simp only [Int.reduceAdd, Int.reduceSub, Int.reduceMul, Int.reduceNeg, Int.reduceMod, Int.reduceDiv, Int.reduceTMod, Int.reduceTDiv, Int.zero_add, Int.add_zero] <;> rfl) | rfl)) ?_; conv => whnf) | (refine rem_t (by omega) ?_; conv => whnf)) | (refine app_id ?_; refine app_i (by (first | (simp only [Nat.zero_add, Nat.add_zero, Nat.mul_one, Nat.reduceAdd, Nat.reduceMul, Int.reduceToNat, Int.toNat_natCast, Int.toNat_zero, Int.toNat_one, Nat.zero_mul] <;> rfl) | rfl)) (by (first | (simp only [List.nil_append, List.cons_append, List.append_nil] <;> rfl) | rfl)) (by first | omega | (change _ * 1 ≤ _; omega) | (change _ * 8 ≤ _; omega) | (change _ * 2 ≤ _; omega) | (change _ * 4 ≤ _; omega) | (change _ * 16 ≤ _; omega) | (change _ * 24 ≤ _; omega) | (change _ * 32 ≤ _; omega) | (change _ * 40 ≤ _; omega)) (by first | omega | decide) ?_; intro _ _ _; conv => whnf) | (refine mk_id ?_; first | (refine mk_lit (by rfl) (by rfl) (by decide) (by rfl) ?_; conv => whnf) | (refine mk_sym _ (by first | rfl | omega) (by first | rfl | omega) (by omega) (by omega) ?_; conv => whnf)) | (refine x_rnd ?_) | (refine x_rnd' ?_) | (refine xdrw_id ?_; first | (refine x_drw tab_ok (id := 3) [] [] [0, 1, 2, 3, 4, 5, 6, 7, 8, 9, 10, 11, 12, 13] followsMixed (by kernel_rfl) (by rfl) (by rfl) ?_; conv => whnf) | (refine x_drw tab_ok (id := 5) [] [] [0, 1, 2, 3, 4, 5, 6, 7, 8, 9] followsMixed (by kernel_rfl) (by rfl) (by rfl) ?_; conv => whnf)))
  (refine fin_ret ?_)
  rfl
end Go.Proofs.YtihboegopigkmaaDoor
