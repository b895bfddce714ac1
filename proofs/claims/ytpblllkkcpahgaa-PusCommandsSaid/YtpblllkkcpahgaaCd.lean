/- Sums that show what was spoilt: of bytes, appended, held against. -/
import Derived.Test.YtpblllkkcpahgaaCc
namespace Go.Proofs.Ytpblllkkcpahgaa
set_option linter.unusedSimpArgs false
set_option linter.unusedVariables false
set_option linter.unnecessarySimpa false
set_option maxRecDepth 100000
open Go.RowKit

theorem AllU8.getN {xs : List Int} (h : AllU8 xs) (j : Nat) : (xs.getD j 0).toNat < 256 ∧ ((xs.getD j 0).toNat : Int) = xs.getD j 0 := by
  have := h.get j
  omega
theorem all_get {L : List BL} (h : AllU8 (BLs.all L)) (j : Nat) : AllU8 (L.getD j (none, 0, [])).2.2 := by
  by_cases hj : j < L.length
  · intro x hx
    refine h x (List.mem_flatMap.2 ⟨L[j], List.getElem_mem _, ?_⟩)
    simpa [List.getD, List.getElem?_eq_getElem hj] using hx
  · simp [List.getD, List.getElem?_eq_none (Nat.le_of_not_lt hj)]; exact AllU8.nil
theorem all_take {L : List BL} (h : AllU8 (BLs.all L)) (j : Nat) : AllU8 (BLs.all (L.take j)) := by
  intro x hx
  obtain ⟨r, hr, hx⟩ := List.mem_flatMap.1 hx
  exact h x (List.mem_flatMap.2 ⟨r, List.mem_of_mem_take hr, hx⟩)
theorem crcF_append (s : Nat) (xs ys : List Int) : crcF s (xs ++ ys) = crcF (crcF s xs) ys := by simp [crcF]
theorem xor_tab {s b : Nat} (hs : s < 65536) (hb : b < 256) : bits .xor .u16 ((s : Int) * 256 % 65536) ((st8 (((s / 256) ^^^ b) * 256) : Nat) : Int) = ((crcStep s b : Nat) : Int) := by
  have h1 : (s / 256) ^^^ b < 256 := Nat.xor_lt_two_pow (n := 8) (by omega) hb
  have h2 : ((s : Int) * 256 % 65536) = ((s * 256 % 65536 : Nat) : Int) := by omega
  rw [h2, xor_u16 (Nat.mod_lt _ (by decide)) (st8_lt (by omega)), crc_table hs hb]
theorem xor_ix {s : Nat} {x : Int} (hs : s < 65536) (hx : 0 ≤ x ∧ x < 256) : bits .xor .u8 ((s : Int) / 256) x = ((s / 256 ^^^ x.toNat : Nat) : Int) := by
  have h2 : ((s : Int) / 256) = ((s / 256 : Nat) : Int) := by omega
  have h3 : x = ((x.toNat : Nat) : Int) := by omega
  rw [h2]
  conv => lhs; rw [h3]
  exact xor_u8 (by omega) (by omega)
theorem tabS_at {i : Nat} (h : i < 256) : (dens tabS)[0 + ((i : Int)).toNat * 1]? = some (SV.int .u16 ((st8 (i * 256) : Nat) : Int)).den := by
  rw [Int.toNat_natCast, Nat.zero_add, Nat.mul_one]
  exact tabS_get h
theorem sum_S (h b k : Nat) (L : List BL) (w : World) (hL : BLt h w b L) (hk : L.length = k) (hu : AllU8 (BLs.all L)) (htot : (BLs.all L).length ≤ 1000000000) (hk2 : k ≤ 1000) :
    RetS Try.prog 78 [.agg tabS, .slB h b 0 k k] w (u16 (crc (BLs.all L) : Nat)) := by
  have hL : BLs w b L := hL
  unfold crc
  refine ret_x tab_ok Try.func78 rfl Try.ntmps78 (by rfl) ?_; simp only [argX, Nat.reduceAdd, Nat.zero_add]; conv => whnf
  repeat' (first
    | (((first | rw [show rdX ti_119.agg ti_119.sz tabS 0 = some (.agg tabS) from tabS_rd] | rw [show lenX tabS ti_119.sz = true from tabS_len] | rw [show takeX ti_119.sz tabS = some tabS from tabS_take] | rw [tabS_val] | rw [tabS_take] | rw [tabS_len] | rw [splX_tab _ rfl]); conv => whnf))
    | (refine run_c tab_ok ?_; conv => whnf)
    | (refine side_id ?_; refine side_i (by first | rfl | exact ⟨rfl, rfl, rfl, rfl⟩ | trivial | (simp [allOne, partsOne, Value.cells, Value.oneCell']; done) | fail) ?_; conv => whnf)
    | (refine ar_id ?_; first
      | (refine ar_in (by (first | (simp only [Int.reduceAdd, Int.reduceSub, Int.reduceMul, Int.reduceNeg, Int.reduceMod, Int.reduceDiv, Int.reduceTMod, Int.reduceTDiv, Int.zero_add, Int.add_zero]; done) | (simp only [Int.reduceAdd, Int.reduceSub, Int.reduceMul, Int.reduceNeg, Int.reduceMod, Int.reduceDiv, Int.reduceTMod, Int.reduceTDiv, Int.zero_add, Int.add_zero]; rfl) | rfl)) (by (dsimp only [inR]; first | decide | omega)) ?_; conv => whnf)
      | (fail))
    | (refine new_i ?_; intro _; conv => whnf)
    | (refine br_id ?_; first
      | (refine br_t (by first | decide | omega | (with_reducible rfl) | fail | (simp only [cellEq, toB]; omega) | (simp only [cellEq, toB]; simp; done) | fail) ?_; conv => whnf)
      | (refine br_f (by first | decide | omega | (with_reducible exact Bool.false_ne_true) | (with_reducible refine not_not_intro ?_; fail) | (simp only [cellEq, toB]; omega) | (simp only [cellEq, toB]; simp; done) | fail) ?_; conv => whnf)
      | ((refine br_any (fun h => ?_) (fun h => ?_) <;> (try simp only [cellEq, toB, Bool.not_eq_true, Bool.not_eq_false] at h) <;> (try (exfalso; first | omega | contradiction | (simp at h; done) | fail); done) <;> conv => whnf)))
    | (refine ix_id ?_; first
      | (refine ix_lit (by first | decide | omega) (by (first | (simp only [Nat.zero_add, Nat.add_zero, Nat.mul_one, Nat.reduceAdd, Nat.reduceMul, Int.reduceToNat, Int.toNat_natCast, Int.toNat_zero, Int.toNat_one, Nat.zero_mul]; done) | (simp only [Nat.zero_add, Nat.add_zero, Nat.mul_one, Nat.reduceAdd, Nat.reduceMul, Int.reduceToNat, Int.toNat_natCast, Int.toNat_zero, Int.toNat_one, Nat.zero_mul]; rfl) | rfl)) (by rfl) ?_; conv => whnf)
      | (refine ix_sym (by omega) ?_; conv => whnf))
    | (refine lcall_id ?_; fail)
    | (refine lload_id ?_; first
      | (first | (refine load_old _ hc (by simp; done) ?_; conv => whnf) | (refine load_old _ (by with_reducible assumption) (by simp; done) ?_; conv => whnf) | (refine load_atM _ (by (first | ((repeat (first | (with_reducible exact am_blk) | (with_reducible exact am_row) | (with_reducible exact am_blkV) | (with_reducible exact am_oth) | (with_reducible apply am_tail))); done) | ((repeat (first | exact am_row | exact am_blk | exact am_blkV | apply am_tail)); done))) (tabS_at hix) ?_; conv => whnf))
      | (refine load_old _ (by with_reducible assumption) (by simp; done) ?_; conv => whnf))
    | (refine lixs_id ?_; (refine ixs_nat hrj.1 (by omega) ?_; intro _ _ _; conv => whnf))
    | (refine ex_id ?_; first
      | (first | (with_reducible refine ex_z (xor_ix hs hub) ?_; conv => whnf) | (with_reducible refine ex_z (xor_tab hs (by omega)) ?_; conv => whnf))
      | (refine ex_z (by (first | (simp only [Int.reduceAdd, Int.reduceSub, Int.reduceMul, Int.reduceNeg, Int.reduceMod, Int.reduceDiv, Int.reduceTMod, Int.reduceTDiv, Int.zero_add, Int.add_zero]; done) | (simp only [Int.reduceAdd, Int.reduceSub, Int.reduceMul, Int.reduceNeg, Int.reduceMod, Int.reduceDiv, Int.reduceTMod, Int.reduceTDiv, Int.zero_add, Int.add_zero]; rfl) | rfl)) ?_; conv => whnf))
    | (refine sh_id ?_; first
      | (first | (refine shl_litW 256 (by decide) (by decide) (IntKind.wrap_u16 _) ?_; conv => whnf) | (refine shr_litE 256 (by decide) (by decide) rfl ?_; conv => whnf))
      | (refine sh_z (by omega) (by (first | (simp only [Int.reduceAdd, Int.reduceSub, Int.reduceMul, Int.reduceNeg, Int.reduceMod, Int.reduceDiv, Int.reduceTMod, Int.reduceTDiv, Int.zero_add, Int.add_zero]; done) | (simp only [Int.reduceAdd, Int.reduceSub, Int.reduceMul, Int.reduceNeg, Int.reduceMod, Int.reduceDiv, Int.reduceTMod, Int.reduceTDiv, Int.zero_add, Int.add_zero]; rfl) | rfl)) ?_; conv => whnf))
    | (refine quo_id ?_; first
      | (refine quo_in (by omega) (by (first | (simp only [Int.reduceAdd, Int.reduceSub, Int.reduceMul, Int.reduceNeg, Int.reduceMod, Int.reduceDiv, Int.reduceTMod, Int.reduceTDiv, Int.zero_add, Int.add_zero]; done) | (simp only [Int.reduceAdd, Int.reduceSub, Int.reduceMul, Int.reduceNeg, Int.reduceMod, Int.reduceDiv, Int.reduceTMod, Int.reduceTDiv, Int.zero_add, Int.add_zero]; rfl) | rfl)) (by (dsimp only [inR]; first | decide | omega)) ?_; conv => whnf)
      | (refine quo_t (by omega) (by (dsimp only [inR]; first | decide | omega)) ?_; conv => whnf))
    | (refine rem_id ?_; first
      | (refine rem_in (by omega) (by (first | (simp only [Int.reduceAdd, Int.reduceSub, Int.reduceMul, Int.reduceNeg, Int.reduceMod, Int.reduceDiv, Int.reduceTMod, Int.reduceTDiv, Int.zero_add, Int.add_zero]; done) | (simp only [Int.reduceAdd, Int.reduceSub, Int.reduceMul, Int.reduceNeg, Int.reduceMod, Int.reduceDiv, Int.reduceTMod, Int.reduceTDiv, Int.zero_add, Int.add_zero]; rfl) | rfl)) ?_; conv => whnf)
      | (refine rem_t (by omega) ?_; conv => whnf))
    | (refine app_id ?_; refine app_i (by (first | (simp only [Nat.zero_add, Nat.add_zero, Nat.mul_one, Nat.reduceAdd, Nat.reduceMul, Int.reduceToNat, Int.toNat_natCast, Int.toNat_zero, Int.toNat_one, Nat.zero_mul]; done) | (simp only [Nat.zero_add, Nat.add_zero, Nat.mul_one, Nat.reduceAdd, Nat.reduceMul, Int.reduceToNat, Int.toNat_natCast, Int.toNat_zero, Int.toNat_one, Nat.zero_mul]; rfl) | rfl)) (by (first | (simp only [List.nil_append, List.cons_append, List.append_nil]; done) | (simp only [List.nil_append, List.cons_append, List.append_nil]; rfl) | rfl)) (by first | omega | (change _ * 1 ≤ _; omega) | (change _ * 8 ≤ _; omega) | (change _ * 2 ≤ _; omega) | (change _ * 4 ≤ _; omega) | (change _ * 16 ≤ _; omega) | (change _ * 24 ≤ _; omega) | (change _ * 32 ≤ _; omega) | (change _ * 40 ≤ _; omega)) (by first | omega | decide) ?_; intro _ _ _; conv => whnf)
    | (refine mk_id ?_; first | (refine mk_lit (by rfl) (by rfl) (by decide) (by rfl) ?_; conv => whnf) | (refine mk_sym _ (by first | rfl | omega) (by first | rfl | omega) (by omega) (by omega) ?_; conv => whnf))
    | (refine sl_id ?_; fail)
    | (refine eff_id ?_; fail)
    | (refine val_id ?_; fail)
    | (refine x_rnd ?_)
    | (refine x_rnd' ?_)
    | (refine xdrw_id ?_; fail))
  refine x_loopA [] (fun j : Nat => [(12, i64 j), (5, u16 (crcF 65535 (BLs.all (L.take j)) : Nat))]) (fun _ => []) (fun j => j ≤ k) (fun j => k - j) 0 (by rfl) (by rfl) (by rfl) (by omega) (by (repeat (first | exact trivial | ((conv => whnf); refine And.intro (by first | rfl | exact congrArg (Value.int _) (by omega)) ?_)))) (by (repeat (first | exact trivial | ((conv => whnf); refine And.intro (by rfl) ?_)))) ?_
  rintro j hj
  dsimp only [appF, appM]
  by_cases hlt : j < k
  · have hc := bls_cell hL (show j < L.length by omega)
    have hrj := hL.2 (L.getD j (none, 0, [])) (by simp [List.getD, List.getElem?_eq_getElem (show j < L.length by omega)])
    have huj := all_get hu j
    have hs0 := crcF_lt (s := 65535) (by decide) (all_take hu j)
    have e := all_snoc L j (by omega)
    obtain ⟨r, hr⟩ : ∃ r, L.getD j (none, 0, []) = r := ⟨_, rfl⟩
    rw [hr] at hc hrj huj e
    have h2 := all_le L (j + 1)
    have h3 : (BLs.all (L.take (j + 1))).length = (BLs.all (L.take j)).length + r.2.2.length := by rw [e, List.length_append]
    obtain ⟨s0, hs1⟩ : ∃ s, crcF 65535 (BLs.all (L.take j)) = s := ⟨_, rfl⟩
    rw [hs1] at hs0 ⊢
    repeat' (first
      | (((first | rw [show rdX ti_119.agg ti_119.sz tabS 0 = some (.agg tabS) from tabS_rd] | rw [show lenX tabS ti_119.sz = true from tabS_len] | rw [show takeX ti_119.sz tabS = some tabS from tabS_take] | rw [tabS_val] | rw [tabS_take] | rw [tabS_len] | rw [splX_tab _ rfl]); conv => whnf))
      | (refine run_c tab_ok ?_; conv => whnf)
      | (refine side_id ?_; refine side_i (by first | rfl | exact ⟨rfl, rfl, rfl, rfl⟩ | trivial | (simp [allOne, partsOne, Value.cells, Value.oneCell']; done) | fail) ?_; conv => whnf)
      | (refine ar_id ?_; first
        | (refine ar_in (by (first | (simp only [Int.reduceAdd, Int.reduceSub, Int.reduceMul, Int.reduceNeg, Int.reduceMod, Int.reduceDiv, Int.reduceTMod, Int.reduceTDiv, Int.zero_add, Int.add_zero]; done) | (simp only [Int.reduceAdd, Int.reduceSub, Int.reduceMul, Int.reduceNeg, Int.reduceMod, Int.reduceDiv, Int.reduceTMod, Int.reduceTDiv, Int.zero_add, Int.add_zero]; rfl) | rfl)) (by (dsimp only [inR]; first | decide | omega)) ?_; conv => whnf)
        | (fail))
      | (refine new_i ?_; intro _; conv => whnf)
      | (refine br_id ?_; first
        | (refine br_t (by first | decide | omega | (with_reducible rfl) | fail | (simp only [cellEq, toB]; omega) | (simp only [cellEq, toB]; simp; done) | fail) ?_; conv => whnf)
        | (refine br_f (by first | decide | omega | (with_reducible exact Bool.false_ne_true) | (with_reducible refine not_not_intro ?_; fail) | (simp only [cellEq, toB]; omega) | (simp only [cellEq, toB]; simp; done) | fail) ?_; conv => whnf)
        | ((refine br_any (fun h => ?_) (fun h => ?_) <;> (try simp only [cellEq, toB, Bool.not_eq_true, Bool.not_eq_false] at h) <;> (try (exfalso; first | omega | contradiction | (simp at h; done) | fail); done) <;> conv => whnf)))
      | (refine ix_id ?_; first
        | (refine ix_lit (by first | decide | omega) (by (first | (simp only [Nat.zero_add, Nat.add_zero, Nat.mul_one, Nat.reduceAdd, Nat.reduceMul, Int.reduceToNat, Int.toNat_natCast, Int.toNat_zero, Int.toNat_one, Nat.zero_mul]; done) | (simp only [Nat.zero_add, Nat.add_zero, Nat.mul_one, Nat.reduceAdd, Nat.reduceMul, Int.reduceToNat, Int.toNat_natCast, Int.toNat_zero, Int.toNat_one, Nat.zero_mul]; rfl) | rfl)) (by rfl) ?_; conv => whnf)
        | (refine ix_sym (by omega) ?_; conv => whnf))
      | (refine lcall_id ?_; fail)
      | (refine lload_id ?_; first
        | (first | (refine load_old _ hc (by simp; done) ?_; conv => whnf) | (refine load_old _ (by with_reducible assumption) (by simp; done) ?_; conv => whnf) | (refine load_atM _ (by (first | ((repeat (first | (with_reducible exact am_blk) | (with_reducible exact am_row) | (with_reducible exact am_blkV) | (with_reducible exact am_oth) | (with_reducible apply am_tail))); done) | ((repeat (first | exact am_row | exact am_blk | exact am_blkV | apply am_tail)); done))) (tabS_at hix) ?_; conv => whnf))
        | (refine load_old _ (by with_reducible assumption) (by simp; done) ?_; conv => whnf))
      | (refine lixs_id ?_; (refine ixs_nat hrj.1 (by omega) ?_; intro _ _ _; conv => whnf))
      | (refine ex_id ?_; first
        | (first | (with_reducible refine ex_z (xor_ix hs hub) ?_; conv => whnf) | (with_reducible refine ex_z (xor_tab hs (by omega)) ?_; conv => whnf))
        | (refine ex_z (by (first | (simp only [Int.reduceAdd, Int.reduceSub, Int.reduceMul, Int.reduceNeg, Int.reduceMod, Int.reduceDiv, Int.reduceTMod, Int.reduceTDiv, Int.zero_add, Int.add_zero]; done) | (simp only [Int.reduceAdd, Int.reduceSub, Int.reduceMul, Int.reduceNeg, Int.reduceMod, Int.reduceDiv, Int.reduceTMod, Int.reduceTDiv, Int.zero_add, Int.add_zero]; rfl) | rfl)) ?_; conv => whnf))
      | (refine sh_id ?_; first
        | (first | (refine shl_litW 256 (by decide) (by decide) (IntKind.wrap_u16 _) ?_; conv => whnf) | (refine shr_litE 256 (by decide) (by decide) rfl ?_; conv => whnf))
        | (refine sh_z (by omega) (by (first | (simp only [Int.reduceAdd, Int.reduceSub, Int.reduceMul, Int.reduceNeg, Int.reduceMod, Int.reduceDiv, Int.reduceTMod, Int.reduceTDiv, Int.zero_add, Int.add_zero]; done) | (simp only [Int.reduceAdd, Int.reduceSub, Int.reduceMul, Int.reduceNeg, Int.reduceMod, Int.reduceDiv, Int.reduceTMod, Int.reduceTDiv, Int.zero_add, Int.add_zero]; rfl) | rfl)) ?_; conv => whnf))
      | (refine quo_id ?_; first
        | (refine quo_in (by omega) (by (first | (simp only [Int.reduceAdd, Int.reduceSub, Int.reduceMul, Int.reduceNeg, Int.reduceMod, Int.reduceDiv, Int.reduceTMod, Int.reduceTDiv, Int.zero_add, Int.add_zero]; done) | (simp only [Int.reduceAdd, Int.reduceSub, Int.reduceMul, Int.reduceNeg, Int.reduceMod, Int.reduceDiv, Int.reduceTMod, Int.reduceTDiv, Int.zero_add, Int.add_zero]; rfl) | rfl)) (by (dsimp only [inR]; first | decide | omega)) ?_; conv => whnf)
        | (refine quo_t (by omega) (by (dsimp only [inR]; first | decide | omega)) ?_; conv => whnf))
      | (refine rem_id ?_; first
        | (refine rem_in (by omega) (by (first | (simp only [Int.reduceAdd, Int.reduceSub, Int.reduceMul, Int.reduceNeg, Int.reduceMod, Int.reduceDiv, Int.reduceTMod, Int.reduceTDiv, Int.zero_add, Int.add_zero]; done) | (simp only [Int.reduceAdd, Int.reduceSub, Int.reduceMul, Int.reduceNeg, Int.reduceMod, Int.reduceDiv, Int.reduceTMod, Int.reduceTDiv, Int.zero_add, Int.add_zero]; rfl) | rfl)) ?_; conv => whnf)
        | (refine rem_t (by omega) ?_; conv => whnf))
      | (refine app_id ?_; refine app_i (by (first | (simp only [Nat.zero_add, Nat.add_zero, Nat.mul_one, Nat.reduceAdd, Nat.reduceMul, Int.reduceToNat, Int.toNat_natCast, Int.toNat_zero, Int.toNat_one, Nat.zero_mul]; done) | (simp only [Nat.zero_add, Nat.add_zero, Nat.mul_one, Nat.reduceAdd, Nat.reduceMul, Int.reduceToNat, Int.toNat_natCast, Int.toNat_zero, Int.toNat_one, Nat.zero_mul]; rfl) | rfl)) (by (first | (simp only [List.nil_append, List.cons_append, List.append_nil]; done) | (simp only [List.nil_append, List.cons_append, List.append_nil]; rfl) | rfl)) (by first | omega | (change _ * 1 ≤ _; omega) | (change _ * 8 ≤ _; omega) | (change _ * 2 ≤ _; omega) | (change _ * 4 ≤ _; omega) | (change _ * 16 ≤ _; omega) | (change _ * 24 ≤ _; omega) | (change _ * 32 ≤ _; omega) | (change _ * 40 ≤ _; omega)) (by first | omega | decide) ?_; intro _ _ _; conv => whnf)
      | (refine mk_id ?_; first | (refine mk_lit (by rfl) (by rfl) (by decide) (by rfl) ?_; conv => whnf) | (refine mk_sym _ (by first | rfl | omega) (by first | rfl | omega) (by omega) (by omega) ?_; conv => whnf))
      | (refine sl_id ?_; fail)
      | (refine eff_id ?_; fail)
      | (refine val_id ?_; fail)
      | (refine x_rnd ?_)
      | (refine x_rnd' ?_)
      | (refine xdrw_id ?_; fail))
    refine x_loopA [] (fun i : Nat => [(18, i64 i), (5, u16 (crcF s0 (r.2.2.take i) : Nat))]) (fun _ => []) (fun i => i ≤ r.2.2.length) (fun i => r.2.2.length - i) 0 (by rfl) (by rfl) (by rfl) (by omega) (by (repeat (first | exact trivial | ((conv => whnf); refine And.intro (by first | rfl | exact congrArg (Value.int _) (by omega)) ?_)))) (by (repeat (first | exact trivial | ((conv => whnf); refine And.intro (by rfl) ?_)))) ?_
    rintro i hi
    dsimp only [appF, appM]
    by_cases hlt2 : i < r.2.2.length
    · have hs := crcF_lt hs0 (huj.take i)
      have hub := huj.get i
      have hix : (crcF s0 (r.2.2.take i)) / 256 ^^^ (r.2.2.getD i 0).toNat < 256 := Nat.xor_lt_two_pow (n := 8) (by omega) (by omega)
      have e2 := crcF_take s0 hlt2
      obtain ⟨s1, hs2⟩ : ∃ s, crcF s0 (r.2.2.take i) = s := ⟨_, rfl⟩
      rw [hs2] at hs hix e2 ⊢
      repeat' (first
        | (((first | rw [show rdX ti_119.agg ti_119.sz tabS 0 = some (.agg tabS) from tabS_rd] | rw [show lenX tabS ti_119.sz = true from tabS_len] | rw [show takeX ti_119.sz tabS = some tabS from tabS_take] | rw [tabS_val] | rw [tabS_take] | rw [tabS_len] | rw [splX_tab _ rfl]); conv => whnf))
        | (refine run_c tab_ok ?_; conv => whnf)
        | (refine side_id ?_; refine side_i (by first | rfl | exact ⟨rfl, rfl, rfl, rfl⟩ | trivial | (simp [allOne, partsOne, Value.cells, Value.oneCell']; done) | fail) ?_; conv => whnf)
        | (refine ar_id ?_; first
          | (refine ar_in (by (first | (simp only [Int.reduceAdd, Int.reduceSub, Int.reduceMul, Int.reduceNeg, Int.reduceMod, Int.reduceDiv, Int.reduceTMod, Int.reduceTDiv, Int.zero_add, Int.add_zero]; done) | (simp only [Int.reduceAdd, Int.reduceSub, Int.reduceMul, Int.reduceNeg, Int.reduceMod, Int.reduceDiv, Int.reduceTMod, Int.reduceTDiv, Int.zero_add, Int.add_zero]; rfl) | rfl)) (by (dsimp only [inR]; first | decide | omega)) ?_; conv => whnf)
          | (fail))
        | (refine new_i ?_; intro _; conv => whnf)
        | (refine br_id ?_; first
          | (refine br_t (by first | decide | omega | (with_reducible rfl) | fail | (simp only [cellEq, toB]; omega) | (simp only [cellEq, toB]; simp; done) | fail) ?_; conv => whnf)
          | (refine br_f (by first | decide | omega | (with_reducible exact Bool.false_ne_true) | (with_reducible refine not_not_intro ?_; fail) | (simp only [cellEq, toB]; omega) | (simp only [cellEq, toB]; simp; done) | fail) ?_; conv => whnf)
          | ((refine br_any (fun h => ?_) (fun h => ?_) <;> (try simp only [cellEq, toB, Bool.not_eq_true, Bool.not_eq_false] at h) <;> (try (exfalso; first | omega | contradiction | (simp at h; done) | fail); done) <;> conv => whnf)))
        | (refine ix_id ?_; first
          | (refine ix_lit (by first | decide | omega) (by (first | (simp only [Nat.zero_add, Nat.add_zero, Nat.mul_one, Nat.reduceAdd, Nat.reduceMul, Int.reduceToNat, Int.toNat_natCast, Int.toNat_zero, Int.toNat_one, Nat.zero_mul]; done) | (simp only [Nat.zero_add, Nat.add_zero, Nat.mul_one, Nat.reduceAdd, Nat.reduceMul, Int.reduceToNat, Int.toNat_natCast, Int.toNat_zero, Int.toNat_one, Nat.zero_mul]; rfl) | rfl)) (by rfl) ?_; conv => whnf)
          | (refine ix_sym (by omega) ?_; conv => whnf))
        | (refine lcall_id ?_; fail)
        | (refine lload_id ?_; first
          | (first | (refine load_old _ hc (by simp; done) ?_; conv => whnf) | (refine load_old _ (by with_reducible assumption) (by simp; done) ?_; conv => whnf) | (refine load_atM _ (by (first | ((repeat (first | (with_reducible exact am_blk) | (with_reducible exact am_row) | (with_reducible exact am_blkV) | (with_reducible exact am_oth) | (with_reducible apply am_tail))); done) | ((repeat (first | exact am_row | exact am_blk | exact am_blkV | apply am_tail)); done))) (tabS_at hix) ?_; conv => whnf))
          | (refine load_old _ (by with_reducible assumption) (by simp; done) ?_; conv => whnf))
        | (refine lixs_id ?_; (refine ixs_nat hrj.1 (by omega) ?_; intro _ _ _; conv => whnf))
        | (refine ex_id ?_; first
          | (first | (with_reducible refine ex_z (xor_ix hs hub) ?_; conv => whnf) | (with_reducible refine ex_z (xor_tab hs (by omega)) ?_; conv => whnf))
          | (refine ex_z (by (first | (simp only [Int.reduceAdd, Int.reduceSub, Int.reduceMul, Int.reduceNeg, Int.reduceMod, Int.reduceDiv, Int.reduceTMod, Int.reduceTDiv, Int.zero_add, Int.add_zero]; done) | (simp only [Int.reduceAdd, Int.reduceSub, Int.reduceMul, Int.reduceNeg, Int.reduceMod, Int.reduceDiv, Int.reduceTMod, Int.reduceTDiv, Int.zero_add, Int.add_zero]; rfl) | rfl)) ?_; conv => whnf))
        | (refine sh_id ?_; first
          | (first | (refine shl_litW 256 (by decide) (by decide) (IntKind.wrap_u16 _) ?_; conv => whnf) | (refine shr_litE 256 (by decide) (by decide) rfl ?_; conv => whnf))
          | (refine sh_z (by omega) (by (first | (simp only [Int.reduceAdd, Int.reduceSub, Int.reduceMul, Int.reduceNeg, Int.reduceMod, Int.reduceDiv, Int.reduceTMod, Int.reduceTDiv, Int.zero_add, Int.add_zero]; done) | (simp only [Int.reduceAdd, Int.reduceSub, Int.reduceMul, Int.reduceNeg, Int.reduceMod, Int.reduceDiv, Int.reduceTMod, Int.reduceTDiv, Int.zero_add, Int.add_zero]; rfl) | rfl)) ?_; conv => whnf))
        | (refine quo_id ?_; first
          | (refine quo_in (by omega) (by (first | (simp only [Int.reduceAdd, Int.reduceSub, Int.reduceMul, Int.reduceNeg, Int.reduceMod, Int.reduceDiv, Int.reduceTMod, Int.reduceTDiv, Int.zero_add, Int.add_zero]; done) | (simp only [Int.reduceAdd, Int.reduceSub, Int.reduceMul, Int.reduceNeg, Int.reduceMod, Int.reduceDiv, Int.reduceTMod, Int.reduceTDiv, Int.zero_add, Int.add_zero]; rfl) | rfl)) (by (dsimp only [inR]; first | decide | omega)) ?_; conv => whnf)
          | (refine quo_t (by omega) (by (dsimp only [inR]; first | decide | omega)) ?_; conv => whnf))
        | (refine rem_id ?_; first
          | (refine rem_in (by omega) (by (first | (simp only [Int.reduceAdd, Int.reduceSub, Int.reduceMul, Int.reduceNeg, Int.reduceMod, Int.reduceDiv, Int.reduceTMod, Int.reduceTDiv, Int.zero_add, Int.add_zero]; done) | (simp only [Int.reduceAdd, Int.reduceSub, Int.reduceMul, Int.reduceNeg, Int.reduceMod, Int.reduceDiv, Int.reduceTMod, Int.reduceTDiv, Int.zero_add, Int.add_zero]; rfl) | rfl)) ?_; conv => whnf)
          | (refine rem_t (by omega) ?_; conv => whnf))
        | (refine app_id ?_; refine app_i (by (first | (simp only [Nat.zero_add, Nat.add_zero, Nat.mul_one, Nat.reduceAdd, Nat.reduceMul, Int.reduceToNat, Int.toNat_natCast, Int.toNat_zero, Int.toNat_one, Nat.zero_mul]; done) | (simp only [Nat.zero_add, Nat.add_zero, Nat.mul_one, Nat.reduceAdd, Nat.reduceMul, Int.reduceToNat, Int.toNat_natCast, Int.toNat_zero, Int.toNat_one, Nat.zero_mul]; rfl) | rfl)) (by (first | (simp only [List.nil_append, List.cons_append, List.append_nil]; done) | (simp only [List.nil_append, List.cons_append, List.append_nil]; rfl) | rfl)) (by first | omega | (change _ * 1 ≤ _; omega) | (change _ * 8 ≤ _; omega) | (change _ * 2 ≤ _; omega) | (change _ * 4 ≤ _; omega) | (change _ * 16 ≤ _; omega) | (change _ * 24 ≤ _; omega) | (change _ * 32 ≤ _; omega) | (change _ * 40 ≤ _; omega)) (by first | omega | decide) ?_; intro _ _ _; conv => whnf)
        | (refine mk_id ?_; first | (refine mk_lit (by rfl) (by rfl) (by decide) (by rfl) ?_; conv => whnf) | (refine mk_sym _ (by first | rfl | omega) (by first | rfl | omega) (by omega) (by omega) ?_; conv => whnf))
        | (refine sl_id ?_; fail)
        | (refine eff_id ?_; fail)
        | (refine val_id ?_; fail)
        | (refine x_rnd ?_)
        | (refine x_rnd' ?_)
        | (refine xdrw_id ?_; fail))
      refine x_roundA (i + 1) (by omega) (by omega) ?_ (by (repeat (first | exact trivial | ((conv => whnf); refine And.intro rfl ?_)))) (by (repeat (first | exact trivial | ((conv => whnf); refine And.intro (by rfl) ?_))))
      rw [e2]
      (repeat (first | exact trivial | ((conv => whnf); refine And.intro (by first | rfl | exact congrArg (Value.int _) (by omega)) ?_)))
    · obtain rfl : i = r.2.2.length := by omega
      rw [List.take_length]
      repeat' (first
        | (((first | rw [show rdX ti_119.agg ti_119.sz tabS 0 = some (.agg tabS) from tabS_rd] | rw [show lenX tabS ti_119.sz = true from tabS_len] | rw [show takeX ti_119.sz tabS = some tabS from tabS_take] | rw [tabS_val] | rw [tabS_take] | rw [tabS_len] | rw [splX_tab _ rfl]); conv => whnf))
        | (refine run_c tab_ok ?_; conv => whnf)
        | (refine side_id ?_; refine side_i (by first | rfl | exact ⟨rfl, rfl, rfl, rfl⟩ | trivial | (simp [allOne, partsOne, Value.cells, Value.oneCell']; done) | fail) ?_; conv => whnf)
        | (refine ar_id ?_; first
          | (refine ar_in (by (first | (simp only [Int.reduceAdd, Int.reduceSub, Int.reduceMul, Int.reduceNeg, Int.reduceMod, Int.reduceDiv, Int.reduceTMod, Int.reduceTDiv, Int.zero_add, Int.add_zero]; done) | (simp only [Int.reduceAdd, Int.reduceSub, Int.reduceMul, Int.reduceNeg, Int.reduceMod, Int.reduceDiv, Int.reduceTMod, Int.reduceTDiv, Int.zero_add, Int.add_zero]; rfl) | rfl)) (by (dsimp only [inR]; first | decide | omega)) ?_; conv => whnf)
          | (fail))
        | (refine new_i ?_; intro _; conv => whnf)
        | (refine br_id ?_; first
          | (refine br_t (by first | decide | omega | (with_reducible rfl) | fail | (simp only [cellEq, toB]; omega) | (simp only [cellEq, toB]; simp; done) | fail) ?_; conv => whnf)
          | (refine br_f (by first | decide | omega | (with_reducible exact Bool.false_ne_true) | (with_reducible refine not_not_intro ?_; fail) | (simp only [cellEq, toB]; omega) | (simp only [cellEq, toB]; simp; done) | fail) ?_; conv => whnf)
          | ((refine br_any (fun h => ?_) (fun h => ?_) <;> (try simp only [cellEq, toB, Bool.not_eq_true, Bool.not_eq_false] at h) <;> (try (exfalso; first | omega | contradiction | (simp at h; done) | fail); done) <;> conv => whnf)))
        | (refine ix_id ?_; first
          | (refine ix_lit (by first | decide | omega) (by (first | (simp only [Nat.zero_add, Nat.add_zero, Nat.mul_one, Nat.reduceAdd, Nat.reduceMul, Int.reduceToNat, Int.toNat_natCast, Int.toNat_zero, Int.toNat_one, Nat.zero_mul]; done) | (simp only [Nat.zero_add, Nat.add_zero, Nat.mul_one, Nat.reduceAdd, Nat.reduceMul, Int.reduceToNat, Int.toNat_natCast, Int.toNat_zero, Int.toNat_one, Nat.zero_mul]; rfl) | rfl)) (by rfl) ?_; conv => whnf)
          | (refine ix_sym (by omega) ?_; conv => whnf))
        | (refine lcall_id ?_; fail)
        | (refine lload_id ?_; first
          | (first | (refine load_old _ hc (by simp; done) ?_; conv => whnf) | (refine load_old _ (by with_reducible assumption) (by simp; done) ?_; conv => whnf) | (refine load_atM _ (by (first | ((repeat (first | (with_reducible exact am_blk) | (with_reducible exact am_row) | (with_reducible exact am_blkV) | (with_reducible exact am_oth) | (with_reducible apply am_tail))); done) | ((repeat (first | exact am_row | exact am_blk | exact am_blkV | apply am_tail)); done))) (tabS_at hix) ?_; conv => whnf))
          | (refine load_old _ (by with_reducible assumption) (by simp; done) ?_; conv => whnf))
        | (refine lixs_id ?_; (refine ixs_nat hrj.1 (by omega) ?_; intro _ _ _; conv => whnf))
        | (refine ex_id ?_; first
          | (first | (with_reducible refine ex_z (xor_ix hs hub) ?_; conv => whnf) | (with_reducible refine ex_z (xor_tab hs (by omega)) ?_; conv => whnf))
          | (refine ex_z (by (first | (simp only [Int.reduceAdd, Int.reduceSub, Int.reduceMul, Int.reduceNeg, Int.reduceMod, Int.reduceDiv, Int.reduceTMod, Int.reduceTDiv, Int.zero_add, Int.add_zero]; done) | (simp only [Int.reduceAdd, Int.reduceSub, Int.reduceMul, Int.reduceNeg, Int.reduceMod, Int.reduceDiv, Int.reduceTMod, Int.reduceTDiv, Int.zero_add, Int.add_zero]; rfl) | rfl)) ?_; conv => whnf))
        | (refine sh_id ?_; first
          | (first | (refine shl_litW 256 (by decide) (by decide) (IntKind.wrap_u16 _) ?_; conv => whnf) | (refine shr_litE 256 (by decide) (by decide) rfl ?_; conv => whnf))
          | (refine sh_z (by omega) (by (first | (simp only [Int.reduceAdd, Int.reduceSub, Int.reduceMul, Int.reduceNeg, Int.reduceMod, Int.reduceDiv, Int.reduceTMod, Int.reduceTDiv, Int.zero_add, Int.add_zero]; done) | (simp only [Int.reduceAdd, Int.reduceSub, Int.reduceMul, Int.reduceNeg, Int.reduceMod, Int.reduceDiv, Int.reduceTMod, Int.reduceTDiv, Int.zero_add, Int.add_zero]; rfl) | rfl)) ?_; conv => whnf))
        | (refine quo_id ?_; first
          | (refine quo_in (by omega) (by (first | (simp only [Int.reduceAdd, Int.reduceSub, Int.reduceMul, Int.reduceNeg, Int.reduceMod, Int.reduceDiv, Int.reduceTMod, Int.reduceTDiv, Int.zero_add, Int.add_zero]; done) | (simp only [Int.reduceAdd, Int.reduceSub, Int.reduceMul, Int.reduceNeg, Int.reduceMod, Int.reduceDiv, Int.reduceTMod, Int.reduceTDiv, Int.zero_add, Int.add_zero]; rfl) | rfl)) (by (dsimp only [inR]; first | decide | omega)) ?_; conv => whnf)
          | (refine quo_t (by omega) (by (dsimp only [inR]; first | decide | omega)) ?_; conv => whnf))
        | (refine rem_id ?_; first
          | (refine rem_in (by omega) (by (first | (simp only [Int.reduceAdd, Int.reduceSub, Int.reduceMul, Int.reduceNeg, Int.reduceMod, Int.reduceDiv, Int.reduceTMod, Int.reduceTDiv, Int.zero_add, Int.add_zero]; done) | (simp only [Int.reduceAdd, Int.reduceSub, Int.reduceMul, Int.reduceNeg, Int.reduceMod, Int.reduceDiv, Int.reduceTMod, Int.reduceTDiv, Int.zero_add, Int.add_zero]; rfl) | rfl)) ?_; conv => whnf)
          | (refine rem_t (by omega) ?_; conv => whnf))
        | (refine app_id ?_; refine app_i (by (first | (simp only [Nat.zero_add, Nat.add_zero, Nat.mul_one, Nat.reduceAdd, Nat.reduceMul, Int.reduceToNat, Int.toNat_natCast, Int.toNat_zero, Int.toNat_one, Nat.zero_mul]; done) | (simp only [Nat.zero_add, Nat.add_zero, Nat.mul_one, Nat.reduceAdd, Nat.reduceMul, Int.reduceToNat, Int.toNat_natCast, Int.toNat_zero, Int.toNat_one, Nat.zero_mul]; rfl) | rfl)) (by (first | (simp only [List.nil_append, List.cons_append, List.append_nil]; done) | (simp only [List.nil_append, List.cons_append, List.append_nil]; rfl) | rfl)) (by first | omega | (change _ * 1 ≤ _; omega) | (change _ * 8 ≤ _; omega) | (change _ * 2 ≤ _; omega) | (change _ * 4 ≤ _; omega) | (change _ * 16 ≤ _; omega) | (change _ * 24 ≤ _; omega) | (change _ * 32 ≤ _; omega) | (change _ * 40 ≤ _; omega)) (by first | omega | decide) ?_; intro _ _ _; conv => whnf)
        | (refine mk_id ?_; first | (refine mk_lit (by rfl) (by rfl) (by decide) (by rfl) ?_; conv => whnf) | (refine mk_sym _ (by first | rfl | omega) (by first | rfl | omega) (by omega) (by omega) ?_; conv => whnf))
        | (refine sl_id ?_; fail)
        | (refine eff_id ?_; fail)
        | (refine val_id ?_; fail)
        | (refine x_rnd ?_)
        | (refine x_rnd' ?_)
        | (refine xdrw_id ?_; fail))
      refine x_roundA (j + 1) (by omega) (by omega) ?_ (by (repeat (first | exact trivial | ((conv => whnf); refine And.intro rfl ?_)))) (by (repeat (first | exact trivial | ((conv => whnf); refine And.intro (by rfl) ?_))))
      rw [e, crcF_append, hs1]
      (repeat (first | exact trivial | ((conv => whnf); refine And.intro (by first | rfl | exact congrArg (Value.int _) (by omega)) ?_)))
  · obtain rfl : j = k := by omega
    rw [List.take_of_length_le (by omega)]
    repeat' (first
      | (((first | rw [show rdX ti_119.agg ti_119.sz tabS 0 = some (.agg tabS) from tabS_rd] | rw [show lenX tabS ti_119.sz = true from tabS_len] | rw [show takeX ti_119.sz tabS = some tabS from tabS_take] | rw [tabS_val] | rw [tabS_take] | rw [tabS_len] | rw [splX_tab _ rfl]); conv => whnf))
      | (refine run_c tab_ok ?_; conv => whnf)
      | (refine side_id ?_; refine side_i (by first | rfl | exact ⟨rfl, rfl, rfl, rfl⟩ | trivial | (simp [allOne, partsOne, Value.cells, Value.oneCell']; done) | fail) ?_; conv => whnf)
      | (refine ar_id ?_; first
        | (refine ar_in (by (first | (simp only [Int.reduceAdd, Int.reduceSub, Int.reduceMul, Int.reduceNeg, Int.reduceMod, Int.reduceDiv, Int.reduceTMod, Int.reduceTDiv, Int.zero_add, Int.add_zero]; done) | (simp only [Int.reduceAdd, Int.reduceSub, Int.reduceMul, Int.reduceNeg, Int.reduceMod, Int.reduceDiv, Int.reduceTMod, Int.reduceTDiv, Int.zero_add, Int.add_zero]; rfl) | rfl)) (by (dsimp only [inR]; first | decide | omega)) ?_; conv => whnf)
        | (fail))
      | (refine new_i ?_; intro _; conv => whnf)
      | (refine br_id ?_; first
        | (refine br_t (by first | decide | omega | (with_reducible rfl) | fail | (simp only [cellEq, toB]; omega) | (simp only [cellEq, toB]; simp; done) | fail) ?_; conv => whnf)
        | (refine br_f (by first | decide | omega | (with_reducible exact Bool.false_ne_true) | (with_reducible refine not_not_intro ?_; fail) | (simp only [cellEq, toB]; omega) | (simp only [cellEq, toB]; simp; done) | fail) ?_; conv => whnf)
        | ((refine br_any (fun h => ?_) (fun h => ?_) <;> (try simp only [cellEq, toB, Bool.not_eq_true, Bool.not_eq_false] at h) <;> (try (exfalso; first | omega | contradiction | (simp at h; done) | fail); done) <;> conv => whnf)))
      | (refine ix_id ?_; first
        | (refine ix_lit (by first | decide | omega) (by (first | (simp only [Nat.zero_add, Nat.add_zero, Nat.mul_one, Nat.reduceAdd, Nat.reduceMul, Int.reduceToNat, Int.toNat_natCast, Int.toNat_zero, Int.toNat_one, Nat.zero_mul]; done) | (simp only [Nat.zero_add, Nat.add_zero, Nat.mul_one, Nat.reduceAdd, Nat.reduceMul, Int.reduceToNat, Int.toNat_natCast, Int.toNat_zero, Int.toNat_one, Nat.zero_mul]; rfl) | rfl)) (by rfl) ?_; conv => whnf)
        | (refine ix_sym (by omega) ?_; conv => whnf))
      | (refine lcall_id ?_; fail)
      | (refine lload_id ?_; first
        | (first | (refine load_old _ hc (by simp; done) ?_; conv => whnf) | (refine load_old _ (by with_reducible assumption) (by simp; done) ?_; conv => whnf) | (refine load_atM _ (by (first | ((repeat (first | (with_reducible exact am_blk) | (with_reducible exact am_row) | (with_reducible exact am_blkV) | (with_reducible exact am_oth) | (with_reducible apply am_tail))); done) | ((repeat (first | exact am_row | exact am_blk | exact am_blkV | apply am_tail)); done))) (tabS_at hix) ?_; conv => whnf))
        | (refine load_old _ (by with_reducible assumption) (by simp; done) ?_; conv => whnf))
      | (refine lixs_id ?_; (refine ixs_nat hrj.1 (by omega) ?_; intro _ _ _; conv => whnf))
      | (refine ex_id ?_; first
        | (first | (with_reducible refine ex_z (xor_ix hs hub) ?_; conv => whnf) | (with_reducible refine ex_z (xor_tab hs (by omega)) ?_; conv => whnf))
        | (refine ex_z (by (first | (simp only [Int.reduceAdd, Int.reduceSub, Int.reduceMul, Int.reduceNeg, Int.reduceMod, Int.reduceDiv, Int.reduceTMod, Int.reduceTDiv, Int.zero_add, Int.add_zero]; done) | (simp only [Int.reduceAdd, Int.reduceSub, Int.reduceMul, Int.reduceNeg, Int.reduceMod, Int.reduceDiv, Int.reduceTMod, Int.reduceTDiv, Int.zero_add, Int.add_zero]; rfl) | rfl)) ?_; conv => whnf))
      | (refine sh_id ?_; first
        | (first | (refine shl_litW 256 (by decide) (by decide) (IntKind.wrap_u16 _) ?_; conv => whnf) | (refine shr_litE 256 (by decide) (by decide) rfl ?_; conv => whnf))
        | (refine sh_z (by omega) (by (first | (simp only [Int.reduceAdd, Int.reduceSub, Int.reduceMul, Int.reduceNeg, Int.reduceMod, Int.reduceDiv, Int.reduceTMod, Int.reduceTDiv, Int.zero_add, Int.add_zero]; done) | (simp only [Int.reduceAdd, Int.reduceSub, Int.reduceMul, Int.reduceNeg, Int.reduceMod, Int.reduceDiv, Int.reduceTMod, Int.reduceTDiv, Int.zero_add, Int.add_zero]; rfl) | rfl)) ?_; conv => whnf))
      | (refine quo_id ?_; first
        | (refine quo_in (by omega) (by (first | (simp only [Int.reduceAdd, Int.reduceSub, Int.reduceMul, Int.reduceNeg, Int.reduceMod, Int.reduceDiv, Int.reduceTMod, Int.reduceTDiv, Int.zero_add, Int.add_zero]; done) | (simp only [Int.reduceAdd, Int.reduceSub, Int.reduceMul, Int.reduceNeg, Int.reduceMod, Int.reduceDiv, Int.reduceTMod, Int.reduceTDiv, Int.zero_add, Int.add_zero]; rfl) | rfl)) (by (dsimp only [inR]; first | decide | omega)) ?_; conv => whnf)
        | (refine quo_t (by omega) (by (dsimp only [inR]; first | decide | omega)) ?_; conv => whnf))
      | (refine rem_id ?_; first
        | (refine rem_in (by omega) (by (first | (simp only [Int.reduceAdd, Int.reduceSub, Int.reduceMul, Int.reduceNeg, Int.reduceMod, Int.reduceDiv, Int.reduceTMod, Int.reduceTDiv, Int.zero_add, Int.add_zero]; done) | (simp only [Int.reduceAdd, Int.reduceSub, Int.reduceMul, Int.reduceNeg, Int.reduceMod, Int.reduceDiv, Int.reduceTMod, Int.reduceTDiv, Int.zero_add, Int.add_zero]; rfl) | rfl)) ?_; conv => whnf)
        | (refine rem_t (by omega) ?_; conv => whnf))
      | (refine app_id ?_; refine app_i (by (first | (simp only [Nat.zero_add, Nat.add_zero, Nat.mul_one, Nat.reduceAdd, Nat.reduceMul, Int.reduceToNat, Int.toNat_natCast, Int.toNat_zero, Int.toNat_one, Nat.zero_mul]; done) | (simp only [Nat.zero_add, Nat.add_zero, Nat.mul_one, Nat.reduceAdd, Nat.reduceMul, Int.reduceToNat, Int.toNat_natCast, Int.toNat_zero, Int.toNat_one, Nat.zero_mul]; rfl) | rfl)) (by (first | (simp only [List.nil_append, List.cons_append, List.append_nil]; done) | (simp only [List.nil_append, List.cons_append, List.append_nil]; rfl) | rfl)) (by first | omega | (change _ * 1 ≤ _; omega) | (change _ * 8 ≤ _; omega) | (change _ * 2 ≤ _; omega) | (change _ * 4 ≤ _; omega) | (change _ * 16 ≤ _; omega) | (change _ * 24 ≤ _; omega) | (change _ * 32 ≤ _; omega) | (change _ * 40 ≤ _; omega)) (by first | omega | decide) ?_; intro _ _ _; conv => whnf)
      | (refine mk_id ?_; first | (refine mk_lit (by rfl) (by rfl) (by decide) (by rfl) ?_; conv => whnf) | (refine mk_sym _ (by first | rfl | omega) (by first | rfl | omega) (by omega) (by omega) ?_; conv => whnf))
      | (refine sl_id ?_; fail)
      | (refine eff_id ?_; fail)
      | (refine val_id ?_; fail)
      | (refine x_rnd ?_)
      | (refine x_rnd' ?_)
      | (refine xdrw_id ?_; fail))
    (refine fin_ret ?_)
    rfl
theorem all_one (r : BL) : BLs.all [r] = r.2.2 := by simp [BLs.all]
theorem sum_T (h b k : Nat) (L : List BL) (w : World) (ys : List Int) (hL : BLt h w b L) (hk : L.length = k) (hys : BLs.all L = ys) (hu : AllU8 ys) (htot : ys.length ≤ 1000000000) (hk2 : k ≤ 1000) :
    RetS Try.prog 78 [.agg tabS, .slB h b 0 k k] w (u16 (crc ys : Nat)) := by
  subst hys
  exact sum_S h b k L w hL hk hu htot hk2
/-- With its sum. -/
def summed (zs : List Int) : List Int := zs ++ be2 (crc zs)
theorem append_X (tag : Nat) (h : Nat) (A : Option Addr) (n cp : Nat) (zs : List Int) (w : World) (hr : IRow .u8 w A n zs) (hn0 : A = none → cp = 0) (hn : n ≤ 1000000) (hu : AllU8 zs) :
    RetX Try.prog 64 [.agg tabS, .sl h A n cp] w [] (BRow tag (summed zs)) := by
  obtain rfl : zs.length = n := hr.1
  have hcl := crc_lt hu
  refine retX_x tab_ok (mem0 := []) Try.func64 rfl Try.ntmps64 (by rfl) (.init w) ?_; simp only [argX, Nat.reduceAdd, Nat.zero_add]; conv => whnf
  repeat' (first
    | (((first | rw [show rdX ti_119.agg ti_119.sz tabS 0 = some (.agg tabS) from tabS_rd] | rw [show lenX tabS ti_119.sz = true from tabS_len] | rw [show takeX ti_119.sz tabS = some tabS from tabS_take] | rw [tabS_val] | rw [tabS_take] | rw [tabS_len] | rw [splX_tab _ rfl]); conv => whnf))
    | (refine run_c tab_ok ?_; conv => whnf)
    | (refine side_id ?_; refine side_i (by first | rfl | exact ⟨rfl, rfl, rfl, rfl⟩ | trivial | (simp [allOne, partsOne, Value.cells, Value.oneCell']; done) | fail) ?_; conv => whnf)
    | (refine ar_id ?_; first
      | (refine ar_in (by (first | (simp only [Int.reduceAdd, Int.reduceSub, Int.reduceMul, Int.reduceNeg, Int.reduceMod, Int.reduceDiv, Int.reduceTMod, Int.reduceTDiv, Int.zero_add, Int.add_zero]; done) | (simp only [Int.reduceAdd, Int.reduceSub, Int.reduceMul, Int.reduceNeg, Int.reduceMod, Int.reduceDiv, Int.reduceTMod, Int.reduceTDiv, Int.zero_add, Int.add_zero]; rfl) | rfl)) (by (dsimp only [inR]; first | decide | omega)) ?_; conv => whnf)
      | (first | (refine ar_u8 ?_; conv => whnf)))
    | (refine new_i ?_; intro _; conv => whnf)
    | (refine br_id ?_; first
      | (refine br_t (by first | decide | omega | (with_reducible rfl) | fail | (simp only [cellEq, toB]; omega) | (simp only [cellEq, toB]; simp; done) | fail) ?_; conv => whnf)
      | (refine br_f (by first | decide | omega | (with_reducible exact Bool.false_ne_true) | (with_reducible refine not_not_intro ?_; fail) | (simp only [cellEq, toB]; omega) | (simp only [cellEq, toB]; simp; done) | fail) ?_; conv => whnf)
      | ((refine br_any (fun h => ?_) (fun h => ?_) <;> (try simp only [cellEq, toB, Bool.not_eq_true, Bool.not_eq_false] at h) <;> (try (exfalso; first | omega | contradiction | (simp at h; done) | fail); done) <;> conv => whnf)))
    | (refine ix_id ?_; first
      | (refine ix_lit (by first | decide | omega) (by (first | (simp only [Nat.zero_add, Nat.add_zero, Nat.mul_one, Nat.reduceAdd, Nat.reduceMul, Int.reduceToNat, Int.toNat_natCast, Int.toNat_zero, Int.toNat_one, Nat.zero_mul]; done) | (simp only [Nat.zero_add, Nat.add_zero, Nat.mul_one, Nat.reduceAdd, Nat.reduceMul, Int.reduceToNat, Int.toNat_natCast, Int.toNat_zero, Int.toNat_one, Nat.zero_mul]; rfl) | rfl)) (by rfl) ?_; conv => whnf)
      | (refine ix_sym (by omega) ?_; conv => whnf))
    | (refine lcall_id ?_; first | (refine lcall_ret (fun w' hloc => sum_T _ _ 1 [(A, cp, zs)] w' zs (bls_tag hloc (by rfl) (by rfl) (all_cons ⟨irow_loc hr hloc, hn0⟩ all_nil)) rfl (all_one _) hu (by omega) (by decide)) ?_; conv => whnf) | (refine lcall_mk (fun w' hloc => clone_X 700 _ _ _ _ _ w' (irow_loc hr hloc) hn0 (by omega)) ?_; (rintro _ _ mm ⟨A', c', rfl, rfl, hf⟩ hmm; simp only [List.cons_append, List.nil_append] at hmm; subst hmm; conv => whnf)))
    | (refine lload_id ?_; first
      | (fail)
      | (refine load_old _ (by with_reducible assumption) (by simp; done) ?_; conv => whnf))
    | (refine lixs_id ?_; fail)
    | (refine ex_id ?_; first
      | (fail)
      | (refine ex_z (by (first | (simp only [Int.reduceAdd, Int.reduceSub, Int.reduceMul, Int.reduceNeg, Int.reduceMod, Int.reduceDiv, Int.reduceTMod, Int.reduceTDiv, Int.zero_add, Int.add_zero]; done) | (simp only [Int.reduceAdd, Int.reduceSub, Int.reduceMul, Int.reduceNeg, Int.reduceMod, Int.reduceDiv, Int.reduceTMod, Int.reduceTDiv, Int.zero_add, Int.add_zero]; rfl) | rfl)) ?_; conv => whnf))
    | (refine sh_id ?_; first
      | (first | (refine shl_lit 256 (by decide) (by decide) (by (dsimp only [inR]; first | decide | omega)) ?_; conv => whnf) | (refine shr_litE 256 (by decide) (by decide) rfl ?_; conv => whnf))
      | (refine sh_z (by omega) (by (first | (simp only [Int.reduceAdd, Int.reduceSub, Int.reduceMul, Int.reduceNeg, Int.reduceMod, Int.reduceDiv, Int.reduceTMod, Int.reduceTDiv, Int.zero_add, Int.add_zero]; done) | (simp only [Int.reduceAdd, Int.reduceSub, Int.reduceMul, Int.reduceNeg, Int.reduceMod, Int.reduceDiv, Int.reduceTMod, Int.reduceTDiv, Int.zero_add, Int.add_zero]; rfl) | rfl)) ?_; conv => whnf))
    | (refine quo_id ?_; first
      | (refine quo_in (by omega) (by (first | (simp only [Int.reduceAdd, Int.reduceSub, Int.reduceMul, Int.reduceNeg, Int.reduceMod, Int.reduceDiv, Int.reduceTMod, Int.reduceTDiv, Int.zero_add, Int.add_zero]; done) | (simp only [Int.reduceAdd, Int.reduceSub, Int.reduceMul, Int.reduceNeg, Int.reduceMod, Int.reduceDiv, Int.reduceTMod, Int.reduceTDiv, Int.zero_add, Int.add_zero]; rfl) | rfl)) (by (dsimp only [inR]; first | decide | omega)) ?_; conv => whnf)
      | (refine quo_t (by omega) (by (dsimp only [inR]; first | decide | omega)) ?_; conv => whnf))
    | (refine rem_id ?_; first
      | (refine rem_in (by omega) (by (first | (simp only [Int.reduceAdd, Int.reduceSub, Int.reduceMul, Int.reduceNeg, Int.reduceMod, Int.reduceDiv, Int.reduceTMod, Int.reduceTDiv, Int.zero_add, Int.add_zero]; done) | (simp only [Int.reduceAdd, Int.reduceSub, Int.reduceMul, Int.reduceNeg, Int.reduceMod, Int.reduceDiv, Int.reduceTMod, Int.reduceTDiv, Int.zero_add, Int.add_zero]; rfl) | rfl)) ?_; conv => whnf)
      | (refine rem_t (by omega) ?_; conv => whnf))
    | (refine app_id ?_; refine app_i (by (first | (simp only [Nat.zero_add, Nat.add_zero, Nat.mul_one, Nat.reduceAdd, Nat.reduceMul, Int.reduceToNat, Int.toNat_natCast, Int.toNat_zero, Int.toNat_one, Nat.zero_mul]; done) | (simp only [Nat.zero_add, Nat.add_zero, Nat.mul_one, Nat.reduceAdd, Nat.reduceMul, Int.reduceToNat, Int.toNat_natCast, Int.toNat_zero, Int.toNat_one, Nat.zero_mul]; rfl) | rfl)) (by (first | (simp only [List.nil_append, List.cons_append, List.append_nil]; done) | (simp only [List.nil_append, List.cons_append, List.append_nil]; rfl) | rfl)) (by first | omega | (change _ * 1 ≤ _; omega) | (change _ * 8 ≤ _; omega) | (change _ * 2 ≤ _; omega) | (change _ * 4 ≤ _; omega) | (change _ * 16 ≤ _; omega) | (change _ * 24 ≤ _; omega) | (change _ * 32 ≤ _; omega) | (change _ * 40 ≤ _; omega)) (by first | omega | decide) ?_; intro _ _ _; conv => whnf)
    | (refine mk_id ?_; first | (refine mk_lit (by rfl) (by rfl) (by decide) (by rfl) ?_; conv => whnf) | (refine mk_sym _ (by first | rfl | omega) (by first | rfl | omega) (by omega) (by omega) ?_; conv => whnf))
    | (refine sl_id ?_; fail)
    | (refine eff_id ?_; fail)
    | (refine val_id ?_; fail)
    | (refine x_rnd ?_)
    | (refine x_rnd' ?_)
    | (refine xdrw_id ?_; fail))
  exact fin_row tag (by (repeat (first | exact trivial | ((conv => whnf); refine And.intro (by rfl) ?_)))) (by simp [summed, be2]) (by simp [summed, be2, dens, SV.den]) (by (first | ((repeat (first | (with_reducible exact am_blk) | (with_reducible exact am_row) | (with_reducible exact am_blkV) | (with_reducible exact am_oth) | (with_reducible apply am_tail))); done) | ((repeat (first | exact am_row | exact am_blk | exact am_blkV | apply am_tail)); done)))
/-- Is it its sum? -/
def rightB (zs : List Int) : Prop := 2 ≤ zs.length ∧ (crc (zs.take (zs.length - 2)) : Int) = zs.getD (zs.length - 2) 0 * 256 + zs.getD (zs.length - 1) 0
noncomputable instance (zs : List Int) : Decidable (rightB zs) := Classical.propDecidable _
theorem right_S (h : Nat) (A : Option Addr) (n cp : Nat) (zs : List Int) (w : World) (hr : IRow .u8 w A n zs) (hle : n ≤ cp) (hn0 : A = none → cp = 0) (hn : n ≤ 1000000) (hu : AllU8 zs) :
    RetS Try.prog 67 [.agg tabS, .sl h A n cp] w (.boo (decide (rightB zs))) := by
  obtain rfl : zs.length = n := hr.1
  have hcl := crc_lt (hu.take (zs.length - 2))
  have u0 := hu.get (zs.length - 2)
  have u1 := hu.get (zs.length - 1)
  have htl : (A, cp, zs.take (zs.length - 2)).2.2.length = zs.length - 2 := by show (zs.take (zs.length - 2)).length = _; rw [List.length_take]; omega
  have hbl : dens [.sl 701 A (zs.length - 2) cp] = [(A, cp, zs.take (zs.length - 2))].map BL.v := by show [Value.slice A (zs.length - 2) cp] = [Value.slice A (A, cp, zs.take (zs.length - 2)).2.2.length cp]; rw [htl]
  refine ret_x tab_ok Try.func67 rfl Try.ntmps67 (by rfl) ?_; simp only [argX, Nat.reduceAdd, Nat.zero_add]; conv => whnf
  repeat' (first
    | (((first | rw [show rdX ti_119.agg ti_119.sz tabS 0 = some (.agg tabS) from tabS_rd] | rw [show lenX tabS ti_119.sz = true from tabS_len] | rw [show takeX ti_119.sz tabS = some tabS from tabS_take] | rw [tabS_val] | rw [tabS_take] | rw [tabS_len] | rw [splX_tab _ rfl]); conv => whnf))
    | (refine run_c tab_ok ?_; conv => whnf)
    | (refine side_id ?_; refine side_i (by first | rfl | exact ⟨rfl, rfl, rfl, rfl⟩ | trivial | (simp [allOne, partsOne, Value.cells, Value.oneCell']; done) | fail) ?_; conv => whnf)
    | (refine ar_id ?_; first
      | (refine ar_in (by (first | (simp only [Int.reduceAdd, Int.reduceSub, Int.reduceMul, Int.reduceNeg, Int.reduceMod, Int.reduceDiv, Int.reduceTMod, Int.reduceTDiv, Int.zero_add, Int.add_zero]; done) | (simp only [Int.reduceAdd, Int.reduceSub, Int.reduceMul, Int.reduceNeg, Int.reduceMod, Int.reduceDiv, Int.reduceTMod, Int.reduceTDiv, Int.zero_add, Int.add_zero]; rfl) | rfl)) (by (dsimp only [inR]; first | decide | omega)) ?_; conv => whnf)
      | (first | (refine ar_u8 ?_; conv => whnf)))
    | (refine new_i ?_; intro _; conv => whnf)
    | (refine br_id ?_; first
      | (refine br_t (by first | decide | omega | (with_reducible rfl) | fail | (simp only [cellEq, toB]; omega) | (simp only [cellEq, toB]; simp; done) | fail) ?_; conv => whnf)
      | (refine br_f (by first | decide | omega | (with_reducible exact Bool.false_ne_true) | (with_reducible refine not_not_intro ?_; fail) | (simp only [cellEq, toB]; omega) | (simp only [cellEq, toB]; simp; done) | fail) ?_; conv => whnf)
      | ((refine br_any (fun h => ?_) (fun h => ?_) <;> (try simp only [cellEq, toB, Bool.not_eq_true, Bool.not_eq_false] at h) <;> (try (exfalso; first | omega | contradiction | (simp at h; done) | fail); done) <;> conv => whnf)))
    | (refine ix_id ?_; first
      | (refine ix_lit (by first | decide | omega) (by (first | (simp only [Nat.zero_add, Nat.add_zero, Nat.mul_one, Nat.reduceAdd, Nat.reduceMul, Int.reduceToNat, Int.toNat_natCast, Int.toNat_zero, Int.toNat_one, Nat.zero_mul]; done) | (simp only [Nat.zero_add, Nat.add_zero, Nat.mul_one, Nat.reduceAdd, Nat.reduceMul, Int.reduceToNat, Int.toNat_natCast, Int.toNat_zero, Int.toNat_one, Nat.zero_mul]; rfl) | rfl)) (by rfl) ?_; conv => whnf)
      | (refine ix_sym (by omega) ?_; conv => whnf))
    | (refine lcall_id ?_; (refine lcall_ret (fun w' hloc => sum_T _ _ 1 [(A, cp, zs.take (zs.length - 2))] w' (zs.take (zs.length - 2)) (bls_tag hloc (by rfl) (by exact hbl) (all_cons ⟨by rw [htl]; exact (irow_loc hr hloc).take (by omega), hn0⟩ all_nil)) rfl (all_one _) (hu.take _) (by rw [List.length_take]; omega) (by decide)) ?_; conv => whnf))
    | (refine lload_id ?_; first
      | (fail)
      | (refine load_old _ (by with_reducible assumption) (by simp; done) ?_; conv => whnf))
    | (refine lixs_id ?_; first | (refine ixs_old (j := zs.length - 2) hr (by omega) (by omega) ?_; intro _ _ _; conv => whnf) | (refine ixs_old (j := zs.length - 1) hr (by omega) (by omega) ?_; intro _ _ _; conv => whnf))
    | (refine ex_id ?_; first
      | ((with_reducible refine ex_z (or_u16 8 (by omega) (by omega) (by omega) (by omega)) ?_; conv => whnf))
      | (refine ex_z (by (first | (simp only [Int.reduceAdd, Int.reduceSub, Int.reduceMul, Int.reduceNeg, Int.reduceMod, Int.reduceDiv, Int.reduceTMod, Int.reduceTDiv, Int.zero_add, Int.add_zero]; done) | (simp only [Int.reduceAdd, Int.reduceSub, Int.reduceMul, Int.reduceNeg, Int.reduceMod, Int.reduceDiv, Int.reduceTMod, Int.reduceTDiv, Int.zero_add, Int.add_zero]; rfl) | rfl)) ?_; conv => whnf))
    | (refine sh_id ?_; first
      | (first | (refine shl_lit 256 (by decide) (by decide) (by (dsimp only [inR]; first | decide | omega)) ?_; conv => whnf) | (refine shr_litE 256 (by decide) (by decide) rfl ?_; conv => whnf))
      | (refine sh_z (by omega) (by (first | (simp only [Int.reduceAdd, Int.reduceSub, Int.reduceMul, Int.reduceNeg, Int.reduceMod, Int.reduceDiv, Int.reduceTMod, Int.reduceTDiv, Int.zero_add, Int.add_zero]; done) | (simp only [Int.reduceAdd, Int.reduceSub, Int.reduceMul, Int.reduceNeg, Int.reduceMod, Int.reduceDiv, Int.reduceTMod, Int.reduceTDiv, Int.zero_add, Int.add_zero]; rfl) | rfl)) ?_; conv => whnf))
    | (refine quo_id ?_; first
      | (refine quo_in (by omega) (by (first | (simp only [Int.reduceAdd, Int.reduceSub, Int.reduceMul, Int.reduceNeg, Int.reduceMod, Int.reduceDiv, Int.reduceTMod, Int.reduceTDiv, Int.zero_add, Int.add_zero]; done) | (simp only [Int.reduceAdd, Int.reduceSub, Int.reduceMul, Int.reduceNeg, Int.reduceMod, Int.reduceDiv, Int.reduceTMod, Int.reduceTDiv, Int.zero_add, Int.add_zero]; rfl) | rfl)) (by (dsimp only [inR]; first | decide | omega)) ?_; conv => whnf)
      | (refine quo_t (by omega) (by (dsimp only [inR]; first | decide | omega)) ?_; conv => whnf))
    | (refine rem_id ?_; first
      | (refine rem_in (by omega) (by (first | (simp only [Int.reduceAdd, Int.reduceSub, Int.reduceMul, Int.reduceNeg, Int.reduceMod, Int.reduceDiv, Int.reduceTMod, Int.reduceTDiv, Int.zero_add, Int.add_zero]; done) | (simp only [Int.reduceAdd, Int.reduceSub, Int.reduceMul, Int.reduceNeg, Int.reduceMod, Int.reduceDiv, Int.reduceTMod, Int.reduceTDiv, Int.zero_add, Int.add_zero]; rfl) | rfl)) ?_; conv => whnf)
      | (refine rem_t (by omega) ?_; conv => whnf))
    | (refine app_id ?_; refine app_i (by (first | (simp only [Nat.zero_add, Nat.add_zero, Nat.mul_one, Nat.reduceAdd, Nat.reduceMul, Int.reduceToNat, Int.toNat_natCast, Int.toNat_zero, Int.toNat_one, Nat.zero_mul]; done) | (simp only [Nat.zero_add, Nat.add_zero, Nat.mul_one, Nat.reduceAdd, Nat.reduceMul, Int.reduceToNat, Int.toNat_natCast, Int.toNat_zero, Int.toNat_one, Nat.zero_mul]; rfl) | rfl)) (by (first | (simp only [List.nil_append, List.cons_append, List.append_nil]; done) | (simp only [List.nil_append, List.cons_append, List.append_nil]; rfl) | rfl)) (by first | omega | (change _ * 1 ≤ _; omega) | (change _ * 8 ≤ _; omega) | (change _ * 2 ≤ _; omega) | (change _ * 4 ≤ _; omega) | (change _ * 16 ≤ _; omega) | (change _ * 24 ≤ _; omega) | (change _ * 32 ≤ _; omega) | (change _ * 40 ≤ _; omega)) (by first | omega | decide) ?_; intro _ _ _; conv => whnf)
    | (refine mk_id ?_; first | (refine mk_lit (by rfl) (by rfl) (by decide) (by rfl) ?_; conv => whnf) | (refine mk_sym _ (by first | rfl | omega) (by first | rfl | omega) (by omega) (by omega) ?_; conv => whnf))
    | (refine sl_id ?_; (refine sl_pre 701 (by omega) (show ((zs.length : Int) - 2).toNat = zs.length - 2 by omega) ?_; conv => whnf))
    | (refine eff_id ?_; fail)
    | (refine val_id ?_; fail)
    | (refine x_rnd ?_)
    | (refine x_rnd' ?_)
    | (refine xdrw_id ?_; first | (refine x_drw tab_ok (id := 2) [] [] [0, 1, 2, 3, 4, 5, 6, 7, 8, 9, 10, 11, 12, 13, 14, 15, 16, 17, 18, 19, 20, 21, 22, 23, 24] followsMixed (by kernel_rfl) (by rfl) (by rfl) ?_; conv => whnf)))
  · (refine fin_ret ?_)
    refine congrArg Value.bool (decide_eq_decide.2 ?_)
    unfold rightB
    exact ⟨fun h => ⟨by omega, h⟩, fun h => h.2⟩
  · (refine fin_ret ?_)
    refine congrArg Value.bool (decide_eq_false ?_).symm
    unfold rightB
    omega
/-! the references -/
theorem val_snoc (zs : List Int) (z : Int) : val (zs ++ [z]) = 256 * val zs + z := by simp [val]
theorem val_take {zs : List Int} {j : Nat} (h : j < zs.length) : val (zs.take (j + 1)) = 256 * val (zs.take j) + zs.getD j 0 := by rw [take_snoc zs j h, val_snoc]
theorem val_bd {zs : List Int} (hu : AllU8 zs) (j : Nat) (hj : j ≤ zs.length) : 0 ≤ val (zs.take j) ∧ val (zs.take j) < 256 ^ j := by
  induction j with
  | zero => simp [val]
  | succ j ih =>
    have h1 := ih (by omega)
    have h2 := hu.get j
    rw [val_take (by omega)]
    rw [Int.pow_succ]
    omega
theorem pow_le8 {j : Nat} (h : j ≤ 8) : (256 : Int) ^ j ≤ 18446744073709551616 := by
  rcases (show j = 0 ∨ j = 1 ∨ j = 2 ∨ j = 3 ∨ j = 4 ∨ j = 5 ∨ j = 6 ∨ j = 7 ∨ j = 8 by omega) with rfl | rfl | rfl | rfl | rfl | rfl | rfl | rfl | rfl <;> decide
theorem value_S (h : Nat) (A : Option Addr) (n cp : Nat) (zs : List Int) (w : World) (hr : IRow .u8 w A n zs) (hn : n ≤ 8) (hu : AllU8 zs) :
    RetS Try.prog 33 [.sl h A n cp] w (.int .u64 (val zs)) := by
  obtain rfl : zs.length = n := hr.1
  refine ret_x tab_ok Try.func33 rfl Try.ntmps33 (by rfl) ?_; simp only [argX, Nat.reduceAdd, Nat.zero_add]; conv => whnf
  repeat' (first
    | (fail)
    | (refine run_c tab_ok ?_; conv => whnf)
    | (refine side_id ?_; refine side_i (by first | rfl | exact ⟨rfl, rfl, rfl, rfl⟩ | trivial | (simp [allOne, partsOne, Value.cells, Value.oneCell']; done) | fail) ?_; conv => whnf)
    | (refine ar_id ?_; first
      | (refine ar_in (by (first | (simp only [Int.reduceAdd, Int.reduceSub, Int.reduceMul, Int.reduceNeg, Int.reduceMod, Int.reduceDiv, Int.reduceTMod, Int.reduceTDiv, Int.zero_add, Int.add_zero]; done) | (simp only [Int.reduceAdd, Int.reduceSub, Int.reduceMul, Int.reduceNeg, Int.reduceMod, Int.reduceDiv, Int.reduceTMod, Int.reduceTDiv, Int.zero_add, Int.add_zero]; rfl) | rfl)) (by (dsimp only [inR]; first | decide | omega)) ?_; conv => whnf)
      | (first | (refine ar_u8 ?_; conv => whnf)))
    | (refine new_i ?_; intro _; conv => whnf)
    | (refine br_id ?_; first
      | (refine br_t (by first | decide | omega | (with_reducible rfl) | fail | (simp only [cellEq, toB]; omega) | (simp only [cellEq, toB]; simp; done) | fail) ?_; conv => whnf)
      | (refine br_f (by first | decide | omega | (with_reducible exact Bool.false_ne_true) | (with_reducible refine not_not_intro ?_; fail) | (simp only [cellEq, toB]; omega) | (simp only [cellEq, toB]; simp; done) | fail) ?_; conv => whnf)
      | ((refine br_any (fun h => ?_) (fun h => ?_) <;> (try simp only [cellEq, toB, Bool.not_eq_true, Bool.not_eq_false] at h) <;> (try (exfalso; first | omega | contradiction | (simp at h; done) | fail); done) <;> conv => whnf)))
    | (refine ix_id ?_; first
      | (refine ix_lit (by first | decide | omega) (by (first | (simp only [Nat.zero_add, Nat.add_zero, Nat.mul_one, Nat.reduceAdd, Nat.reduceMul, Int.reduceToNat, Int.toNat_natCast, Int.toNat_zero, Int.toNat_one, Nat.zero_mul]; done) | (simp only [Nat.zero_add, Nat.add_zero, Nat.mul_one, Nat.reduceAdd, Nat.reduceMul, Int.reduceToNat, Int.toNat_natCast, Int.toNat_zero, Int.toNat_one, Nat.zero_mul]; rfl) | rfl)) (by rfl) ?_; conv => whnf)
      | (refine ix_sym (by omega) ?_; conv => whnf))
    | (refine lcall_id ?_; (refine lcall_ret (fun w' hloc => sum_T _ _ 1 [(A, cp, zs.take (zs.length - 2))] w' (zs.take (zs.length - 2)) (bls_tag hloc (by rfl) (by exact hbl) (all_cons ⟨by rw [htl]; exact (irow_loc hr hloc).take (by omega), hn0⟩ all_nil)) rfl (all_one _) (hu.take _) (by rw [List.length_take]; omega) (by decide)) ?_; conv => whnf))
    | (refine lload_id ?_; first
      | (fail)
      | (refine load_old _ (by with_reducible assumption) (by simp; done) ?_; conv => whnf))
    | (refine lixs_id ?_; (refine ixs_nat hr (by omega) ?_; intro _ _ _; conv => whnf))
    | (refine ex_id ?_; first
      | ((with_reducible refine ex_z (or_u16 8 (by omega) (by omega) (by omega) (by omega)) ?_; conv => whnf))
      | (refine ex_z (by (first | (simp only [Int.reduceAdd, Int.reduceSub, Int.reduceMul, Int.reduceNeg, Int.reduceMod, Int.reduceDiv, Int.reduceTMod, Int.reduceTDiv, Int.zero_add, Int.add_zero]; done) | (simp only [Int.reduceAdd, Int.reduceSub, Int.reduceMul, Int.reduceNeg, Int.reduceMod, Int.reduceDiv, Int.reduceTMod, Int.reduceTDiv, Int.zero_add, Int.add_zero]; rfl) | rfl)) ?_; conv => whnf))
    | (refine sh_id ?_; first
      | (first | (refine shl_lit 256 (by decide) (by decide) (by (dsimp only [inR]; first | decide | omega)) ?_; conv => whnf) | (refine shr_litE 256 (by decide) (by decide) rfl ?_; conv => whnf))
      | (refine sh_z (by omega) (by (first | (simp only [Int.reduceAdd, Int.reduceSub, Int.reduceMul, Int.reduceNeg, Int.reduceMod, Int.reduceDiv, Int.reduceTMod, Int.reduceTDiv, Int.zero_add, Int.add_zero]; done) | (simp only [Int.reduceAdd, Int.reduceSub, Int.reduceMul, Int.reduceNeg, Int.reduceMod, Int.reduceDiv, Int.reduceTMod, Int.reduceTDiv, Int.zero_add, Int.add_zero]; rfl) | rfl)) ?_; conv => whnf))
    | (refine quo_id ?_; first
      | (refine quo_in (by omega) (by (first | (simp only [Int.reduceAdd, Int.reduceSub, Int.reduceMul, Int.reduceNeg, Int.reduceMod, Int.reduceDiv, Int.reduceTMod, Int.reduceTDiv, Int.zero_add, Int.add_zero]; done) | (simp only [Int.reduceAdd, Int.reduceSub, Int.reduceMul, Int.reduceNeg, Int.reduceMod, Int.reduceDiv, Int.reduceTMod, Int.reduceTDiv, Int.zero_add, Int.add_zero]; rfl) | rfl)) (by (dsimp only [inR]; first | decide | omega)) ?_; conv => whnf)
      | (refine quo_t (by omega) (by (dsimp only [inR]; first | decide | omega)) ?_; conv => whnf))
    | (refine rem_id ?_; first
      | (refine rem_in (by omega) (by (first | (simp only [Int.reduceAdd, Int.reduceSub, Int.reduceMul, Int.reduceNeg, Int.reduceMod, Int.reduceDiv, Int.reduceTMod, Int.reduceTDiv, Int.zero_add, Int.add_zero]; done) | (simp only [Int.reduceAdd, Int.reduceSub, Int.reduceMul, Int.reduceNeg, Int.reduceMod, Int.reduceDiv, Int.reduceTMod, Int.reduceTDiv, Int.zero_add, Int.add_zero]; rfl) | rfl)) ?_; conv => whnf)
      | (refine rem_t (by omega) ?_; conv => whnf))
    | (refine app_id ?_; refine app_i (by (first | (simp only [Nat.zero_add, Nat.add_zero, Nat.mul_one, Nat.reduceAdd, Nat.reduceMul, Int.reduceToNat, Int.toNat_natCast, Int.toNat_zero, Int.toNat_one, Nat.zero_mul]; done) | (simp only [Nat.zero_add, Nat.add_zero, Nat.mul_one, Nat.reduceAdd, Nat.reduceMul, Int.reduceToNat, Int.toNat_natCast, Int.toNat_zero, Int.toNat_one, Nat.zero_mul]; rfl) | rfl)) (by (first | (simp only [List.nil_append, List.cons_append, List.append_nil]; done) | (simp only [List.nil_append, List.cons_append, List.append_nil]; rfl) | rfl)) (by first | omega | (change _ * 1 ≤ _; omega) | (change _ * 8 ≤ _; omega) | (change _ * 2 ≤ _; omega) | (change _ * 4 ≤ _; omega) | (change _ * 16 ≤ _; omega) | (change _ * 24 ≤ _; omega) | (change _ * 32 ≤ _; omega) | (change _ * 40 ≤ _; omega)) (by first | omega | decide) ?_; intro _ _ _; conv => whnf)
    | (refine mk_id ?_; first | (refine mk_lit (by rfl) (by rfl) (by decide) (by rfl) ?_; conv => whnf) | (refine mk_sym _ (by first | rfl | omega) (by first | rfl | omega) (by omega) (by omega) ?_; conv => whnf))
    | (refine sl_id ?_; (refine sl_pre 701 (by omega) (show ((zs.length : Int) - 2).toNat = zs.length - 2 by omega) ?_; conv => whnf))
    | (refine eff_id ?_; fail)
    | (refine val_id ?_; fail)
    | (refine x_rnd ?_)
    | (refine x_rnd' ?_)
    | (refine xdrw_id ?_; fail))
  refine x_loopA [] (fun j : Nat => [(8, i64 j), (3, .int .u64 (val (zs.take j)))]) (fun _ => []) (fun j => j ≤ zs.length) (fun j => zs.length - j) 0 (by rfl) (by rfl) (by rfl) (by omega) (by (repeat (first | exact trivial | ((conv => whnf); refine And.intro (by first | rfl | exact congrArg (Value.int _) (by omega)) ?_)))) (by (repeat (first | exact trivial | ((conv => whnf); refine And.intro (by rfl) ?_)))) ?_
  rintro j hj
  dsimp only [appF, appM]
  by_cases hlt : j < zs.length
  · have h1 := val_bd hu j hj
    have h2 := hu.get j
    have h3 := val_bd hu (j + 1) (by omega)
    have h4 := pow_le8 (show j + 1 ≤ 8 by omega)
    rw [val_take hlt] at h3
    repeat' (first
      | (fail)
      | (refine run_c tab_ok ?_; conv => whnf)
      | (refine side_id ?_; refine side_i (by first | rfl | exact ⟨rfl, rfl, rfl, rfl⟩ | trivial | (simp [allOne, partsOne, Value.cells, Value.oneCell']; done) | fail) ?_; conv => whnf)
      | (refine ar_id ?_; first
        | (refine ar_in (by (first | (simp only [Int.reduceAdd, Int.reduceSub, Int.reduceMul, Int.reduceNeg, Int.reduceMod, Int.reduceDiv, Int.reduceTMod, Int.reduceTDiv, Int.zero_add, Int.add_zero]; done) | (simp only [Int.reduceAdd, Int.reduceSub, Int.reduceMul, Int.reduceNeg, Int.reduceMod, Int.reduceDiv, Int.reduceTMod, Int.reduceTDiv, Int.zero_add, Int.add_zero]; rfl) | rfl)) (by (dsimp only [inR]; first | decide | omega)) ?_; conv => whnf)
        | (first | (refine ar_u8 ?_; conv => whnf)))
      | (refine new_i ?_; intro _; conv => whnf)
      | (refine br_id ?_; first
        | (refine br_t (by first | decide | omega | (with_reducible rfl) | fail | (simp only [cellEq, toB]; omega) | (simp only [cellEq, toB]; simp; done) | fail) ?_; conv => whnf)
        | (refine br_f (by first | decide | omega | (with_reducible exact Bool.false_ne_true) | (with_reducible refine not_not_intro ?_; fail) | (simp only [cellEq, toB]; omega) | (simp only [cellEq, toB]; simp; done) | fail) ?_; conv => whnf)
        | ((refine br_any (fun h => ?_) (fun h => ?_) <;> (try simp only [cellEq, toB, Bool.not_eq_true, Bool.not_eq_false] at h) <;> (try (exfalso; first | omega | contradiction | (simp at h; done) | fail); done) <;> conv => whnf)))
      | (refine ix_id ?_; first
        | (refine ix_lit (by first | decide | omega) (by (first | (simp only [Nat.zero_add, Nat.add_zero, Nat.mul_one, Nat.reduceAdd, Nat.reduceMul, Int.reduceToNat, Int.toNat_natCast, Int.toNat_zero, Int.toNat_one, Nat.zero_mul]; done) | (simp only [Nat.zero_add, Nat.add_zero, Nat.mul_one, Nat.reduceAdd, Nat.reduceMul, Int.reduceToNat, Int.toNat_natCast, Int.toNat_zero, Int.toNat_one, Nat.zero_mul]; rfl) | rfl)) (by rfl) ?_; conv => whnf)
        | (refine ix_sym (by omega) ?_; conv => whnf))
      | (refine lcall_id ?_; (refine lcall_ret (fun w' hloc => sum_T _ _ 1 [(A, cp, zs.take (zs.length - 2))] w' (zs.take (zs.length - 2)) (bls_tag hloc (by rfl) (by exact hbl) (all_cons ⟨by rw [htl]; exact (irow_loc hr hloc).take (by omega), hn0⟩ all_nil)) rfl (all_one _) (hu.take _) (by rw [List.length_take]; omega) (by decide)) ?_; conv => whnf))
      | (refine lload_id ?_; first
        | (fail)
        | (refine load_old _ (by with_reducible assumption) (by simp; done) ?_; conv => whnf))
      | (refine lixs_id ?_; (refine ixs_nat hr (by omega) ?_; intro _ _ _; conv => whnf))
      | (refine ex_id ?_; first
        | ((with_reducible refine ex_z (or_u16 8 (by omega) (by omega) (by omega) (by omega)) ?_; conv => whnf))
        | (refine ex_z (by (first | (simp only [Int.reduceAdd, Int.reduceSub, Int.reduceMul, Int.reduceNeg, Int.reduceMod, Int.reduceDiv, Int.reduceTMod, Int.reduceTDiv, Int.zero_add, Int.add_zero]; done) | (simp only [Int.reduceAdd, Int.reduceSub, Int.reduceMul, Int.reduceNeg, Int.reduceMod, Int.reduceDiv, Int.reduceTMod, Int.reduceTDiv, Int.zero_add, Int.add_zero]; rfl) | rfl)) ?_; conv => whnf))
      | (refine sh_id ?_; first
        | (first | (refine shl_lit 256 (by decide) (by decide) (by (dsimp only [inR]; first | decide | omega)) ?_; conv => whnf) | (refine shr_litE 256 (by decide) (by decide) rfl ?_; conv => whnf))
        | (refine sh_z (by omega) (by (first | (simp only [Int.reduceAdd, Int.reduceSub, Int.reduceMul, Int.reduceNeg, Int.reduceMod, Int.reduceDiv, Int.reduceTMod, Int.reduceTDiv, Int.zero_add, Int.add_zero]; done) | (simp only [Int.reduceAdd, Int.reduceSub, Int.reduceMul, Int.reduceNeg, Int.reduceMod, Int.reduceDiv, Int.reduceTMod, Int.reduceTDiv, Int.zero_add, Int.add_zero]; rfl) | rfl)) ?_; conv => whnf))
      | (refine quo_id ?_; first
        | (refine quo_in (by omega) (by (first | (simp only [Int.reduceAdd, Int.reduceSub, Int.reduceMul, Int.reduceNeg, Int.reduceMod, Int.reduceDiv, Int.reduceTMod, Int.reduceTDiv, Int.zero_add, Int.add_zero]; done) | (simp only [Int.reduceAdd, Int.reduceSub, Int.reduceMul, Int.reduceNeg, Int.reduceMod, Int.reduceDiv, Int.reduceTMod, Int.reduceTDiv, Int.zero_add, Int.add_zero]; rfl) | rfl)) (by (dsimp only [inR]; first | decide | omega)) ?_; conv => whnf)
        | (refine quo_t (by omega) (by (dsimp only [inR]; first | decide | omega)) ?_; conv => whnf))
      | (refine rem_id ?_; first
        | (refine rem_in (by omega) (by (first | (simp only [Int.reduceAdd, Int.reduceSub, Int.reduceMul, Int.reduceNeg, Int.reduceMod, Int.reduceDiv, Int.reduceTMod, Int.reduceTDiv, Int.zero_add, Int.add_zero]; done) | (simp only [Int.reduceAdd, Int.reduceSub, Int.reduceMul, Int.reduceNeg, Int.reduceMod, Int.reduceDiv, Int.reduceTMod, Int.reduceTDiv, Int.zero_add, Int.add_zero]; rfl) | rfl)) ?_; conv => whnf)
        | (refine rem_t (by omega) ?_; conv => whnf))
      | (refine app_id ?_; refine app_i (by (first | (simp only [Nat.zero_add, Nat.add_zero, Nat.mul_one, Nat.reduceAdd, Nat.reduceMul, Int.reduceToNat, Int.toNat_natCast, Int.toNat_zero, Int.toNat_one, Nat.zero_mul]; done) | (simp only [Nat.zero_add, Nat.add_zero, Nat.mul_one, Nat.reduceAdd, Nat.reduceMul, Int.reduceToNat, Int.toNat_natCast, Int.toNat_zero, Int.toNat_one, Nat.zero_mul]; rfl) | rfl)) (by (first | (simp only [List.nil_append, List.cons_append, List.append_nil]; done) | (simp only [List.nil_append, List.cons_append, List.append_nil]; rfl) | rfl)) (by first | omega | (change _ * 1 ≤ _; omega) | (change _ * 8 ≤ _; omega) | (change _ * 2 ≤ _; omega) | (change _ * 4 ≤ _; omega) | (change _ * 16 ≤ _; omega) | (change _ * 24 ≤ _; omega) | (change _ * 32 ≤ _; omega) | (change _ * 40 ≤ _; omega)) (by first | omega | decide) ?_; intro _ _ _; conv => whnf)
      | (refine mk_id ?_; first | (refine mk_lit (by rfl) (by rfl) (by decide) (by rfl) ?_; conv => whnf) | (refine mk_sym _ (by first | rfl | omega) (by first | rfl | omega) (by omega) (by omega) ?_; conv => whnf))
      | (refine sl_id ?_; (refine sl_pre 701 (by omega) (show ((zs.length : Int) - 2).toNat = zs.length - 2 by omega) ?_; conv => whnf))
      | (refine eff_id ?_; fail)
      | (refine val_id ?_; fail)
      | (refine x_rnd ?_)
      | (refine x_rnd' ?_)
      | (refine xdrw_id ?_; fail))
    refine x_roundA (j + 1) (by omega) (by omega) ?_ (by (repeat (first | exact trivial | ((conv => whnf); refine And.intro rfl ?_)))) (by (repeat (first | exact trivial | ((conv => whnf); refine And.intro (by rfl) ?_))))
    rw [val_take hlt]
    (repeat (first | exact trivial | ((conv => whnf); refine And.intro (by first | rfl | exact congrArg (Value.int _) (by omega)) ?_)))
  · obtain rfl : j = zs.length := by omega
    rw [List.take_length]
    repeat' (first
      | (fail)
      | (refine run_c tab_ok ?_; conv => whnf)
      | (refine side_id ?_; refine side_i (by first | rfl | exact ⟨rfl, rfl, rfl, rfl⟩ | trivial | (simp [allOne, partsOne, Value.cells, Value.oneCell']; done) | fail) ?_; conv => whnf)
      | (refine ar_id ?_; first
        | (refine ar_in (by (first | (simp only [Int.reduceAdd, Int.reduceSub, Int.reduceMul, Int.reduceNeg, Int.reduceMod, Int.reduceDiv, Int.reduceTMod, Int.reduceTDiv, Int.zero_add, Int.add_zero]; done) | (simp only [Int.reduceAdd, Int.reduceSub, Int.reduceMul, Int.reduceNeg, Int.reduceMod, Int.reduceDiv, Int.reduceTMod, Int.reduceTDiv, Int.zero_add, Int.add_zero]; rfl) | rfl)) (by (dsimp only [inR]; first | decide | omega)) ?_; conv => whnf)
        | (first | (refine ar_u8 ?_; conv => whnf)))
      | (refine new_i ?_; intro _; conv => whnf)
      | (refine br_id ?_; first
        | (refine br_t (by first | decide | omega | (with_reducible rfl) | fail | (simp only [cellEq, toB]; omega) | (simp only [cellEq, toB]; simp; done) | fail) ?_; conv => whnf)
        | (refine br_f (by first | decide | omega | (with_reducible exact Bool.false_ne_true) | (with_reducible refine not_not_intro ?_; fail) | (simp only [cellEq, toB]; omega) | (simp only [cellEq, toB]; simp; done) | fail) ?_; conv => whnf)
        | ((refine br_any (fun h => ?_) (fun h => ?_) <;> (try simp only [cellEq, toB, Bool.not_eq_true, Bool.not_eq_false] at h) <;> (try (exfalso; first | omega | contradiction | (simp at h; done) | fail); done) <;> conv => whnf)))
      | (refine ix_id ?_; first
        | (refine ix_lit (by first | decide | omega) (by (first | (simp only [Nat.zero_add, Nat.add_zero, Nat.mul_one, Nat.reduceAdd, Nat.reduceMul, Int.reduceToNat, Int.toNat_natCast, Int.toNat_zero, Int.toNat_one, Nat.zero_mul]; done) | (simp only [Nat.zero_add, Nat.add_zero, Nat.mul_one, Nat.reduceAdd, Nat.reduceMul, Int.reduceToNat, Int.toNat_natCast, Int.toNat_zero, Int.toNat_one, Nat.zero_mul]; rfl) | rfl)) (by rfl) ?_; conv => whnf)
        | (refine ix_sym (by omega) ?_; conv => whnf))
      | (refine lcall_id ?_; (refine lcall_ret (fun w' hloc => sum_T _ _ 1 [(A, cp, zs.take (zs.length - 2))] w' (zs.take (zs.length - 2)) (bls_tag hloc (by rfl) (by exact hbl) (all_cons ⟨by rw [htl]; exact (irow_loc hr hloc).take (by omega), hn0⟩ all_nil)) rfl (all_one _) (hu.take _) (by rw [List.length_take]; omega) (by decide)) ?_; conv => whnf))
      | (refine lload_id ?_; first
        | (fail)
        | (refine load_old _ (by with_reducible assumption) (by simp; done) ?_; conv => whnf))
      | (refine lixs_id ?_; (refine ixs_nat hr (by omega) ?_; intro _ _ _; conv => whnf))
      | (refine ex_id ?_; first
        | ((with_reducible refine ex_z (or_u16 8 (by omega) (by omega) (by omega) (by omega)) ?_; conv => whnf))
        | (refine ex_z (by (first | (simp only [Int.reduceAdd, Int.reduceSub, Int.reduceMul, Int.reduceNeg, Int.reduceMod, Int.reduceDiv, Int.reduceTMod, Int.reduceTDiv, Int.zero_add, Int.add_zero]; done) | (simp only [Int.reduceAdd, Int.reduceSub, Int.reduceMul, Int.reduceNeg, Int.reduceMod, Int.reduceDiv, Int.reduceTMod, Int.reduceTDiv, Int.zero_add, Int.add_zero]; rfl) | rfl)) ?_; conv => whnf))
      | (refine sh_id ?_; first
        | (first | (refine shl_lit 256 (by decide) (by decide) (by (dsimp only [inR]; first | decide | omega)) ?_; conv => whnf) | (refine shr_litE 256 (by decide) (by decide) rfl ?_; conv => whnf))
        | (refine sh_z (by omega) (by (first | (simp only [Int.reduceAdd, Int.reduceSub, Int.reduceMul, Int.reduceNeg, Int.reduceMod, Int.reduceDiv, Int.reduceTMod, Int.reduceTDiv, Int.zero_add, Int.add_zero]; done) | (simp only [Int.reduceAdd, Int.reduceSub, Int.reduceMul, Int.reduceNeg, Int.reduceMod, Int.reduceDiv, Int.reduceTMod, Int.reduceTDiv, Int.zero_add, Int.add_zero]; rfl) | rfl)) ?_; conv => whnf))
      | (refine quo_id ?_; first
        | (refine quo_in (by omega) (by (first | (simp only [Int.reduceAdd, Int.reduceSub, Int.reduceMul, Int.reduceNeg, Int.reduceMod, Int.reduceDiv, Int.reduceTMod, Int.reduceTDiv, Int.zero_add, Int.add_zero]; done) | (simp only [Int.reduceAdd, Int.reduceSub, Int.reduceMul, Int.reduceNeg, Int.reduceMod, Int.reduceDiv, Int.reduceTMod, Int.reduceTDiv, Int.zero_add, Int.add_zero]; rfl) | rfl)) (by (dsimp only [inR]; first | decide | omega)) ?_; conv => whnf)
        | (refine quo_t (by omega) (by (dsimp only [inR]; first | decide | omega)) ?_; conv => whnf))
      | (refine rem_id ?_; first
        | (refine rem_in (by omega) (by (first | (simp only [Int.reduceAdd, Int.reduceSub, Int.reduceMul, Int.reduceNeg, Int.reduceMod, Int.reduceDiv, Int.reduceTMod, Int.reduceTDiv, Int.zero_add, Int.add_zero]; done) | (simp only [Int.reduceAdd, Int.reduceSub, Int.reduceMul, Int.reduceNeg, Int.reduceMod, Int.reduceDiv, Int.reduceTMod, Int.reduceTDiv, Int.zero_add, Int.add_zero]; rfl) | rfl)) ?_; conv => whnf)
        | (refine rem_t (by omega) ?_; conv => whnf))
      | (refine app_id ?_; refine app_i (by (first | (simp only [Nat.zero_add, Nat.add_zero, Nat.mul_one, Nat.reduceAdd, Nat.reduceMul, Int.reduceToNat, Int.toNat_natCast, Int.toNat_zero, Int.toNat_one, Nat.zero_mul]; done) | (simp only [Nat.zero_add, Nat.add_zero, Nat.mul_one, Nat.reduceAdd, Nat.reduceMul, Int.reduceToNat, Int.toNat_natCast, Int.toNat_zero, Int.toNat_one, Nat.zero_mul]; rfl) | rfl)) (by (first | (simp only [List.nil_append, List.cons_append, List.append_nil]; done) | (simp only [List.nil_append, List.cons_append, List.append_nil]; rfl) | rfl)) (by first | omega | (change _ * 1 ≤ _; omega) | (change _ * 8 ≤ _; omega) | (change _ * 2 ≤ _; omega) | (change _ * 4 ≤ _; omega) | (change _ * 16 ≤ _; omega) | (change _ * 24 ≤ _; omega) | (change _ * 32 ≤ _; omega) | (change _ * 40 ≤ _; omega)) (by first | omega | decide) ?_; intro _ _ _; conv => whnf)
      | (refine mk_id ?_; first | (refine mk_lit (by rfl) (by rfl) (by decide) (by rfl) ?_; conv => whnf) | (refine mk_sym _ (by first | rfl | omega) (by first | rfl | omega) (by omega) (by omega) ?_; conv => whnf))
      | (refine sl_id ?_; (refine sl_pre 701 (by omega) (show ((zs.length : Int) - 2).toNat = zs.length - 2 by omega) ?_; conv => whnf))
      | (refine eff_id ?_; fail)
      | (refine val_id ?_; fail)
      | (refine x_rnd ?_)
      | (refine x_rnd' ?_)
      | (refine xdrw_id ?_; fail))
    (refine fin_ret ?_)
    rfl
theorem num2_X (tag : Nat) (x : Int) (w : World) (hx : 0 ≤ x ∧ x < 65536) : RetX Try.prog 21 [.int .u64 x, i64 2] w [] (BRow tag (be2 x)) := by
  refine retX_x tab_ok (mem0 := []) Try.func21 rfl Try.ntmps21 (by rfl) (.init w) ?_; simp only [argX, Nat.reduceAdd, Nat.zero_add]; conv => whnf
  repeat' (first
    | (fail)
    | (refine run_c tab_ok ?_; conv => whnf)
    | (refine side_id ?_; refine side_i (by first | rfl | exact ⟨rfl, rfl, rfl, rfl⟩ | trivial | (simp [allOne, partsOne, Value.cells, Value.oneCell']; done) | fail) ?_; conv => whnf)
    | (refine ar_id ?_; first
      | (refine ar_in (by (first | (simp only [Int.reduceAdd, Int.reduceSub, Int.reduceMul, Int.reduceNeg, Int.reduceMod, Int.reduceDiv, Int.reduceTMod, Int.reduceTDiv, Int.zero_add, Int.add_zero]; done) | (simp only [Int.reduceAdd, Int.reduceSub, Int.reduceMul, Int.reduceNeg, Int.reduceMod, Int.reduceDiv, Int.reduceTMod, Int.reduceTDiv, Int.zero_add, Int.add_zero]; rfl) | rfl)) (by (dsimp only [inR]; first | decide | omega)) ?_; conv => whnf)
      | ((refine ar_u8 ?_; conv => whnf)))
    | (refine new_i ?_; intro _; conv => whnf)
    | (refine br_id ?_; first
      | (refine br_t (by first | decide | omega | (with_reducible rfl) | fail | (simp only [cellEq, toB]; omega) | (simp only [cellEq, toB]; simp; done) | fail) ?_; conv => whnf)
      | (refine br_f (by first | decide | omega | (with_reducible exact Bool.false_ne_true) | (with_reducible refine not_not_intro ?_; fail) | (simp only [cellEq, toB]; omega) | (simp only [cellEq, toB]; simp; done) | fail) ?_; conv => whnf)
      | ((refine br_any (fun h => ?_) (fun h => ?_) <;> (try simp only [cellEq, toB, Bool.not_eq_true, Bool.not_eq_false] at h) <;> (try (exfalso; first | omega | contradiction | (simp at h; done) | fail); done) <;> conv => whnf)))
    | (refine ix_id ?_; first
      | (refine ix_lit (by first | decide | omega) (by (first | (simp only [Nat.zero_add, Nat.add_zero, Nat.mul_one, Nat.reduceAdd, Nat.reduceMul, Int.reduceToNat, Int.toNat_natCast, Int.toNat_zero, Int.toNat_one, Nat.zero_mul]; done) | (simp only [Nat.zero_add, Nat.add_zero, Nat.mul_one, Nat.reduceAdd, Nat.reduceMul, Int.reduceToNat, Int.toNat_natCast, Int.toNat_zero, Int.toNat_one, Nat.zero_mul]; rfl) | rfl)) (by rfl) ?_; conv => whnf)
      | (refine ix_sym (by omega) ?_; conv => whnf))
    | (refine lcall_id ?_; (refine lcall_ret (fun w' hloc => sum_T _ _ 1 [(A, cp, zs.take (zs.length - 2))] w' (zs.take (zs.length - 2)) (bls_tag hloc (by rfl) (by exact hbl) (all_cons ⟨by rw [htl]; exact (irow_loc hr hloc).take (by omega), hn0⟩ all_nil)) rfl (all_one _) (hu.take _) (by rw [List.length_take]; omega) (by decide)) ?_; conv => whnf))
    | (refine lload_id ?_; first
      | (fail)
      | (refine load_old _ (by with_reducible assumption) (by simp; done) ?_; conv => whnf))
    | (refine lixs_id ?_; (refine ixs_nat hr (by omega) ?_; intro _ _ _; conv => whnf))
    | (refine ex_id ?_; first
      | ((with_reducible refine ex_z (or_u16 8 (by omega) (by omega) (by omega) (by omega)) ?_; conv => whnf))
      | (refine ex_z (by (first | (simp only [Int.reduceAdd, Int.reduceSub, Int.reduceMul, Int.reduceNeg, Int.reduceMod, Int.reduceDiv, Int.reduceTMod, Int.reduceTDiv, Int.zero_add, Int.add_zero]; done) | (simp only [Int.reduceAdd, Int.reduceSub, Int.reduceMul, Int.reduceNeg, Int.reduceMod, Int.reduceDiv, Int.reduceTMod, Int.reduceTDiv, Int.zero_add, Int.add_zero]; rfl) | rfl)) ?_; conv => whnf))
    | (refine sh_id ?_; first
      | (first | (refine shl_lit 256 (by decide) (by decide) (by (dsimp only [inR]; first | decide | omega)) ?_; conv => whnf) | (refine shr_litE 256 (by decide) (by decide) rfl ?_; conv => whnf))
      | (refine sh_z (by omega) (by (first | (simp only [Int.reduceAdd, Int.reduceSub, Int.reduceMul, Int.reduceNeg, Int.reduceMod, Int.reduceDiv, Int.reduceTMod, Int.reduceTDiv, Int.zero_add, Int.add_zero]; done) | (simp only [Int.reduceAdd, Int.reduceSub, Int.reduceMul, Int.reduceNeg, Int.reduceMod, Int.reduceDiv, Int.reduceTMod, Int.reduceTDiv, Int.zero_add, Int.add_zero]; rfl) | rfl)) ?_; conv => whnf))
    | (refine quo_id ?_; first
      | (refine quo_in (by omega) (by (first | (simp only [Int.reduceAdd, Int.reduceSub, Int.reduceMul, Int.reduceNeg, Int.reduceMod, Int.reduceDiv, Int.reduceTMod, Int.reduceTDiv, Int.zero_add, Int.add_zero]; done) | (simp only [Int.reduceAdd, Int.reduceSub, Int.reduceMul, Int.reduceNeg, Int.reduceMod, Int.reduceDiv, Int.reduceTMod, Int.reduceTDiv, Int.zero_add, Int.add_zero]; rfl) | rfl)) (by (dsimp only [inR]; first | decide | omega)) ?_; conv => whnf)
      | (refine quo_t (by omega) (by (dsimp only [inR]; first | decide | omega)) ?_; conv => whnf))
    | (refine rem_id ?_; first
      | (refine rem_in (by omega) (by (first | (simp only [Int.reduceAdd, Int.reduceSub, Int.reduceMul, Int.reduceNeg, Int.reduceMod, Int.reduceDiv, Int.reduceTMod, Int.reduceTDiv, Int.zero_add, Int.add_zero]; done) | (simp only [Int.reduceAdd, Int.reduceSub, Int.reduceMul, Int.reduceNeg, Int.reduceMod, Int.reduceDiv, Int.reduceTMod, Int.reduceTDiv, Int.zero_add, Int.add_zero]; rfl) | rfl)) ?_; conv => whnf)
      | (refine rem_t (by omega) ?_; conv => whnf))
    | (refine app_id ?_; refine app_i (by (first | (simp only [Nat.zero_add, Nat.add_zero, Nat.mul_one, Nat.reduceAdd, Nat.reduceMul, Int.reduceToNat, Int.toNat_natCast, Int.toNat_zero, Int.toNat_one, Nat.zero_mul]; done) | (simp only [Nat.zero_add, Nat.add_zero, Nat.mul_one, Nat.reduceAdd, Nat.reduceMul, Int.reduceToNat, Int.toNat_natCast, Int.toNat_zero, Int.toNat_one, Nat.zero_mul]; rfl) | rfl)) (by (first | (simp only [List.nil_append, List.cons_append, List.append_nil]; done) | (simp only [List.nil_append, List.cons_append, List.append_nil]; rfl) | rfl)) (by first | omega | (change _ * 1 ≤ _; omega) | (change _ * 8 ≤ _; omega) | (change _ * 2 ≤ _; omega) | (change _ * 4 ≤ _; omega) | (change _ * 16 ≤ _; omega) | (change _ * 24 ≤ _; omega) | (change _ * 32 ≤ _; omega) | (change _ * 40 ≤ _; omega)) (by first | omega | decide) ?_; intro _ _ _; conv => whnf)
    | (refine mk_id ?_; first | (refine mk_lit (by rfl) (by rfl) (by decide) (by rfl) ?_; conv => whnf) | (refine mk_sym _ (by first | rfl | omega) (by first | rfl | omega) (by omega) (by omega) ?_; conv => whnf))
    | (refine sl_id ?_; (refine sl_pre 701 (by omega) (show ((zs.length : Int) - 2).toNat = zs.length - 2 by omega) ?_; conv => whnf))
    | (refine eff_id ?_; fail)
    | (refine val_id ?_; fail)
    | (refine x_rnd ?_)
    | (refine x_rnd' ?_)
    | (refine xdrw_id ?_; fail))
  refine x_rounds 3 ?_
  repeat' (first
    | (fail)
    | (refine run_c tab_ok ?_; conv => whnf)
    | (refine side_id ?_; refine side_i (by first | rfl | exact ⟨rfl, rfl, rfl, rfl⟩ | trivial | (simp [allOne, partsOne, Value.cells, Value.oneCell']; done) | fail) ?_; conv => whnf)
    | (refine ar_id ?_; first
      | (refine ar_in (by (first | (simp only [Int.reduceAdd, Int.reduceSub, Int.reduceMul, Int.reduceNeg, Int.reduceMod, Int.reduceDiv, Int.reduceTMod, Int.reduceTDiv, Int.zero_add, Int.add_zero]; done) | (simp only [Int.reduceAdd, Int.reduceSub, Int.reduceMul, Int.reduceNeg, Int.reduceMod, Int.reduceDiv, Int.reduceTMod, Int.reduceTDiv, Int.zero_add, Int.add_zero]; rfl) | rfl)) (by (dsimp only [inR]; first | decide | omega)) ?_; conv => whnf)
      | ((refine ar_u8 ?_; conv => whnf)))
    | (refine new_i ?_; intro _; conv => whnf)
    | (refine br_id ?_; first
      | (refine br_t (by first | decide | omega | (with_reducible rfl) | fail | (simp only [cellEq, toB]; omega) | (simp only [cellEq, toB]; simp; done) | fail) ?_; conv => whnf)
      | (refine br_f (by first | decide | omega | (with_reducible exact Bool.false_ne_true) | (with_reducible refine not_not_intro ?_; fail) | (simp only [cellEq, toB]; omega) | (simp only [cellEq, toB]; simp; done) | fail) ?_; conv => whnf)
      | ((refine br_any (fun h => ?_) (fun h => ?_) <;> (try simp only [cellEq, toB, Bool.not_eq_true, Bool.not_eq_false] at h) <;> (try (exfalso; first | omega | contradiction | (simp at h; done) | fail); done) <;> conv => whnf)))
    | (refine ix_id ?_; first
      | (refine ix_lit (by first | decide | omega) (by (first | (simp only [Nat.zero_add, Nat.add_zero, Nat.mul_one, Nat.reduceAdd, Nat.reduceMul, Int.reduceToNat, Int.toNat_natCast, Int.toNat_zero, Int.toNat_one, Nat.zero_mul]; done) | (simp only [Nat.zero_add, Nat.add_zero, Nat.mul_one, Nat.reduceAdd, Nat.reduceMul, Int.reduceToNat, Int.toNat_natCast, Int.toNat_zero, Int.toNat_one, Nat.zero_mul]; rfl) | rfl)) (by rfl) ?_; conv => whnf)
      | (refine ix_sym (by omega) ?_; conv => whnf))
    | (refine lcall_id ?_; (refine lcall_ret (fun w' hloc => sum_T _ _ 1 [(A, cp, zs.take (zs.length - 2))] w' (zs.take (zs.length - 2)) (bls_tag hloc (by rfl) (by exact hbl) (all_cons ⟨by rw [htl]; exact (irow_loc hr hloc).take (by omega), hn0⟩ all_nil)) rfl (all_one _) (hu.take _) (by rw [List.length_take]; omega) (by decide)) ?_; conv => whnf))
    | (refine lload_id ?_; first
      | (fail)
      | (refine load_old _ (by with_reducible assumption) (by simp; done) ?_; conv => whnf))
    | (refine lixs_id ?_; (refine ixs_nat hr (by omega) ?_; intro _ _ _; conv => whnf))
    | (refine ex_id ?_; first
      | ((with_reducible refine ex_z (or_u16 8 (by omega) (by omega) (by omega) (by omega)) ?_; conv => whnf))
      | (refine ex_z (by (first | (simp only [Int.reduceAdd, Int.reduceSub, Int.reduceMul, Int.reduceNeg, Int.reduceMod, Int.reduceDiv, Int.reduceTMod, Int.reduceTDiv, Int.zero_add, Int.add_zero]; done) | (simp only [Int.reduceAdd, Int.reduceSub, Int.reduceMul, Int.reduceNeg, Int.reduceMod, Int.reduceDiv, Int.reduceTMod, Int.reduceTDiv, Int.zero_add, Int.add_zero]; rfl) | rfl)) ?_; conv => whnf))
    | (refine sh_id ?_; first
      | (first | (refine shl_lit 256 (by decide) (by decide) (by (dsimp only [inR]; first | decide | omega)) ?_; conv => whnf) | (refine shr_litE 256 (by decide) (by decide) rfl ?_; conv => whnf))
      | (refine sh_z (by omega) (by (first | (simp only [Int.reduceAdd, Int.reduceSub, Int.reduceMul, Int.reduceNeg, Int.reduceMod, Int.reduceDiv, Int.reduceTMod, Int.reduceTDiv, Int.zero_add, Int.add_zero]; done) | (simp only [Int.reduceAdd, Int.reduceSub, Int.reduceMul, Int.reduceNeg, Int.reduceMod, Int.reduceDiv, Int.reduceTMod, Int.reduceTDiv, Int.zero_add, Int.add_zero]; rfl) | rfl)) ?_; conv => whnf))
    | (refine quo_id ?_; first
      | (refine quo_in (by omega) (by (first | (simp only [Int.reduceAdd, Int.reduceSub, Int.reduceMul, Int.reduceNeg, Int.reduceMod, Int.reduceDiv, Int.reduceTMod, Int.reduceTDiv, Int.zero_add, Int.add_zero]; done) | (simp only [Int.reduceAdd, Int.reduceSub, Int.reduceMul, Int.reduceNeg, Int.reduceMod, Int.reduceDiv, Int.reduceTMod, Int.reduceTDiv, Int.zero_add, Int.add_zero]; rfl) | rfl)) (by (dsimp only [inR]; first | decide | omega)) ?_; conv => whnf)
      | (refine quo_t (by omega) (by (dsimp only [inR]; first | decide | omega)) ?_; conv => whnf))
    | (refine rem_id ?_; first
      | (refine rem_in (by omega) (by (first | (simp only [Int.reduceAdd, Int.reduceSub, Int.reduceMul, Int.reduceNeg, Int.reduceMod, Int.reduceDiv, Int.reduceTMod, Int.reduceTDiv, Int.zero_add, Int.add_zero]; done) | (simp only [Int.reduceAdd, Int.reduceSub, Int.reduceMul, Int.reduceNeg, Int.reduceMod, Int.reduceDiv, Int.reduceTMod, Int.reduceTDiv, Int.zero_add, Int.add_zero]; rfl) | rfl)) ?_; conv => whnf)
      | (refine rem_t (by omega) ?_; conv => whnf))
    | (refine app_id ?_; refine app_i (by (first | (simp only [Nat.zero_add, Nat.add_zero, Nat.mul_one, Nat.reduceAdd, Nat.reduceMul, Int.reduceToNat, Int.toNat_natCast, Int.toNat_zero, Int.toNat_one, Nat.zero_mul]; done) | (simp only [Nat.zero_add, Nat.add_zero, Nat.mul_one, Nat.reduceAdd, Nat.reduceMul, Int.reduceToNat, Int.toNat_natCast, Int.toNat_zero, Int.toNat_one, Nat.zero_mul]; rfl) | rfl)) (by (first | (simp only [List.nil_append, List.cons_append, List.append_nil]; done) | (simp only [List.nil_append, List.cons_append, List.append_nil]; rfl) | rfl)) (by first | omega | (change _ * 1 ≤ _; omega) | (change _ * 8 ≤ _; omega) | (change _ * 2 ≤ _; omega) | (change _ * 4 ≤ _; omega) | (change _ * 16 ≤ _; omega) | (change _ * 24 ≤ _; omega) | (change _ * 32 ≤ _; omega) | (change _ * 40 ≤ _; omega)) (by first | omega | decide) ?_; intro _ _ _; conv => whnf)
    | (refine mk_id ?_; first | (refine mk_lit (by rfl) (by rfl) (by decide) (by rfl) ?_; conv => whnf) | (refine mk_sym _ (by first | rfl | omega) (by first | rfl | omega) (by omega) (by omega) ?_; conv => whnf))
    | (refine sl_id ?_; (refine sl_pre 701 (by omega) (show ((zs.length : Int) - 2).toNat = zs.length - 2 by omega) ?_; conv => whnf))
    | (refine eff_id ?_; fail)
    | (refine val_id ?_; fail)
    | (refine x_rnd ?_)
    | (refine x_rnd' ?_)
    | (refine xdrw_id ?_; fail))
  exact fin_rowB tag (by (repeat (first | exact trivial | ((conv => whnf); refine And.intro (by rfl) ?_)))) (by rfl) (by simp [dens, SV.den, be2]; omega) (by decide)
theorem num4_X (tag : Nat) (x : Int) (w : World) (hx : 0 ≤ x ∧ x < 4294967296) : RetX Try.prog 21 [.int .u64 x, i64 4] w [] (BRow tag (be4 x)) := by
  refine retX_x tab_ok (mem0 := []) Try.func21 rfl Try.ntmps21 (by rfl) (.init w) ?_; simp only [argX, Nat.reduceAdd, Nat.zero_add]; conv => whnf
  repeat' (first
    | (fail)
    | (refine run_c tab_ok ?_; conv => whnf)
    | (refine side_id ?_; refine side_i (by first | rfl | exact ⟨rfl, rfl, rfl, rfl⟩ | trivial | (simp [allOne, partsOne, Value.cells, Value.oneCell']; done) | fail) ?_; conv => whnf)
    | (refine ar_id ?_; first
      | (refine ar_in (by (first | (simp only [Int.reduceAdd, Int.reduceSub, Int.reduceMul, Int.reduceNeg, Int.reduceMod, Int.reduceDiv, Int.reduceTMod, Int.reduceTDiv, Int.zero_add, Int.add_zero]; done) | (simp only [Int.reduceAdd, Int.reduceSub, Int.reduceMul, Int.reduceNeg, Int.reduceMod, Int.reduceDiv, Int.reduceTMod, Int.reduceTDiv, Int.zero_add, Int.add_zero]; rfl) | rfl)) (by (dsimp only [inR]; first | decide | omega)) ?_; conv => whnf)
      | ((refine ar_u8 ?_; conv => whnf)))
    | (refine new_i ?_; intro _; conv => whnf)
    | (refine br_id ?_; first
      | (refine br_t (by first | decide | omega | (with_reducible rfl) | fail | (simp only [cellEq, toB]; omega) | (simp only [cellEq, toB]; simp; done) | fail) ?_; conv => whnf)
      | (refine br_f (by first | decide | omega | (with_reducible exact Bool.false_ne_true) | (with_reducible refine not_not_intro ?_; fail) | (simp only [cellEq, toB]; omega) | (simp only [cellEq, toB]; simp; done) | fail) ?_; conv => whnf)
      | ((refine br_any (fun h => ?_) (fun h => ?_) <;> (try simp only [cellEq, toB, Bool.not_eq_true, Bool.not_eq_false] at h) <;> (try (exfalso; first | omega | contradiction | (simp at h; done) | fail); done) <;> conv => whnf)))
    | (refine ix_id ?_; first
      | (refine ix_lit (by first | decide | omega) (by (first | (simp only [Nat.zero_add, Nat.add_zero, Nat.mul_one, Nat.reduceAdd, Nat.reduceMul, Int.reduceToNat, Int.toNat_natCast, Int.toNat_zero, Int.toNat_one, Nat.zero_mul]; done) | (simp only [Nat.zero_add, Nat.add_zero, Nat.mul_one, Nat.reduceAdd, Nat.reduceMul, Int.reduceToNat, Int.toNat_natCast, Int.toNat_zero, Int.toNat_one, Nat.zero_mul]; rfl) | rfl)) (by rfl) ?_; conv => whnf)
      | (refine ix_sym (by omega) ?_; conv => whnf))
    | (refine lcall_id ?_; (refine lcall_ret (fun w' hloc => sum_T _ _ 1 [(A, cp, zs.take (zs.length - 2))] w' (zs.take (zs.length - 2)) (bls_tag hloc (by rfl) (by exact hbl) (all_cons ⟨by rw [htl]; exact (irow_loc hr hloc).take (by omega), hn0⟩ all_nil)) rfl (all_one _) (hu.take _) (by rw [List.length_take]; omega) (by decide)) ?_; conv => whnf))
    | (refine lload_id ?_; first
      | (fail)
      | (refine load_old _ (by with_reducible assumption) (by simp; done) ?_; conv => whnf))
    | (refine lixs_id ?_; (refine ixs_nat hr (by omega) ?_; intro _ _ _; conv => whnf))
    | (refine ex_id ?_; first
      | ((with_reducible refine ex_z (or_u16 8 (by omega) (by omega) (by omega) (by omega)) ?_; conv => whnf))
      | (refine ex_z (by (first | (simp only [Int.reduceAdd, Int.reduceSub, Int.reduceMul, Int.reduceNeg, Int.reduceMod, Int.reduceDiv, Int.reduceTMod, Int.reduceTDiv, Int.zero_add, Int.add_zero]; done) | (simp only [Int.reduceAdd, Int.reduceSub, Int.reduceMul, Int.reduceNeg, Int.reduceMod, Int.reduceDiv, Int.reduceTMod, Int.reduceTDiv, Int.zero_add, Int.add_zero]; rfl) | rfl)) ?_; conv => whnf))
    | (refine sh_id ?_; first
      | (first | (refine shl_lit 256 (by decide) (by decide) (by (dsimp only [inR]; first | decide | omega)) ?_; conv => whnf) | (refine shr_litE 256 (by decide) (by decide) rfl ?_; conv => whnf))
      | (refine sh_z (by omega) (by (first | (simp only [Int.reduceAdd, Int.reduceSub, Int.reduceMul, Int.reduceNeg, Int.reduceMod, Int.reduceDiv, Int.reduceTMod, Int.reduceTDiv, Int.zero_add, Int.add_zero]; done) | (simp only [Int.reduceAdd, Int.reduceSub, Int.reduceMul, Int.reduceNeg, Int.reduceMod, Int.reduceDiv, Int.reduceTMod, Int.reduceTDiv, Int.zero_add, Int.add_zero]; rfl) | rfl)) ?_; conv => whnf))
    | (refine quo_id ?_; first
      | (refine quo_in (by omega) (by (first | (simp only [Int.reduceAdd, Int.reduceSub, Int.reduceMul, Int.reduceNeg, Int.reduceMod, Int.reduceDiv, Int.reduceTMod, Int.reduceTDiv, Int.zero_add, Int.add_zero]; done) | (simp only [Int.reduceAdd, Int.reduceSub, Int.reduceMul, Int.reduceNeg, Int.reduceMod, Int.reduceDiv, Int.reduceTMod, Int.reduceTDiv, Int.zero_add, Int.add_zero]; rfl) | rfl)) (by (dsimp only [inR]; first | decide | omega)) ?_; conv => whnf)
      | (refine quo_t (by omega) (by (dsimp only [inR]; first | decide | omega)) ?_; conv => whnf))
    | (refine rem_id ?_; first
      | (refine rem_in (by omega) (by (first | (simp only [Int.reduceAdd, Int.reduceSub, Int.reduceMul, Int.reduceNeg, Int.reduceMod, Int.reduceDiv, Int.reduceTMod, Int.reduceTDiv, Int.zero_add, Int.add_zero]; done) | (simp only [Int.reduceAdd, Int.reduceSub, Int.reduceMul, Int.reduceNeg, Int.reduceMod, Int.reduceDiv, Int.reduceTMod, Int.reduceTDiv, Int.zero_add, Int.add_zero]; rfl) | rfl)) ?_; conv => whnf)
      | (refine rem_t (by omega) ?_; conv => whnf))
    | (refine app_id ?_; refine app_i (by (first | (simp only [Nat.zero_add, Nat.add_zero, Nat.mul_one, Nat.reduceAdd, Nat.reduceMul, Int.reduceToNat, Int.toNat_natCast, Int.toNat_zero, Int.toNat_one, Nat.zero_mul]; done) | (simp only [Nat.zero_add, Nat.add_zero, Nat.mul_one, Nat.reduceAdd, Nat.reduceMul, Int.reduceToNat, Int.toNat_natCast, Int.toNat_zero, Int.toNat_one, Nat.zero_mul]; rfl) | rfl)) (by (first | (simp only [List.nil_append, List.cons_append, List.append_nil]; done) | (simp only [List.nil_append, List.cons_append, List.append_nil]; rfl) | rfl)) (by first | omega | (change _ * 1 ≤ _; omega) | (change _ * 8 ≤ _; omega) | (change _ * 2 ≤ _; omega) | (change _ * 4 ≤ _; omega) | (change _ * 16 ≤ _; omega) | (change _ * 24 ≤ _; omega) | (change _ * 32 ≤ _; omega) | (change _ * 40 ≤ _; omega)) (by first | omega | decide) ?_; intro _ _ _; conv => whnf)
    | (refine mk_id ?_; first | (refine mk_lit (by rfl) (by rfl) (by decide) (by rfl) ?_; conv => whnf) | (refine mk_sym _ (by first | rfl | omega) (by first | rfl | omega) (by omega) (by omega) ?_; conv => whnf))
    | (refine sl_id ?_; (refine sl_pre 701 (by omega) (show ((zs.length : Int) - 2).toNat = zs.length - 2 by omega) ?_; conv => whnf))
    | (refine eff_id ?_; fail)
    | (refine val_id ?_; fail)
    | (refine x_rnd ?_)
    | (refine x_rnd' ?_)
    | (refine xdrw_id ?_; fail))
  refine x_rounds 5 ?_
  repeat' (first
    | (fail)
    | (refine run_c tab_ok ?_; conv => whnf)
    | (refine side_id ?_; refine side_i (by first | rfl | exact ⟨rfl, rfl, rfl, rfl⟩ | trivial | (simp [allOne, partsOne, Value.cells, Value.oneCell']; done) | fail) ?_; conv => whnf)
    | (refine ar_id ?_; first
      | (refine ar_in (by (first | (simp only [Int.reduceAdd, Int.reduceSub, Int.reduceMul, Int.reduceNeg, Int.reduceMod, Int.reduceDiv, Int.reduceTMod, Int.reduceTDiv, Int.zero_add, Int.add_zero]; done) | (simp only [Int.reduceAdd, Int.reduceSub, Int.reduceMul, Int.reduceNeg, Int.reduceMod, Int.reduceDiv, Int.reduceTMod, Int.reduceTDiv, Int.zero_add, Int.add_zero]; rfl) | rfl)) (by (dsimp only [inR]; first | decide | omega)) ?_; conv => whnf)
      | ((refine ar_u8 ?_; conv => whnf)))
    | (refine new_i ?_; intro _; conv => whnf)
    | (refine br_id ?_; first
      | (refine br_t (by first | decide | omega | (with_reducible rfl) | fail | (simp only [cellEq, toB]; omega) | (simp only [cellEq, toB]; simp; done) | fail) ?_; conv => whnf)
      | (refine br_f (by first | decide | omega | (with_reducible exact Bool.false_ne_true) | (with_reducible refine not_not_intro ?_; fail) | (simp only [cellEq, toB]; omega) | (simp only [cellEq, toB]; simp; done) | fail) ?_; conv => whnf)
      | ((refine br_any (fun h => ?_) (fun h => ?_) <;> (try simp only [cellEq, toB, Bool.not_eq_true, Bool.not_eq_false] at h) <;> (try (exfalso; first | omega | contradiction | (simp at h; done) | fail); done) <;> conv => whnf)))
    | (refine ix_id ?_; first
      | (refine ix_lit (by first | decide | omega) (by (first | (simp only [Nat.zero_add, Nat.add_zero, Nat.mul_one, Nat.reduceAdd, Nat.reduceMul, Int.reduceToNat, Int.toNat_natCast, Int.toNat_zero, Int.toNat_one, Nat.zero_mul]; done) | (simp only [Nat.zero_add, Nat.add_zero, Nat.mul_one, Nat.reduceAdd, Nat.reduceMul, Int.reduceToNat, Int.toNat_natCast, Int.toNat_zero, Int.toNat_one, Nat.zero_mul]; rfl) | rfl)) (by rfl) ?_; conv => whnf)
      | (refine ix_sym (by omega) ?_; conv => whnf))
    | (refine lcall_id ?_; (refine lcall_ret (fun w' hloc => sum_T _ _ 1 [(A, cp, zs.take (zs.length - 2))] w' (zs.take (zs.length - 2)) (bls_tag hloc (by rfl) (by exact hbl) (all_cons ⟨by rw [htl]; exact (irow_loc hr hloc).take (by omega), hn0⟩ all_nil)) rfl (all_one _) (hu.take _) (by rw [List.length_take]; omega) (by decide)) ?_; conv => whnf))
    | (refine lload_id ?_; first
      | (fail)
      | (refine load_old _ (by with_reducible assumption) (by simp; done) ?_; conv => whnf))
    | (refine lixs_id ?_; (refine ixs_nat hr (by omega) ?_; intro _ _ _; conv => whnf))
    | (refine ex_id ?_; first
      | ((with_reducible refine ex_z (or_u16 8 (by omega) (by omega) (by omega) (by omega)) ?_; conv => whnf))
      | (refine ex_z (by (first | (simp only [Int.reduceAdd, Int.reduceSub, Int.reduceMul, Int.reduceNeg, Int.reduceMod, Int.reduceDiv, Int.reduceTMod, Int.reduceTDiv, Int.zero_add, Int.add_zero]; done) | (simp only [Int.reduceAdd, Int.reduceSub, Int.reduceMul, Int.reduceNeg, Int.reduceMod, Int.reduceDiv, Int.reduceTMod, Int.reduceTDiv, Int.zero_add, Int.add_zero]; rfl) | rfl)) ?_; conv => whnf))
    | (refine sh_id ?_; first
      | (first | (refine shl_lit 256 (by decide) (by decide) (by (dsimp only [inR]; first | decide | omega)) ?_; conv => whnf) | (refine shr_litE 256 (by decide) (by decide) rfl ?_; conv => whnf))
      | (refine sh_z (by omega) (by (first | (simp only [Int.reduceAdd, Int.reduceSub, Int.reduceMul, Int.reduceNeg, Int.reduceMod, Int.reduceDiv, Int.reduceTMod, Int.reduceTDiv, Int.zero_add, Int.add_zero]; done) | (simp only [Int.reduceAdd, Int.reduceSub, Int.reduceMul, Int.reduceNeg, Int.reduceMod, Int.reduceDiv, Int.reduceTMod, Int.reduceTDiv, Int.zero_add, Int.add_zero]; rfl) | rfl)) ?_; conv => whnf))
    | (refine quo_id ?_; first
      | (refine quo_in (by omega) (by (first | (simp only [Int.reduceAdd, Int.reduceSub, Int.reduceMul, Int.reduceNeg, Int.reduceMod, Int.reduceDiv, Int.reduceTMod, Int.reduceTDiv, Int.zero_add, Int.add_zero]; done) | (simp only [Int.reduceAdd, Int.reduceSub, Int.reduceMul, Int.reduceNeg, Int.reduceMod, Int.reduceDiv, Int.reduceTMod, Int.reduceTDiv, Int.zero_add, Int.add_zero]; rfl) | rfl)) (by (dsimp only [inR]; first | decide | omega)) ?_; conv => whnf)
      | (refine quo_t (by omega) (by (dsimp only [inR]; first | decide | omega)) ?_; conv => whnf))
    | (refine rem_id ?_; first
      | (refine rem_in (by omega) (by (first | (simp only [Int.reduceAdd, Int.reduceSub, Int.reduceMul, Int.reduceNeg, Int.reduceMod, Int.reduceDiv, Int.reduceTMod, Int.reduceTDiv, Int.zero_add, Int.add_zero]; done) | (simp only [Int.reduceAdd, Int.reduceSub, Int.reduceMul, Int.reduceNeg, Int.reduceMod, Int.reduceDiv, Int.reduceTMod, Int.reduceTDiv, Int.zero_add, Int.add_zero]; rfl) | rfl)) ?_; conv => whnf)
      | (refine rem_t (by omega) ?_; conv => whnf))
    | (refine app_id ?_; refine app_i (by (first | (simp only [Nat.zero_add, Nat.add_zero, Nat.mul_one, Nat.reduceAdd, Nat.reduceMul, Int.reduceToNat, Int.toNat_natCast, Int.toNat_zero, Int.toNat_one, Nat.zero_mul]; done) | (simp only [Nat.zero_add, Nat.add_zero, Nat.mul_one, Nat.reduceAdd, Nat.reduceMul, Int.reduceToNat, Int.toNat_natCast, Int.toNat_zero, Int.toNat_one, Nat.zero_mul]; rfl) | rfl)) (by (first | (simp only [List.nil_append, List.cons_append, List.append_nil]; done) | (simp only [List.nil_append, List.cons_append, List.append_nil]; rfl) | rfl)) (by first | omega | (change _ * 1 ≤ _; omega) | (change _ * 8 ≤ _; omega) | (change _ * 2 ≤ _; omega) | (change _ * 4 ≤ _; omega) | (change _ * 16 ≤ _; omega) | (change _ * 24 ≤ _; omega) | (change _ * 32 ≤ _; omega) | (change _ * 40 ≤ _; omega)) (by first | omega | decide) ?_; intro _ _ _; conv => whnf)
    | (refine mk_id ?_; first | (refine mk_lit (by rfl) (by rfl) (by decide) (by rfl) ?_; conv => whnf) | (refine mk_sym _ (by first | rfl | omega) (by first | rfl | omega) (by omega) (by omega) ?_; conv => whnf))
    | (refine sl_id ?_; (refine sl_pre 701 (by omega) (show ((zs.length : Int) - 2).toNat = zs.length - 2 by omega) ?_; conv => whnf))
    | (refine eff_id ?_; fail)
    | (refine val_id ?_; fail)
    | (refine x_rnd ?_)
    | (refine x_rnd' ?_)
    | (refine xdrw_id ?_; fail))
  exact fin_rowB tag (by (repeat (first | exact trivial | ((conv => whnf); refine And.intro (by rfl) ?_)))) (by rfl) (by simp [dens, SV.den, be4]; omega) (by decide)

/-! the reference's sum -/
def rstn (s b : Nat) : Nat → Nat
  | 0 => s
  | j + 1 => rst (rstn s b j) (b / 2 ^ (7 - j) % 2)
theorem rstn8 (s b : Nat) : rstn s b 8 = rst8 s b := rfl
theorem rstn_lt {s b : Nat} (h : s < 65536) : ∀ j, rstn s b j < 65536
  | 0 => h
  | j + 1 => rst_lt
theorem rst_a {s x : Nat} (h : ((x : Int) % 2 + (s : Int) / 32768) % 2 = 1) : bits .xor .i64 ((s : Int) * 2 % 65536) 4129 = ((rst s (x % 2) : Nat) : Int) := by
  have h2 : ((s : Int) * 2 % 65536) = ((s * 2 % 65536 : Nat) : Int) := by omega
  rw [h2]
  have := xor_i64 (a := s * 2 % 65536) (b := 4129) (by omega) (by decide)
  rw [rst, if_pos (by omega)]
  exact this
theorem rst_b {s x : Nat} (h : ¬ ((x : Int) % 2 + (s : Int) / 32768) % 2 = 1) : ((rst s (x % 2) : Nat) : Int) = (s : Int) * 2 % 65536 := by
  rw [rst, if_neg (by omega)]
  omega
theorem pow7 {i : Nat} (h : i ≤ 7) : (2 : Int) ^ (min ((i : Int)).toNat IntKind.i64.bits) = ((2 ^ i : Nat) : Int) ∧ 0 < 2 ^ i := by
  rcases (show i = 0 ∨ i = 1 ∨ i = 2 ∨ i = 3 ∨ i = 4 ∨ i = 5 ∨ i = 6 ∨ i = 7 by omega) with rfl | rfl | rfl | rfl | rfl | rfl | rfl | rfl <;> decide
theorem refSum_S (h : Nat) (A : Option Addr) (n cp : Nat) (zs : List Int) (w : World) (hr : IRow .u8 w A n zs) (hn : n ≤ 1000000) (hu : AllU8 zs) :
    RetS Try.prog 66 [.sl h A n cp] w (u16 (crc zs : Nat)) := by
  obtain rfl : zs.length = n := hr.1
  unfold crc
  refine ret_x tab_ok Try.func66 rfl Try.ntmps66 (by rfl) ?_; simp only [argX, Nat.reduceAdd, Nat.zero_add]; conv => whnf
  repeat' (first
    | (fail)
    | (refine run_c tab_ok ?_; conv => whnf)
    | (refine side_id ?_; refine side_i (by first | rfl | exact ⟨rfl, rfl, rfl, rfl⟩ | trivial | (simp [allOne, partsOne, Value.cells, Value.oneCell']; done) | fail) ?_; conv => whnf)
    | (refine ar_id ?_; first
      | (refine ar_in (by (first | (simp only [Int.reduceAdd, Int.reduceSub, Int.reduceMul, Int.reduceNeg, Int.reduceMod, Int.reduceDiv, Int.reduceTMod, Int.reduceTDiv, Int.zero_add, Int.add_zero]; done) | (simp only [Int.reduceAdd, Int.reduceSub, Int.reduceMul, Int.reduceNeg, Int.reduceMod, Int.reduceDiv, Int.reduceTMod, Int.reduceTDiv, Int.zero_add, Int.add_zero]; rfl) | rfl)) (by (dsimp only [inR]; first | decide | omega)) ?_; conv => whnf)
      | (fail))
    | (refine new_i ?_; intro _; conv => whnf)
    | (refine br_id ?_; first
      | (refine br_t (by first | decide | omega | (with_reducible rfl) | fail | (simp only [cellEq, toB]; omega) | (simp only [cellEq, toB]; simp; done) | fail) ?_; conv => whnf)
      | (refine br_f (by first | decide | omega | (with_reducible exact Bool.false_ne_true) | (with_reducible refine not_not_intro ?_; fail) | (simp only [cellEq, toB]; omega) | (simp only [cellEq, toB]; simp; done) | fail) ?_; conv => whnf)
      | ((refine br_any (fun h => ?_) (fun h => ?_) <;> (try simp only [cellEq, toB, Bool.not_eq_true, Bool.not_eq_false] at h) <;> (try (exfalso; first | omega | contradiction | (simp at h; done) | fail); done) <;> conv => whnf)))
    | (refine ix_id ?_; first
      | (refine ix_lit (by first | decide | omega) (by (first | (simp only [Nat.zero_add, Nat.add_zero, Nat.mul_one, Nat.reduceAdd, Nat.reduceMul, Int.reduceToNat, Int.toNat_natCast, Int.toNat_zero, Int.toNat_one, Nat.zero_mul]; done) | (simp only [Nat.zero_add, Nat.add_zero, Nat.mul_one, Nat.reduceAdd, Nat.reduceMul, Int.reduceToNat, Int.toNat_natCast, Int.toNat_zero, Int.toNat_one, Nat.zero_mul]; rfl) | rfl)) (by rfl) ?_; conv => whnf)
      | (refine ix_sym (by omega) ?_; conv => whnf))
    | (refine lcall_id ?_; (refine lcall_ret (fun w' hloc => sum_T _ _ 1 [(A, cp, zs.take (zs.length - 2))] w' (zs.take (zs.length - 2)) (bls_tag hloc (by rfl) (by exact hbl) (all_cons ⟨by rw [htl]; exact (irow_loc hr hloc).take (by omega), hn0⟩ all_nil)) rfl (all_one _) (hu.take _) (by rw [List.length_take]; omega) (by decide)) ?_; conv => whnf))
    | (refine lload_id ?_; first
      | (fail)
      | (refine load_old _ (by with_reducible assumption) (by simp; done) ?_; conv => whnf))
    | (refine lixs_id ?_; (refine ixs_nat hr (by omega) ?_; intro _ _ _; conv => whnf))
    | (refine ex_id ?_; first
      | ((with_reducible refine ex_z (rst_a h) ?_; conv => whnf))
      | (refine ex_z (by (first | (simp only [Int.reduceAdd, Int.reduceSub, Int.reduceMul, Int.reduceNeg, Int.reduceMod, Int.reduceDiv, Int.reduceTMod, Int.reduceTDiv, Int.zero_add, Int.add_zero]; done) | (simp only [Int.reduceAdd, Int.reduceSub, Int.reduceMul, Int.reduceNeg, Int.reduceMod, Int.reduceDiv, Int.reduceTMod, Int.reduceTDiv, Int.zero_add, Int.add_zero]; rfl) | rfl)) ?_; conv => whnf))
    | (refine sh_id ?_; first
      | ((refine shr_litE (z := (q : Int)) ((2 ^ m : Nat) : Int) hp7.1 (by omega) hz ?_; conv => whnf))
      | (refine sh_z (by omega) (by (first | (simp only [Int.reduceAdd, Int.reduceSub, Int.reduceMul, Int.reduceNeg, Int.reduceMod, Int.reduceDiv, Int.reduceTMod, Int.reduceTDiv, Int.zero_add, Int.add_zero]; done) | (simp only [Int.reduceAdd, Int.reduceSub, Int.reduceMul, Int.reduceNeg, Int.reduceMod, Int.reduceDiv, Int.reduceTMod, Int.reduceTDiv, Int.zero_add, Int.add_zero]; rfl) | rfl)) ?_; conv => whnf))
    | (refine quo_id ?_; first
      | (refine quo_in (by omega) (by (first | (simp only [Int.reduceAdd, Int.reduceSub, Int.reduceMul, Int.reduceNeg, Int.reduceMod, Int.reduceDiv, Int.reduceTMod, Int.reduceTDiv, Int.zero_add, Int.add_zero]; done) | (simp only [Int.reduceAdd, Int.reduceSub, Int.reduceMul, Int.reduceNeg, Int.reduceMod, Int.reduceDiv, Int.reduceTMod, Int.reduceTDiv, Int.zero_add, Int.add_zero]; rfl) | rfl)) (by (dsimp only [inR]; first | decide | omega)) ?_; conv => whnf)
      | (refine quo_t (by omega) (by (dsimp only [inR]; first | decide | omega)) ?_; conv => whnf))
    | (refine rem_id ?_; first
      | (refine rem_in (by omega) (by (first | (simp only [Int.reduceAdd, Int.reduceSub, Int.reduceMul, Int.reduceNeg, Int.reduceMod, Int.reduceDiv, Int.reduceTMod, Int.reduceTDiv, Int.zero_add, Int.add_zero]; done) | (simp only [Int.reduceAdd, Int.reduceSub, Int.reduceMul, Int.reduceNeg, Int.reduceMod, Int.reduceDiv, Int.reduceTMod, Int.reduceTDiv, Int.zero_add, Int.add_zero]; rfl) | rfl)) ?_; conv => whnf)
      | (refine rem_t (by omega) ?_; conv => whnf))
    | (refine app_id ?_; refine app_i (by (first | (simp only [Nat.zero_add, Nat.add_zero, Nat.mul_one, Nat.reduceAdd, Nat.reduceMul, Int.reduceToNat, Int.toNat_natCast, Int.toNat_zero, Int.toNat_one, Nat.zero_mul]; done) | (simp only [Nat.zero_add, Nat.add_zero, Nat.mul_one, Nat.reduceAdd, Nat.reduceMul, Int.reduceToNat, Int.toNat_natCast, Int.toNat_zero, Int.toNat_one, Nat.zero_mul]; rfl) | rfl)) (by (first | (simp only [List.nil_append, List.cons_append, List.append_nil]; done) | (simp only [List.nil_append, List.cons_append, List.append_nil]; rfl) | rfl)) (by first | omega | (change _ * 1 ≤ _; omega) | (change _ * 8 ≤ _; omega) | (change _ * 2 ≤ _; omega) | (change _ * 4 ≤ _; omega) | (change _ * 16 ≤ _; omega) | (change _ * 24 ≤ _; omega) | (change _ * 32 ≤ _; omega) | (change _ * 40 ≤ _; omega)) (by first | omega | decide) ?_; intro _ _ _; conv => whnf)
    | (refine mk_id ?_; first | (refine mk_lit (by rfl) (by rfl) (by decide) (by rfl) ?_; conv => whnf) | (refine mk_sym _ (by first | rfl | omega) (by first | rfl | omega) (by omega) (by omega) ?_; conv => whnf))
    | (refine sl_id ?_; (refine sl_pre 701 (by omega) (show ((zs.length : Int) - 2).toNat = zs.length - 2 by omega) ?_; conv => whnf))
    | (refine eff_id ?_; fail)
    | (refine val_id ?_; fail)
    | (refine x_rnd ?_)
    | (refine x_rnd' ?_)
    | (refine xdrw_id ?_; fail))
  refine x_loopA [] (fun j : Nat => [(10, i64 j), (3, i64 (crcF 65535 (zs.take j) : Nat))]) (fun _ => []) (fun j => j ≤ zs.length) (fun j => zs.length - j) 0 (by rfl) (by rfl) (by rfl) (by omega) (by (repeat (first | exact trivial | ((conv => whnf); refine And.intro (by first | rfl | exact congrArg (Value.int _) (by omega)) ?_)))) (by (repeat (first | exact trivial | ((conv => whnf); refine And.intro (by rfl) ?_)))) ?_
  rintro j hj
  dsimp only [appF, appM]
  have hs := crcF_lt (s := 65535) (by decide) (hu.take j)
  by_cases hlt : j < zs.length
  · have e2 := crcF_take 65535 hlt
    have hub := hu.getN j
    obtain ⟨b, hb⟩ : ∃ b, (zs.getD j 0).toNat = b := ⟨_, rfl⟩
    rw [hb] at hub e2
    obtain ⟨s, hs1⟩ : ∃ s, crcF 65535 (zs.take j) = s := ⟨_, rfl⟩
    rw [hs1] at hs e2 ⊢
    repeat' (first
      | (fail)
      | (refine run_c tab_ok ?_; conv => whnf)
      | (refine side_id ?_; refine side_i (by first | rfl | exact ⟨rfl, rfl, rfl, rfl⟩ | trivial | (simp [allOne, partsOne, Value.cells, Value.oneCell']; done) | fail) ?_; conv => whnf)
      | (refine ar_id ?_; first
        | (refine ar_in (by (first | (simp only [Int.reduceAdd, Int.reduceSub, Int.reduceMul, Int.reduceNeg, Int.reduceMod, Int.reduceDiv, Int.reduceTMod, Int.reduceTDiv, Int.zero_add, Int.add_zero]; done) | (simp only [Int.reduceAdd, Int.reduceSub, Int.reduceMul, Int.reduceNeg, Int.reduceMod, Int.reduceDiv, Int.reduceTMod, Int.reduceTDiv, Int.zero_add, Int.add_zero]; rfl) | rfl)) (by (dsimp only [inR]; first | decide | omega)) ?_; conv => whnf)
        | (fail))
      | (refine new_i ?_; intro _; conv => whnf)
      | (refine br_id ?_; first
        | (refine br_t (by first | decide | omega | (with_reducible rfl) | fail | (simp only [cellEq, toB]; omega) | (simp only [cellEq, toB]; simp; done) | fail) ?_; conv => whnf)
        | (refine br_f (by first | decide | omega | (with_reducible exact Bool.false_ne_true) | (with_reducible refine not_not_intro ?_; fail) | (simp only [cellEq, toB]; omega) | (simp only [cellEq, toB]; simp; done) | fail) ?_; conv => whnf)
        | ((refine br_any (fun h => ?_) (fun h => ?_) <;> (try simp only [cellEq, toB, Bool.not_eq_true, Bool.not_eq_false] at h) <;> (try (exfalso; first | omega | contradiction | (simp at h; done) | fail); done) <;> conv => whnf)))
      | (refine ix_id ?_; first
        | (refine ix_lit (by first | decide | omega) (by (first | (simp only [Nat.zero_add, Nat.add_zero, Nat.mul_one, Nat.reduceAdd, Nat.reduceMul, Int.reduceToNat, Int.toNat_natCast, Int.toNat_zero, Int.toNat_one, Nat.zero_mul]; done) | (simp only [Nat.zero_add, Nat.add_zero, Nat.mul_one, Nat.reduceAdd, Nat.reduceMul, Int.reduceToNat, Int.toNat_natCast, Int.toNat_zero, Int.toNat_one, Nat.zero_mul]; rfl) | rfl)) (by rfl) ?_; conv => whnf)
        | (refine ix_sym (by omega) ?_; conv => whnf))
      | (refine lcall_id ?_; (refine lcall_ret (fun w' hloc => sum_T _ _ 1 [(A, cp, zs.take (zs.length - 2))] w' (zs.take (zs.length - 2)) (bls_tag hloc (by rfl) (by exact hbl) (all_cons ⟨by rw [htl]; exact (irow_loc hr hloc).take (by omega), hn0⟩ all_nil)) rfl (all_one _) (hu.take _) (by rw [List.length_take]; omega) (by decide)) ?_; conv => whnf))
      | (refine lload_id ?_; first
        | (fail)
        | (refine load_old _ (by with_reducible assumption) (by simp; done) ?_; conv => whnf))
      | (refine lixs_id ?_; (refine ixs_nat hr (by omega) ?_; intro _ _ _; conv => whnf))
      | (refine ex_id ?_; first
        | ((with_reducible refine ex_z (rst_a h) ?_; conv => whnf))
        | (refine ex_z (by (first | (simp only [Int.reduceAdd, Int.reduceSub, Int.reduceMul, Int.reduceNeg, Int.reduceMod, Int.reduceDiv, Int.reduceTMod, Int.reduceTDiv, Int.zero_add, Int.add_zero]; done) | (simp only [Int.reduceAdd, Int.reduceSub, Int.reduceMul, Int.reduceNeg, Int.reduceMod, Int.reduceDiv, Int.reduceTMod, Int.reduceTDiv, Int.zero_add, Int.add_zero]; rfl) | rfl)) ?_; conv => whnf))
      | (refine sh_id ?_; first
        | ((refine shr_litE (z := (q : Int)) ((2 ^ m : Nat) : Int) hp7.1 (by omega) hz ?_; conv => whnf))
        | (refine sh_z (by omega) (by (first | (simp only [Int.reduceAdd, Int.reduceSub, Int.reduceMul, Int.reduceNeg, Int.reduceMod, Int.reduceDiv, Int.reduceTMod, Int.reduceTDiv, Int.zero_add, Int.add_zero]; done) | (simp only [Int.reduceAdd, Int.reduceSub, Int.reduceMul, Int.reduceNeg, Int.reduceMod, Int.reduceDiv, Int.reduceTMod, Int.reduceTDiv, Int.zero_add, Int.add_zero]; rfl) | rfl)) ?_; conv => whnf))
      | (refine quo_id ?_; first
        | (refine quo_in (by omega) (by (first | (simp only [Int.reduceAdd, Int.reduceSub, Int.reduceMul, Int.reduceNeg, Int.reduceMod, Int.reduceDiv, Int.reduceTMod, Int.reduceTDiv, Int.zero_add, Int.add_zero]; done) | (simp only [Int.reduceAdd, Int.reduceSub, Int.reduceMul, Int.reduceNeg, Int.reduceMod, Int.reduceDiv, Int.reduceTMod, Int.reduceTDiv, Int.zero_add, Int.add_zero]; rfl) | rfl)) (by (dsimp only [inR]; first | decide | omega)) ?_; conv => whnf)
        | (refine quo_t (by omega) (by (dsimp only [inR]; first | decide | omega)) ?_; conv => whnf))
      | (refine rem_id ?_; first
        | (refine rem_in (by omega) (by (first | (simp only [Int.reduceAdd, Int.reduceSub, Int.reduceMul, Int.reduceNeg, Int.reduceMod, Int.reduceDiv, Int.reduceTMod, Int.reduceTDiv, Int.zero_add, Int.add_zero]; done) | (simp only [Int.reduceAdd, Int.reduceSub, Int.reduceMul, Int.reduceNeg, Int.reduceMod, Int.reduceDiv, Int.reduceTMod, Int.reduceTDiv, Int.zero_add, Int.add_zero]; rfl) | rfl)) ?_; conv => whnf)
        | (refine rem_t (by omega) ?_; conv => whnf))
      | (refine app_id ?_; refine app_i (by (first | (simp only [Nat.zero_add, Nat.add_zero, Nat.mul_one, Nat.reduceAdd, Nat.reduceMul, Int.reduceToNat, Int.toNat_natCast, Int.toNat_zero, Int.toNat_one, Nat.zero_mul]; done) | (simp only [Nat.zero_add, Nat.add_zero, Nat.mul_one, Nat.reduceAdd, Nat.reduceMul, Int.reduceToNat, Int.toNat_natCast, Int.toNat_zero, Int.toNat_one, Nat.zero_mul]; rfl) | rfl)) (by (first | (simp only [List.nil_append, List.cons_append, List.append_nil]; done) | (simp only [List.nil_append, List.cons_append, List.append_nil]; rfl) | rfl)) (by first | omega | (change _ * 1 ≤ _; omega) | (change _ * 8 ≤ _; omega) | (change _ * 2 ≤ _; omega) | (change _ * 4 ≤ _; omega) | (change _ * 16 ≤ _; omega) | (change _ * 24 ≤ _; omega) | (change _ * 32 ≤ _; omega) | (change _ * 40 ≤ _; omega)) (by first | omega | decide) ?_; intro _ _ _; conv => whnf)
      | (refine mk_id ?_; first | (refine mk_lit (by rfl) (by rfl) (by decide) (by rfl) ?_; conv => whnf) | (refine mk_sym _ (by first | rfl | omega) (by first | rfl | omega) (by omega) (by omega) ?_; conv => whnf))
      | (refine sl_id ?_; (refine sl_pre 701 (by omega) (show ((zs.length : Int) - 2).toNat = zs.length - 2 by omega) ?_; conv => whnf))
      | (refine eff_id ?_; fail)
      | (refine val_id ?_; fail)
      | (refine x_rnd ?_)
      | (refine x_rnd' ?_)
      | (refine xdrw_id ?_; fail))
    rw [← hub.2]
    refine x_loopA [] (fun i : Nat => [(6, i64 ((i : Int) - 1)), (3, i64 (rstn s b (8 - i) : Nat))]) (fun _ => []) (fun i => i ≤ 8) (fun i => i) 8 (by rfl) (by rfl) (by rfl) (by omega) (by (repeat (first | exact trivial | ((conv => whnf); refine And.intro (by first | rfl | exact congrArg (Value.int _) (by omega)) ?_)))) (by (repeat (first | exact trivial | ((conv => whnf); refine And.intro (by rfl) ?_)))) ?_
    rintro i hi
    dsimp only [appF, appM]
    rcases Nat.eq_zero_or_pos i with rfl | hpos
    · skip
      repeat' (first
        | (fail)
        | (refine run_c tab_ok ?_; conv => whnf)
        | (refine side_id ?_; refine side_i (by first | rfl | exact ⟨rfl, rfl, rfl, rfl⟩ | trivial | (simp [allOne, partsOne, Value.cells, Value.oneCell']; done) | fail) ?_; conv => whnf)
        | (refine ar_id ?_; first
          | (refine ar_in (by (first | (simp only [Int.reduceAdd, Int.reduceSub, Int.reduceMul, Int.reduceNeg, Int.reduceMod, Int.reduceDiv, Int.reduceTMod, Int.reduceTDiv, Int.zero_add, Int.add_zero]; done) | (simp only [Int.reduceAdd, Int.reduceSub, Int.reduceMul, Int.reduceNeg, Int.reduceMod, Int.reduceDiv, Int.reduceTMod, Int.reduceTDiv, Int.zero_add, Int.add_zero]; rfl) | rfl)) (by (dsimp only [inR]; first | decide | omega)) ?_; conv => whnf)
          | (fail))
        | (refine new_i ?_; intro _; conv => whnf)
        | (refine br_id ?_; first
          | (refine br_t (by first | decide | omega | (with_reducible rfl) | fail | (simp only [cellEq, toB]; omega) | (simp only [cellEq, toB]; simp; done) | fail) ?_; conv => whnf)
          | (refine br_f (by first | decide | omega | (with_reducible exact Bool.false_ne_true) | (with_reducible refine not_not_intro ?_; fail) | (simp only [cellEq, toB]; omega) | (simp only [cellEq, toB]; simp; done) | fail) ?_; conv => whnf)
          | ((refine br_any (fun h => ?_) (fun h => ?_) <;> (try simp only [cellEq, toB, Bool.not_eq_true, Bool.not_eq_false] at h) <;> (try (exfalso; first | omega | contradiction | (simp at h; done) | fail); done) <;> conv => whnf)))
        | (refine ix_id ?_; first
          | (refine ix_lit (by first | decide | omega) (by (first | (simp only [Nat.zero_add, Nat.add_zero, Nat.mul_one, Nat.reduceAdd, Nat.reduceMul, Int.reduceToNat, Int.toNat_natCast, Int.toNat_zero, Int.toNat_one, Nat.zero_mul]; done) | (simp only [Nat.zero_add, Nat.add_zero, Nat.mul_one, Nat.reduceAdd, Nat.reduceMul, Int.reduceToNat, Int.toNat_natCast, Int.toNat_zero, Int.toNat_one, Nat.zero_mul]; rfl) | rfl)) (by rfl) ?_; conv => whnf)
          | (refine ix_sym (by omega) ?_; conv => whnf))
        | (refine lcall_id ?_; (refine lcall_ret (fun w' hloc => sum_T _ _ 1 [(A, cp, zs.take (zs.length - 2))] w' (zs.take (zs.length - 2)) (bls_tag hloc (by rfl) (by exact hbl) (all_cons ⟨by rw [htl]; exact (irow_loc hr hloc).take (by omega), hn0⟩ all_nil)) rfl (all_one _) (hu.take _) (by rw [List.length_take]; omega) (by decide)) ?_; conv => whnf))
        | (refine lload_id ?_; first
          | (fail)
          | (refine load_old _ (by with_reducible assumption) (by simp; done) ?_; conv => whnf))
        | (refine lixs_id ?_; (refine ixs_nat hr (by omega) ?_; intro _ _ _; conv => whnf))
        | (refine ex_id ?_; first
          | ((with_reducible refine ex_z (rst_a h) ?_; conv => whnf))
          | (refine ex_z (by (first | (simp only [Int.reduceAdd, Int.reduceSub, Int.reduceMul, Int.reduceNeg, Int.reduceMod, Int.reduceDiv, Int.reduceTMod, Int.reduceTDiv, Int.zero_add, Int.add_zero]; done) | (simp only [Int.reduceAdd, Int.reduceSub, Int.reduceMul, Int.reduceNeg, Int.reduceMod, Int.reduceDiv, Int.reduceTMod, Int.reduceTDiv, Int.zero_add, Int.add_zero]; rfl) | rfl)) ?_; conv => whnf))
        | (refine sh_id ?_; first
          | ((refine shr_litE (z := (q : Int)) ((2 ^ m : Nat) : Int) hp7.1 (by omega) hz ?_; conv => whnf))
          | (refine sh_z (by omega) (by (first | (simp only [Int.reduceAdd, Int.reduceSub, Int.reduceMul, Int.reduceNeg, Int.reduceMod, Int.reduceDiv, Int.reduceTMod, Int.reduceTDiv, Int.zero_add, Int.add_zero]; done) | (simp only [Int.reduceAdd, Int.reduceSub, Int.reduceMul, Int.reduceNeg, Int.reduceMod, Int.reduceDiv, Int.reduceTMod, Int.reduceTDiv, Int.zero_add, Int.add_zero]; rfl) | rfl)) ?_; conv => whnf))
        | (refine quo_id ?_; first
          | (refine quo_in (by omega) (by (first | (simp only [Int.reduceAdd, Int.reduceSub, Int.reduceMul, Int.reduceNeg, Int.reduceMod, Int.reduceDiv, Int.reduceTMod, Int.reduceTDiv, Int.zero_add, Int.add_zero]; done) | (simp only [Int.reduceAdd, Int.reduceSub, Int.reduceMul, Int.reduceNeg, Int.reduceMod, Int.reduceDiv, Int.reduceTMod, Int.reduceTDiv, Int.zero_add, Int.add_zero]; rfl) | rfl)) (by (dsimp only [inR]; first | decide | omega)) ?_; conv => whnf)
          | (refine quo_t (by omega) (by (dsimp only [inR]; first | decide | omega)) ?_; conv => whnf))
        | (refine rem_id ?_; first
          | (refine rem_in (by omega) (by (first | (simp only [Int.reduceAdd, Int.reduceSub, Int.reduceMul, Int.reduceNeg, Int.reduceMod, Int.reduceDiv, Int.reduceTMod, Int.reduceTDiv, Int.zero_add, Int.add_zero]; done) | (simp only [Int.reduceAdd, Int.reduceSub, Int.reduceMul, Int.reduceNeg, Int.reduceMod, Int.reduceDiv, Int.reduceTMod, Int.reduceTDiv, Int.zero_add, Int.add_zero]; rfl) | rfl)) ?_; conv => whnf)
          | (refine rem_t (by omega) ?_; conv => whnf))
        | (refine app_id ?_; refine app_i (by (first | (simp only [Nat.zero_add, Nat.add_zero, Nat.mul_one, Nat.reduceAdd, Nat.reduceMul, Int.reduceToNat, Int.toNat_natCast, Int.toNat_zero, Int.toNat_one, Nat.zero_mul]; done) | (simp only [Nat.zero_add, Nat.add_zero, Nat.mul_one, Nat.reduceAdd, Nat.reduceMul, Int.reduceToNat, Int.toNat_natCast, Int.toNat_zero, Int.toNat_one, Nat.zero_mul]; rfl) | rfl)) (by (first | (simp only [List.nil_append, List.cons_append, List.append_nil]; done) | (simp only [List.nil_append, List.cons_append, List.append_nil]; rfl) | rfl)) (by first | omega | (change _ * 1 ≤ _; omega) | (change _ * 8 ≤ _; omega) | (change _ * 2 ≤ _; omega) | (change _ * 4 ≤ _; omega) | (change _ * 16 ≤ _; omega) | (change _ * 24 ≤ _; omega) | (change _ * 32 ≤ _; omega) | (change _ * 40 ≤ _; omega)) (by first | omega | decide) ?_; intro _ _ _; conv => whnf)
        | (refine mk_id ?_; first | (refine mk_lit (by rfl) (by rfl) (by decide) (by rfl) ?_; conv => whnf) | (refine mk_sym _ (by first | rfl | omega) (by first | rfl | omega) (by omega) (by omega) ?_; conv => whnf))
        | (refine sl_id ?_; (refine sl_pre 701 (by omega) (show ((zs.length : Int) - 2).toNat = zs.length - 2 by omega) ?_; conv => whnf))
        | (refine eff_id ?_; fail)
        | (refine val_id ?_; fail)
        | (refine x_rnd ?_)
        | (refine x_rnd' ?_)
        | (refine xdrw_id ?_; fail))
      refine x_roundA (j + 1) (by omega) (by omega) ?_ (by (repeat (first | exact trivial | ((conv => whnf); refine And.intro rfl ?_)))) (by (repeat (first | exact trivial | ((conv => whnf); refine And.intro (by rfl) ?_))))
      rw [e2, ← rst8_eq hs (by omega), ← rstn8]
      (repeat (first | exact trivial | ((conv => whnf); refine And.intro (by first | rfl | exact congrArg (Value.int _) (by omega)) ?_)))
    · obtain ⟨m, rfl⟩ : ∃ m, i = m + 1 := ⟨i - 1, by omega⟩
      have hp7 := pow7 (show m ≤ 7 by omega)
      have hrs := rstn_lt hs (b := b) (8 - (m + 1))
      have e3 : rstn s b (8 - m) = rst (rstn s b (8 - (m + 1))) (b / 2 ^ m % 2) := by
        rw [show 8 - m = (8 - (m + 1)) + 1 by omega, rstn, show 7 - (8 - (m + 1)) = m by omega]
      obtain ⟨s2, hs2⟩ : ∃ s2, rstn s b (8 - (m + 1)) = s2 := ⟨_, rfl⟩
      rw [hs2] at hrs e3 ⊢
      rw [show ((m + 1 : Nat) : Int) - 1 = m by omega]
      have hbm : b / 2 ^ m ≤ b := Nat.div_le_self _ _
      have hz : (b : Int) / ((2 ^ m : Nat) : Int) = ((b / 2 ^ m : Nat) : Int) := (Int.natCast_ediv b (2 ^ m)).symm
      obtain ⟨q, hq⟩ : ∃ q, b / 2 ^ m = q := ⟨_, rfl⟩
      rw [hq] at hbm hz e3
      repeat' (first
        | (fail)
        | (refine run_c tab_ok ?_; conv => whnf)
        | (refine side_id ?_; refine side_i (by first | rfl | exact ⟨rfl, rfl, rfl, rfl⟩ | trivial | (simp [allOne, partsOne, Value.cells, Value.oneCell']; done) | fail) ?_; conv => whnf)
        | (refine ar_id ?_; first
          | (refine ar_in (by (first | (simp only [Int.reduceAdd, Int.reduceSub, Int.reduceMul, Int.reduceNeg, Int.reduceMod, Int.reduceDiv, Int.reduceTMod, Int.reduceTDiv, Int.zero_add, Int.add_zero]; done) | (simp only [Int.reduceAdd, Int.reduceSub, Int.reduceMul, Int.reduceNeg, Int.reduceMod, Int.reduceDiv, Int.reduceTMod, Int.reduceTDiv, Int.zero_add, Int.add_zero]; rfl) | rfl)) (by (dsimp only [inR]; first | decide | omega)) ?_; conv => whnf)
          | (fail))
        | (refine new_i ?_; intro _; conv => whnf)
        | (refine br_id ?_; first
          | (refine br_t (by first | decide | omega | (with_reducible rfl) | fail | (simp only [cellEq, toB]; omega) | (simp only [cellEq, toB]; simp; done) | fail) ?_; conv => whnf)
          | (refine br_f (by first | decide | omega | (with_reducible exact Bool.false_ne_true) | (with_reducible refine not_not_intro ?_; fail) | (simp only [cellEq, toB]; omega) | (simp only [cellEq, toB]; simp; done) | fail) ?_; conv => whnf)
          | ((refine br_any (fun h => ?_) (fun h => ?_) <;> (try simp only [cellEq, toB, Bool.not_eq_true, Bool.not_eq_false] at h) <;> (try (exfalso; first | omega | contradiction | (simp at h; done) | fail); done) <;> conv => whnf)))
        | (refine ix_id ?_; first
          | (refine ix_lit (by first | decide | omega) (by (first | (simp only [Nat.zero_add, Nat.add_zero, Nat.mul_one, Nat.reduceAdd, Nat.reduceMul, Int.reduceToNat, Int.toNat_natCast, Int.toNat_zero, Int.toNat_one, Nat.zero_mul]; done) | (simp only [Nat.zero_add, Nat.add_zero, Nat.mul_one, Nat.reduceAdd, Nat.reduceMul, Int.reduceToNat, Int.toNat_natCast, Int.toNat_zero, Int.toNat_one, Nat.zero_mul]; rfl) | rfl)) (by rfl) ?_; conv => whnf)
          | (refine ix_sym (by omega) ?_; conv => whnf))
        | (refine lcall_id ?_; (refine lcall_ret (fun w' hloc => sum_T _ _ 1 [(A, cp, zs.take (zs.length - 2))] w' (zs.take (zs.length - 2)) (bls_tag hloc (by rfl) (by exact hbl) (all_cons ⟨by rw [htl]; exact (irow_loc hr hloc).take (by omega), hn0⟩ all_nil)) rfl (all_one _) (hu.take _) (by rw [List.length_take]; omega) (by decide)) ?_; conv => whnf))
        | (refine lload_id ?_; first
          | (fail)
          | (refine load_old _ (by with_reducible assumption) (by simp; done) ?_; conv => whnf))
        | (refine lixs_id ?_; (refine ixs_nat hr (by omega) ?_; intro _ _ _; conv => whnf))
        | (refine ex_id ?_; first
          | ((with_reducible refine ex_z (rst_a h) ?_; conv => whnf))
          | (refine ex_z (by (first | (simp only [Int.reduceAdd, Int.reduceSub, Int.reduceMul, Int.reduceNeg, Int.reduceMod, Int.reduceDiv, Int.reduceTMod, Int.reduceTDiv, Int.zero_add, Int.add_zero]; done) | (simp only [Int.reduceAdd, Int.reduceSub, Int.reduceMul, Int.reduceNeg, Int.reduceMod, Int.reduceDiv, Int.reduceTMod, Int.reduceTDiv, Int.zero_add, Int.add_zero]; rfl) | rfl)) ?_; conv => whnf))
        | (refine sh_id ?_; first
          | ((refine shr_litE (z := (q : Int)) ((2 ^ m : Nat) : Int) hp7.1 (by omega) hz ?_; conv => whnf))
          | (refine sh_z (by omega) (by (first | (simp only [Int.reduceAdd, Int.reduceSub, Int.reduceMul, Int.reduceNeg, Int.reduceMod, Int.reduceDiv, Int.reduceTMod, Int.reduceTDiv, Int.zero_add, Int.add_zero]; done) | (simp only [Int.reduceAdd, Int.reduceSub, Int.reduceMul, Int.reduceNeg, Int.reduceMod, Int.reduceDiv, Int.reduceTMod, Int.reduceTDiv, Int.zero_add, Int.add_zero]; rfl) | rfl)) ?_; conv => whnf))
        | (refine quo_id ?_; first
          | (refine quo_in (by omega) (by (first | (simp only [Int.reduceAdd, Int.reduceSub, Int.reduceMul, Int.reduceNeg, Int.reduceMod, Int.reduceDiv, Int.reduceTMod, Int.reduceTDiv, Int.zero_add, Int.add_zero]; done) | (simp only [Int.reduceAdd, Int.reduceSub, Int.reduceMul, Int.reduceNeg, Int.reduceMod, Int.reduceDiv, Int.reduceTMod, Int.reduceTDiv, Int.zero_add, Int.add_zero]; rfl) | rfl)) (by (dsimp only [inR]; first | decide | omega)) ?_; conv => whnf)
          | (refine quo_t (by omega) (by (dsimp only [inR]; first | decide | omega)) ?_; conv => whnf))
        | (refine rem_id ?_; first
          | (refine rem_in (by omega) (by (first | (simp only [Int.reduceAdd, Int.reduceSub, Int.reduceMul, Int.reduceNeg, Int.reduceMod, Int.reduceDiv, Int.reduceTMod, Int.reduceTDiv, Int.zero_add, Int.add_zero]; done) | (simp only [Int.reduceAdd, Int.reduceSub, Int.reduceMul, Int.reduceNeg, Int.reduceMod, Int.reduceDiv, Int.reduceTMod, Int.reduceTDiv, Int.zero_add, Int.add_zero]; rfl) | rfl)) ?_; conv => whnf)
          | (refine rem_t (by omega) ?_; conv => whnf))
        | (refine app_id ?_; refine app_i (by (first | (simp only [Nat.zero_add, Nat.add_zero, Nat.mul_one, Nat.reduceAdd, Nat.reduceMul, Int.reduceToNat, Int.toNat_natCast, Int.toNat_zero, Int.toNat_one, Nat.zero_mul]; done) | (simp only [Nat.zero_add, Nat.add_zero, Nat.mul_one, Nat.reduceAdd, Nat.reduceMul, Int.reduceToNat, Int.toNat_natCast, Int.toNat_zero, Int.toNat_one, Nat.zero_mul]; rfl) | rfl)) (by (first | (simp only [List.nil_append, List.cons_append, List.append_nil]; done) | (simp only [List.nil_append, List.cons_append, List.append_nil]; rfl) | rfl)) (by first | omega | (change _ * 1 ≤ _; omega) | (change _ * 8 ≤ _; omega) | (change _ * 2 ≤ _; omega) | (change _ * 4 ≤ _; omega) | (change _ * 16 ≤ _; omega) | (change _ * 24 ≤ _; omega) | (change _ * 32 ≤ _; omega) | (change _ * 40 ≤ _; omega)) (by first | omega | decide) ?_; intro _ _ _; conv => whnf)
        | (refine mk_id ?_; first | (refine mk_lit (by rfl) (by rfl) (by decide) (by rfl) ?_; conv => whnf) | (refine mk_sym _ (by first | rfl | omega) (by first | rfl | omega) (by omega) (by omega) ?_; conv => whnf))
        | (refine sl_id ?_; (refine sl_pre 701 (by omega) (show ((zs.length : Int) - 2).toNat = zs.length - 2 by omega) ?_; conv => whnf))
        | (refine eff_id ?_; fail)
        | (refine val_id ?_; fail)
        | (refine x_rnd ?_)
        | (refine x_rnd' ?_)
        | (refine xdrw_id ?_; fail))
      · refine x_roundA m (by omega) (by omega) ?_ (by (repeat (first | exact trivial | ((conv => whnf); refine And.intro rfl ?_)))) (by (repeat (first | exact trivial | ((conv => whnf); refine And.intro (by rfl) ?_))))
        rw [e3]
        (repeat (first | exact trivial | ((conv => whnf); refine And.intro (by first | rfl | exact congrArg (Value.int _) (by omega)) ?_)))
      · refine x_roundA m (by omega) (by omega) ?_ (by (repeat (first | exact trivial | ((conv => whnf); refine And.intro rfl ?_)))) (by (repeat (first | exact trivial | ((conv => whnf); refine And.intro (by rfl) ?_))))
        rw [e3, rst_b h]
        (repeat (first | exact trivial | ((conv => whnf); refine And.intro (by first | rfl | exact congrArg (Value.int _) (by omega)) ?_)))
  · obtain rfl : j = zs.length := by omega
    rw [List.take_length] at hs ⊢
    repeat' (first
      | (fail)
      | (refine run_c tab_ok ?_; conv => whnf)
      | (refine side_id ?_; refine side_i (by first | rfl | exact ⟨rfl, rfl, rfl, rfl⟩ | trivial | (simp [allOne, partsOne, Value.cells, Value.oneCell']; done) | fail) ?_; conv => whnf)
      | (refine ar_id ?_; first
        | (refine ar_in (by (first | (simp only [Int.reduceAdd, Int.reduceSub, Int.reduceMul, Int.reduceNeg, Int.reduceMod, Int.reduceDiv, Int.reduceTMod, Int.reduceTDiv, Int.zero_add, Int.add_zero]; done) | (simp only [Int.reduceAdd, Int.reduceSub, Int.reduceMul, Int.reduceNeg, Int.reduceMod, Int.reduceDiv, Int.reduceTMod, Int.reduceTDiv, Int.zero_add, Int.add_zero]; rfl) | rfl)) (by (dsimp only [inR]; first | decide | omega)) ?_; conv => whnf)
        | (fail))
      | (refine new_i ?_; intro _; conv => whnf)
      | (refine br_id ?_; first
        | (refine br_t (by first | decide | omega | (with_reducible rfl) | fail | (simp only [cellEq, toB]; omega) | (simp only [cellEq, toB]; simp; done) | fail) ?_; conv => whnf)
        | (refine br_f (by first | decide | omega | (with_reducible exact Bool.false_ne_true) | (with_reducible refine not_not_intro ?_; fail) | (simp only [cellEq, toB]; omega) | (simp only [cellEq, toB]; simp; done) | fail) ?_; conv => whnf)
        | ((refine br_any (fun h => ?_) (fun h => ?_) <;> (try simp only [cellEq, toB, Bool.not_eq_true, Bool.not_eq_false] at h) <;> (try (exfalso; first | omega | contradiction | (simp at h; done) | fail); done) <;> conv => whnf)))
      | (refine ix_id ?_; first
        | (refine ix_lit (by first | decide | omega) (by (first | (simp only [Nat.zero_add, Nat.add_zero, Nat.mul_one, Nat.reduceAdd, Nat.reduceMul, Int.reduceToNat, Int.toNat_natCast, Int.toNat_zero, Int.toNat_one, Nat.zero_mul]; done) | (simp only [Nat.zero_add, Nat.add_zero, Nat.mul_one, Nat.reduceAdd, Nat.reduceMul, Int.reduceToNat, Int.toNat_natCast, Int.toNat_zero, Int.toNat_one, Nat.zero_mul]; rfl) | rfl)) (by rfl) ?_; conv => whnf)
        | (refine ix_sym (by omega) ?_; conv => whnf))
      | (refine lcall_id ?_; (refine lcall_ret (fun w' hloc => sum_T _ _ 1 [(A, cp, zs.take (zs.length - 2))] w' (zs.take (zs.length - 2)) (bls_tag hloc (by rfl) (by exact hbl) (all_cons ⟨by rw [htl]; exact (irow_loc hr hloc).take (by omega), hn0⟩ all_nil)) rfl (all_one _) (hu.take _) (by rw [List.length_take]; omega) (by decide)) ?_; conv => whnf))
      | (refine lload_id ?_; first
        | (fail)
        | (refine load_old _ (by with_reducible assumption) (by simp; done) ?_; conv => whnf))
      | (refine lixs_id ?_; (refine ixs_nat hr (by omega) ?_; intro _ _ _; conv => whnf))
      | (refine ex_id ?_; first
        | ((with_reducible refine ex_z (rst_a h) ?_; conv => whnf))
        | (refine ex_z (by (first | (simp only [Int.reduceAdd, Int.reduceSub, Int.reduceMul, Int.reduceNeg, Int.reduceMod, Int.reduceDiv, Int.reduceTMod, Int.reduceTDiv, Int.zero_add, Int.add_zero]; done) | (simp only [Int.reduceAdd, Int.reduceSub, Int.reduceMul, Int.reduceNeg, Int.reduceMod, Int.reduceDiv, Int.reduceTMod, Int.reduceTDiv, Int.zero_add, Int.add_zero]; rfl) | rfl)) ?_; conv => whnf))
      | (refine sh_id ?_; first
        | ((refine shr_litE (z := (q : Int)) ((2 ^ m : Nat) : Int) hp7.1 (by omega) hz ?_; conv => whnf))
        | (refine sh_z (by omega) (by (first | (simp only [Int.reduceAdd, Int.reduceSub, Int.reduceMul, Int.reduceNeg, Int.reduceMod, Int.reduceDiv, Int.reduceTMod, Int.reduceTDiv, Int.zero_add, Int.add_zero]; done) | (simp only [Int.reduceAdd, Int.reduceSub, Int.reduceMul, Int.reduceNeg, Int.reduceMod, Int.reduceDiv, Int.reduceTMod, Int.reduceTDiv, Int.zero_add, Int.add_zero]; rfl) | rfl)) ?_; conv => whnf))
      | (refine quo_id ?_; first
        | (refine quo_in (by omega) (by (first | (simp only [Int.reduceAdd, Int.reduceSub, Int.reduceMul, Int.reduceNeg, Int.reduceMod, Int.reduceDiv, Int.reduceTMod, Int.reduceTDiv, Int.zero_add, Int.add_zero]; done) | (simp only [Int.reduceAdd, Int.reduceSub, Int.reduceMul, Int.reduceNeg, Int.reduceMod, Int.reduceDiv, Int.reduceTMod, Int.reduceTDiv, Int.zero_add, Int.add_zero]; rfl) | rfl)) (by (dsimp only [inR]; first | decide | omega)) ?_; conv => whnf)
        | (refine quo_t (by omega) (by (dsimp only [inR]; first | decide | omega)) ?_; conv => whnf))
      | (refine rem_id ?_; first
        | (refine rem_in (by omega) (by (first | (simp only [Int.reduceAdd, Int.reduceSub, Int.reduceMul, Int.reduceNeg, Int.reduceMod, Int.reduceDiv, Int.reduceTMod, Int.reduceTDiv, Int.zero_add, Int.add_zero]; done) | (simp only [Int.reduceAdd, Int.reduceSub, Int.reduceMul, Int.reduceNeg, Int.reduceMod, Int.reduceDiv, Int.reduceTMod, Int.reduceTDiv, Int.zero_add, Int.add_zero]; rfl) | rfl)) ?_; conv => whnf)
        | (refine rem_t (by omega) ?_; conv => whnf))
      | (refine app_id ?_; refine app_i (by (first | (simp only [Nat.zero_add, Nat.add_zero, Nat.mul_one, Nat.reduceAdd, Nat.reduceMul, Int.reduceToNat, Int.toNat_natCast, Int.toNat_zero, Int.toNat_one, Nat.zero_mul]; done) | (simp only [Nat.zero_add, Nat.add_zero, Nat.mul_one, Nat.reduceAdd, Nat.reduceMul, Int.reduceToNat, Int.toNat_natCast, Int.toNat_zero, Int.toNat_one, Nat.zero_mul]; rfl) | rfl)) (by (first | (simp only [List.nil_append, List.cons_append, List.append_nil]; done) | (simp only [List.nil_append, List.cons_append, List.append_nil]; rfl) | rfl)) (by first | omega | (change _ * 1 ≤ _; omega) | (change _ * 8 ≤ _; omega) | (change _ * 2 ≤ _; omega) | (change _ * 4 ≤ _; omega) | (change _ * 16 ≤ _; omega) | (change _ * 24 ≤ _; omega) | (change _ * 32 ≤ _; omega) | (change _ * 40 ≤ _; omega)) (by first | omega | decide) ?_; intro _ _ _; conv => whnf)
      | (refine mk_id ?_; first | (refine mk_lit (by rfl) (by rfl) (by decide) (by rfl) ?_; conv => whnf) | (refine mk_sym _ (by first | rfl | omega) (by first | rfl | omega) (by omega) (by omega) ?_; conv => whnf))
      | (refine sl_id ?_; (refine sl_pre 701 (by omega) (show ((zs.length : Int) - 2).toNat = zs.length - 2 by omega) ?_; conv => whnf))
      | (refine eff_id ?_; fail)
      | (refine val_id ?_; fail)
      | (refine x_rnd ?_)
      | (refine x_rnd' ?_)
      | (refine xdrw_id ?_; fail))
    (refine fin_ret ?_)
    rfl
end Go.Proofs.Ytpblllkkcpahgaa
