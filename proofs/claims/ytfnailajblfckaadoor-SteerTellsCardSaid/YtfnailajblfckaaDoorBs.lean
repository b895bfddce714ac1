/- Sets of units (bits.Set): contracts. -/
import Derived.Test.YtfnailajblfckaaDoorTb
import Derived.Test.YtfnailajblfckaaDoorGs
import Derived.Test.YtfnailajblfckaaDoorBn
namespace Go.Proofs.YtfnailajblfckaaDoor
set_option linter.unusedSimpArgs false
set_option linter.unusedVariables false
set_option linter.unnecessarySimpa false
set_option maxRecDepth 100000
open Go.RowKit

/-- A set as a value. -/
abbrev setV (s : Nat) : SV := .int .u16 (s : Int)
theorem bv16_andNot (a b : BitVec 16) : (a &&& ~~~b).toNat = a.toNat &&& (65535 ^^^ b.toNat) := by
  rw [BitVec.toNat_and]
  refine congrArg (a.toNat &&& ·) ?_
  have h6 : (~~~b).toNat = 2 ^ 16 - 1 - b.toNat := BitVec.toNat_not
  rw [h6]
  have hb := b.isLt
  apply Nat.eq_of_testBit_eq
  intro j
  rw [show 2 ^ 16 - 1 - b.toNat = 2 ^ 16 - (b.toNat + 1) by omega, Nat.testBit_two_pow_sub_succ hb, Nat.testBit_xor, show (65535 : Nat) = 2 ^ 16 - 1 from rfl, Nat.testBit_two_pow_sub_one]
  by_cases hj : j < 16
  · simp [hj]
  · rw [Nat.testBit_lt_two_pow (Nat.lt_of_lt_of_le hb (Nat.pow_le_pow_right (by decide) (by omega)))]
    simp [hj]
theorem bits16 {a b : Nat} (ha : a < 65536) (hb : b < 65536) : bits .and .u16 (a : Int) (b : Int) = ((a &&& b : Nat) : Int) ∧ bits .or .u16 (a : Int) (b : Int) = ((a ||| b : Nat) : Int) ∧ bits .andNot .u16 (a : Int) (b : Int) = ((lessN a b : Nat) : Int) := by
  have hw : ∀ n : Int, 0 ≤ n → n < 2 ^ 16 → IntKind.u16.wrap n = n := fun n h0 h1 => wrap_in (by dsimp only [inR]; have : (2 : Int) ^ 16 = 65536 := (by decide); omega)
  refine ⟨(bits_nat .u16 16 (by decide) hw a b ha hb).1, (bits_nat .u16 16 (by decide) hw a b ha hb).2, ?_⟩
  have ea : (BitVec.ofInt 16 (a : Int)).toNat = a := by rw [BitVec.ofInt_natCast, BitVec.toNat_ofNat]; exact Nat.mod_eq_of_lt ha
  have eb : (BitVec.ofInt 16 (b : Int)).toNat = b := by rw [BitVec.ofInt_natCast, BitVec.toNat_ofNat]; exact Nat.mod_eq_of_lt hb
  have e := bv16_andNot (BitVec.ofInt 16 (a : Int)) (BitVec.ofInt 16 (b : Int))
  rw [ea, eb] at e
  show IntKind.u16.wrap ((BitVec.ofInt 16 (a : Int) &&& ~~~ (BitVec.ofInt 16 (b : Int))).toNat : Int) = _
  rw [e]
  have := lessN_lt (t := b) ha
  exact hw _ (Int.natCast_nonneg _) (by have : (2 : Int) ^ 16 = 65536 := (by decide); unfold lessN at *; omega)
theorem shl_one {i : Int} {X : Int → Prop} (h : 0 ≤ i ∧ i < 16) (nx : X ((oneN i : Nat) : Int)) : LSh i (IntKind.u16.wrap (1 * 2 ^ (min i.toNat IntKind.u16.bits))) X := by
  refine ⟨h.1, _, rfl, ?_⟩
  have e : oneN i = 2 ^ i.toNat := by unfold oneN; rw [if_pos h]
  have h1 : min i.toNat IntKind.u16.bits = i.toNat := by have : IntKind.u16.bits = 16 := rfl; omega
  have hlt := oneN_lt i
  rw [h1, Int.one_mul, show (2 : Int) ^ i.toNat = ((oneN i : Nat) : Int) by rw [e]; simp, wrap_in (by dsimp only [inR]; omega)]
  exact nx
theorem one_S (i : Int) (w : World) : RetS Tryd.prog 28 [.int .i64 i] w (setV (oneN i)) := by
  refine ret_x tab_ok Tryd.func28 rfl Tryd.ntmps28 (by rfl) ?_; simp only [argX, Nat.reduceAdd, Nat.zero_add]; conv => whnf
  repeat' (first | (refine run_c tab_ok ?_; conv => whnf) | (refine side_id ?_; refine side_i (by first | rfl | exact ⟨rfl, rfl, rfl, rfl⟩ | trivial | (simp [allOne, partsOne, Value.cells, Value.oneCell']; done) | fail) ?_; conv => whnf) | (refine ar_id ?_; first | (refine ar_in (by (first | (simp only [Int.reduceAdd, Int.reduceSub, Int.reduceMul, Int.reduceNeg, Int.reduceMod, Int.reduceDiv, Int.reduceTMod, Int.reduceTDiv, Int.zero_add, Int.add_zero] <;> rfl) | rfl)) (by (dsimp only [inR]; first | decide | omega)) ?_; conv => whnf)) | (refine new_i ?_; intro _; conv => whnf) | (refine br_id ?_; first | (refine br_t (by first | decide | omega | (with_reducible rfl) | fail | (simp only [cellEq, toB]; omega) | (simp only [cellEq, toB]; simp; done) | fail) ?_; conv => whnf) | (refine br_f (by first | decide | omega | (with_reducible exact Bool.false_ne_true) | (with_reducible refine not_not_intro ?_; fail) | (simp only [cellEq, toB]; omega) | (simp only [cellEq, toB]; simp; done) | fail) ?_; conv => whnf) | ((refine br_any (fun h => ?_) (fun h => ?_) <;> (try simp only [cellEq, toB, Bool.not_eq_true, Bool.not_eq_false] at h) <;> (try (exfalso; first | omega | contradiction | (simp at h; done) | fail); done) <;> conv => whnf))) | (refine ix_id ?_; first | (refine ix_lit (by first | decide | omega) (by (first | (simp only [Nat.zero_add, Nat.add_zero, Nat.mul_one, Nat.reduceAdd, Nat.reduceMul, Int.reduceToNat, Int.toNat_natCast, Int.toNat_zero, Int.toNat_one, Nat.zero_mul] <;> rfl) | rfl)) (by rfl) ?_; conv => whnf) | (refine ix_sym (by omega) ?_; conv => whnf)) | (refine lload_id ?_; first | (refine load_old _ (by with_reducible assumption) (by simp; done) ?_; conv => whnf)) | (refine ex_id ?_; first | (refine ex_z (by (first | (simp only [Int.reduceAdd, Int.reduceSub, Int.reduceMul, Int.reduceNeg, Int.reduceMod, Int.reduceDiv, Int.reduceTMod, Int.reduceTDiv, Int.zero_add, Int.add_zero] <;> rfl) | rfl)) ?_; conv => whnf)) | (refine sh_id ?_; first | ((refine shl_one (by omega) ?_; conv => whnf)) | (refine sh_z (by omega) (by (first | (simp only [Int.reduceAdd, Int.reduceSub, Int.reduceMul, Int.reduceNeg, Int.reduceMod, Int.reduceDiv, Int.reduceTMod, Int.reduceTDiv, Int.zero_add, Int.add_zero] <;> rfl) | rfl)) ?_; conv => whnf)) | (refine quo_id ?_; first | (refine quo_in (by omega) (by (first | (simp only [Int.reduceAdd, Int.reduceSub, Int.reduceMul, Int.reduceNeg, Int.reduceMod, Int.reduceDiv, Int.reduceTMod, Int.reduceTDiv, Int.zero_add, Int.add_zero] <;> rfl) | rfl)) (by (dsimp only [inR]; first | decide | omega)) ?_; conv => whnf) | (refine quo_t (by omega) (by (dsimp only [inR]; first | decide | omega)) ?_; conv => whnf)) | (refine rem_id ?_; first | (refine rem_in (by omega) (by (first | (simp only [Int.reduceAdd, Int.reduceSub, Int.reduceMul, Int.reduceNeg, Int.reduceMod, Int.reduceDiv, Int.reduceTMod, Int.reduceTDiv, Int.zero_add, Int.add_zero] <;> rfl) | rfl)) ?_; conv => whnf) | (refine rem_t (by omega) ?_; conv => whnf)) | (refine app_id ?_; refine app_i (by (first | (simp only [Nat.zero_add, Nat.add_zero, Nat.mul_one, Nat.reduceAdd, Nat.reduceMul, Int.reduceToNat, Int.toNat_natCast, Int.toNat_zero, Int.toNat_one, Nat.zero_mul] <;> rfl) | rfl)) (by (first | (simp only [List.nil_append, List.cons_append, List.append_nil] <;> rfl) | rfl)) (by first | omega | (change _ * 1 ≤ _; omega) | (change _ * 8 ≤ _; omega) | (change _ * 2 ≤ _; omega) | (change _ * 4 ≤ _; omega) | (change _ * 16 ≤ _; omega) | (change _ * 24 ≤ _; omega) | (change _ * 32 ≤ _; omega) | (change _ * 40 ≤ _; omega)) (by first | omega | decide) ?_; intro _ _ _; conv => whnf) | (refine mk_id ?_; first | (refine mk_lit (by rfl) (by rfl) (by decide) (by rfl) ?_; conv => whnf) | (refine mk_sym _ (by first | rfl | omega) (by first | rfl | omega) (by omega) (by omega) ?_; conv => whnf)) | (refine x_rnd ?_) | (refine x_rnd' ?_))
  · (refine fin_ret ?_)
    unfold oneN
    rw [if_neg (by omega)]
    rfl
  · (refine fin_ret ?_)
    unfold oneN
    rw [if_neg (by omega)]
    rfl
  · (refine fin_ret ?_)
    rfl
theorem has_S (s : Nat) (i : Int) (w : World) (hs : s < 65536) : RetS Tryd.prog 10 [setV s, .int .i64 i] w (.boo (hasN s i)) := by
  refine ret_x tab_ok Tryd.func10 rfl Tryd.ntmps10 (by rfl) ?_; simp only [argX, Nat.reduceAdd, Nat.zero_add]; conv => whnf
  repeat' (first | (refine run_c tab_ok ?_; conv => whnf) | (refine side_id ?_; refine side_i (by first | rfl | exact ⟨rfl, rfl, rfl, rfl⟩ | trivial | (simp [allOne, partsOne, Value.cells, Value.oneCell']; done) | fail) ?_; conv => whnf) | (refine ar_id ?_; first | (refine ar_in (by (first | (simp only [Int.reduceAdd, Int.reduceSub, Int.reduceMul, Int.reduceNeg, Int.reduceMod, Int.reduceDiv, Int.reduceTMod, Int.reduceTDiv, Int.zero_add, Int.add_zero] <;> rfl) | rfl)) (by (dsimp only [inR]; first | decide | omega)) ?_; conv => whnf)) | (refine new_i ?_; intro _; conv => whnf) | (refine br_id ?_; first | (refine br_t (by first | decide | omega | (with_reducible rfl) | fail | (simp only [cellEq, toB]; omega) | (simp only [cellEq, toB]; simp; done) | fail) ?_; conv => whnf) | (refine br_f (by first | decide | omega | (with_reducible exact Bool.false_ne_true) | (with_reducible refine not_not_intro ?_; fail) | (simp only [cellEq, toB]; omega) | (simp only [cellEq, toB]; simp; done) | fail) ?_; conv => whnf) | ((refine br_any (fun h => ?_) (fun h => ?_) <;> (try simp only [cellEq, toB, Bool.not_eq_true, Bool.not_eq_false] at h) <;> (try (exfalso; first | omega | contradiction | (simp at h; done) | fail); done) <;> conv => whnf))) | (refine ix_id ?_; first | (refine ix_lit (by first | decide | omega) (by (first | (simp only [Nat.zero_add, Nat.add_zero, Nat.mul_one, Nat.reduceAdd, Nat.reduceMul, Int.reduceToNat, Int.toNat_natCast, Int.toNat_zero, Int.toNat_one, Nat.zero_mul] <;> rfl) | rfl)) (by rfl) ?_; conv => whnf) | (refine ix_sym (by omega) ?_; conv => whnf)) | (refine lcall_id ?_; (refine lcall_ret (fun w' hl => one_S i w') ?_; conv => whnf)) | (refine lload_id ?_; first | (refine load_old _ (by with_reducible assumption) (by simp; done) ?_; conv => whnf)) | (refine ex_id ?_; first | ((refine ex_z (bits16 hs (oneN_lt _)).1 ?_; conv => whnf)) | (refine ex_z (by (first | (simp only [Int.reduceAdd, Int.reduceSub, Int.reduceMul, Int.reduceNeg, Int.reduceMod, Int.reduceDiv, Int.reduceTMod, Int.reduceTDiv, Int.zero_add, Int.add_zero] <;> rfl) | rfl)) ?_; conv => whnf)) | (refine sh_id ?_; first | (refine sh_z (by omega) (by (first | (simp only [Int.reduceAdd, Int.reduceSub, Int.reduceMul, Int.reduceNeg, Int.reduceMod, Int.reduceDiv, Int.reduceTMod, Int.reduceTDiv, Int.zero_add, Int.add_zero] <;> rfl) | rfl)) ?_; conv => whnf)) | (refine quo_id ?_; first | (refine quo_in (by omega) (by (first | (simp only [Int.reduceAdd, Int.reduceSub, Int.reduceMul, Int.reduceNeg, Int.reduceMod, Int.reduceDiv, Int.reduceTMod, Int.reduceTDiv, Int.zero_add, Int.add_zero] <;> rfl) | rfl)) (by (dsimp only [inR]; first | decide | omega)) ?_; conv => whnf) | (refine quo_t (by omega) (by (dsimp only [inR]; first | decide | omega)) ?_; conv => whnf)) | (refine rem_id ?_; first | (refine rem_in (by omega) (by (first | (simp only [Int.reduceAdd, Int.reduceSub, Int.reduceMul, Int.reduceNeg, Int.reduceMod, Int.reduceDiv, Int.reduceTMod, Int.reduceTDiv, Int.zero_add, Int.add_zero] <;> rfl) | rfl)) ?_; conv => whnf) | (refine rem_t (by omega) ?_; conv => whnf)) | (refine app_id ?_; refine app_i (by (first | (simp only [Nat.zero_add, Nat.add_zero, Nat.mul_one, Nat.reduceAdd, Nat.reduceMul, Int.reduceToNat, Int.toNat_natCast, Int.toNat_zero, Int.toNat_one, Nat.zero_mul] <;> rfl) | rfl)) (by (first | (simp only [List.nil_append, List.cons_append, List.append_nil] <;> rfl) | rfl)) (by first | omega | (change _ * 1 ≤ _; omega) | (change _ * 8 ≤ _; omega) | (change _ * 2 ≤ _; omega) | (change _ * 4 ≤ _; omega) | (change _ * 16 ≤ _; omega) | (change _ * 24 ≤ _; omega) | (change _ * 32 ≤ _; omega) | (change _ * 40 ≤ _; omega)) (by first | omega | decide) ?_; intro _ _ _; conv => whnf) | (refine mk_id ?_; first | (refine mk_lit (by rfl) (by rfl) (by decide) (by rfl) ?_; conv => whnf) | (refine mk_sym _ (by first | rfl | omega) (by first | rfl | omega) (by omega) (by omega) ?_; conv => whnf)) | (refine x_rnd ?_) | (refine x_rnd' ?_))
  (refine fin_ret ?_)
  refine congrArg Value.bool ?_
  have e := has_and s i
  rw [Bool.eq_iff_iff, ← e]
  simp
theorem withN_take {s : Nat} {zs : List Int} {j : Nat} (h : j < zs.length) : withN s (zs.take (j + 1)) = withN s (zs.take j) ||| oneN (zs.getD j 0) := by
  have e : zs.take (j + 1) = zs.take j ++ [zs.getD j 0] := by rw [List.take_add_one]; simp [h]
  rw [e, withN_snoc]
theorem with_S (s : Nat) (h : Nat) (A : Option Addr) (n cp : Nat) (zs : List Int) (w : World) (hs : s < 65536) (hr : IRow .i64 w A n zs) (hn : n ≤ 9223372036854775807) :
    RetS Tryd.prog 24 [setV s, .sl h A n cp] w (setV (withN s zs)) := by
  have hlen := hr.1
  refine ret_x tab_ok Tryd.func24 rfl Tryd.ntmps24 (by rfl) ?_; simp only [argX, Nat.reduceAdd, Nat.zero_add]; conv => whnf
  repeat' (first | (refine run_c tab_ok ?_; conv => whnf) | (refine side_id ?_; refine side_i (by first | rfl | exact ⟨rfl, rfl, rfl, rfl⟩ | trivial | (simp [allOne, partsOne, Value.cells, Value.oneCell']; done) | fail) ?_; conv => whnf) | (refine ar_id ?_; first | (refine ar_in (by (first | (simp only [Int.reduceAdd, Int.reduceSub, Int.reduceMul, Int.reduceNeg, Int.reduceMod, Int.reduceDiv, Int.reduceTMod, Int.reduceTDiv, Int.zero_add, Int.add_zero] <;> rfl) | rfl)) (by (dsimp only [inR]; first | decide | omega)) ?_; conv => whnf)) | (refine new_i ?_; intro _; conv => whnf) | (refine br_id ?_; first | (refine br_t (by first | decide | omega | (with_reducible rfl) | fail | (simp only [cellEq, toB]; omega) | (simp only [cellEq, toB]; simp; done) | fail) ?_; conv => whnf) | (refine br_f (by first | decide | omega | (with_reducible exact Bool.false_ne_true) | (with_reducible refine not_not_intro ?_; fail) | (simp only [cellEq, toB]; omega) | (simp only [cellEq, toB]; simp; done) | fail) ?_; conv => whnf) | ((refine br_any (fun h => ?_) (fun h => ?_) <;> (try simp only [cellEq, toB, Bool.not_eq_true, Bool.not_eq_false] at h) <;> (try (exfalso; first | omega | contradiction | (simp at h; done) | fail); done) <;> conv => whnf))) | (refine ix_id ?_; first | (refine ix_lit (by first | decide | omega) (by (first | (simp only [Nat.zero_add, Nat.add_zero, Nat.mul_one, Nat.reduceAdd, Nat.reduceMul, Int.reduceToNat, Int.toNat_natCast, Int.toNat_zero, Int.toNat_one, Nat.zero_mul] <;> rfl) | rfl)) (by rfl) ?_; conv => whnf) | (refine ix_sym (by omega) ?_; conv => whnf)) | (refine lcall_id ?_; (refine lcall_ret (fun w' hl => one_S _ w') ?_; conv => whnf)) | (refine lload_id ?_; first | (refine load_old _ (by with_reducible assumption) (by simp; done) ?_; conv => whnf)) | (refine lixs_id ?_; (refine ixs_nat hr (by omega) ?_; intro _ _ _; conv => whnf)) | (refine ex_id ?_; first | ((refine ex_z (bits16 hj2 (oneN_lt _)).2.1 ?_; conv => whnf)) | (refine ex_z (by (first | (simp only [Int.reduceAdd, Int.reduceSub, Int.reduceMul, Int.reduceNeg, Int.reduceMod, Int.reduceDiv, Int.reduceTMod, Int.reduceTDiv, Int.zero_add, Int.add_zero] <;> rfl) | rfl)) ?_; conv => whnf)) | (refine sh_id ?_; first | (refine sh_z (by omega) (by (first | (simp only [Int.reduceAdd, Int.reduceSub, Int.reduceMul, Int.reduceNeg, Int.reduceMod, Int.reduceDiv, Int.reduceTMod, Int.reduceTDiv, Int.zero_add, Int.add_zero] <;> rfl) | rfl)) ?_; conv => whnf)) | (refine quo_id ?_; first | (refine quo_in (by omega) (by (first | (simp only [Int.reduceAdd, Int.reduceSub, Int.reduceMul, Int.reduceNeg, Int.reduceMod, Int.reduceDiv, Int.reduceTMod, Int.reduceTDiv, Int.zero_add, Int.add_zero] <;> rfl) | rfl)) (by (dsimp only [inR]; first | decide | omega)) ?_; conv => whnf) | (refine quo_t (by omega) (by (dsimp only [inR]; first | decide | omega)) ?_; conv => whnf)) | (refine rem_id ?_; first | (refine rem_in (by omega) (by (first | (simp only [Int.reduceAdd, Int.reduceSub, Int.reduceMul, Int.reduceNeg, Int.reduceMod, Int.reduceDiv, Int.reduceTMod, Int.reduceTDiv, Int.zero_add, Int.add_zero] <;> rfl) | rfl)) ?_; conv => whnf) | (refine rem_t (by omega) ?_; conv => whnf)) | (refine app_id ?_; refine app_i (by (first | (simp only [Nat.zero_add, Nat.add_zero, Nat.mul_one, Nat.reduceAdd, Nat.reduceMul, Int.reduceToNat, Int.toNat_natCast, Int.toNat_zero, Int.toNat_one, Nat.zero_mul] <;> rfl) | rfl)) (by (first | (simp only [List.nil_append, List.cons_append, List.append_nil] <;> rfl) | rfl)) (by first | omega | (change _ * 1 ≤ _; omega) | (change _ * 8 ≤ _; omega) | (change _ * 2 ≤ _; omega) | (change _ * 4 ≤ _; omega) | (change _ * 16 ≤ _; omega) | (change _ * 24 ≤ _; omega) | (change _ * 32 ≤ _; omega) | (change _ * 40 ≤ _; omega)) (by first | omega | decide) ?_; intro _ _ _; conv => whnf) | (refine mk_id ?_; first | (refine mk_lit (by rfl) (by rfl) (by decide) (by rfl) ?_; conv => whnf) | (refine mk_sym _ (by first | rfl | omega) (by first | rfl | omega) (by omega) (by omega) ?_; conv => whnf)) | (refine x_rnd ?_) | (refine x_rnd' ?_))
  refine x_loopA [] (fun j : Nat => [(9, .int .i64 j), (0, setV (withN s (zs.take j)))]) (fun _ => []) (fun j => j ≤ n) (fun j => n - j) 0 (by rfl) (by rfl) (by rfl) (by omega) (by (repeat (first | exact trivial | ((conv => whnf); refine And.intro (by first | rfl | exact congrArg (Value.int _) (by omega)) ?_)))) (by (repeat (first | exact trivial | ((conv => whnf); refine And.intro (by rfl) ?_)))) ?_
  intro j hj
  dsimp only [appF, appM] at hj ⊢
  have hj2 : withN s (zs.take j) < 65536 := withN_lt hs _
  repeat' (first | (refine run_c tab_ok ?_; conv => whnf) | (refine side_id ?_; refine side_i (by first | rfl | exact ⟨rfl, rfl, rfl, rfl⟩ | trivial | (simp [allOne, partsOne, Value.cells, Value.oneCell']; done) | fail) ?_; conv => whnf) | (refine ar_id ?_; first | (refine ar_in (by (first | (simp only [Int.reduceAdd, Int.reduceSub, Int.reduceMul, Int.reduceNeg, Int.reduceMod, Int.reduceDiv, Int.reduceTMod, Int.reduceTDiv, Int.zero_add, Int.add_zero] <;> rfl) | rfl)) (by (dsimp only [inR]; first | decide | omega)) ?_; conv => whnf)) | (refine new_i ?_; intro _; conv => whnf) | (refine br_id ?_; first | (refine br_t (by first | decide | omega | (with_reducible rfl) | fail | (simp only [cellEq, toB]; omega) | (simp only [cellEq, toB]; simp; done) | fail) ?_; conv => whnf) | (refine br_f (by first | decide | omega | (with_reducible exact Bool.false_ne_true) | (with_reducible refine not_not_intro ?_; fail) | (simp only [cellEq, toB]; omega) | (simp only [cellEq, toB]; simp; done) | fail) ?_; conv => whnf) | ((refine br_any (fun h => ?_) (fun h => ?_) <;> (try simp only [cellEq, toB, Bool.not_eq_true, Bool.not_eq_false] at h) <;> (try (exfalso; first | omega | contradiction | (simp at h; done) | fail); done) <;> conv => whnf))) | (refine ix_id ?_; first | (refine ix_lit (by first | decide | omega) (by (first | (simp only [Nat.zero_add, Nat.add_zero, Nat.mul_one, Nat.reduceAdd, Nat.reduceMul, Int.reduceToNat, Int.toNat_natCast, Int.toNat_zero, Int.toNat_one, Nat.zero_mul] <;> rfl) | rfl)) (by rfl) ?_; conv => whnf) | (refine ix_sym (by omega) ?_; conv => whnf)) | (refine lcall_id ?_; (refine lcall_ret (fun w' hl => one_S _ w') ?_; conv => whnf)) | (refine lload_id ?_; first | (refine load_old _ (by with_reducible assumption) (by simp; done) ?_; conv => whnf)) | (refine lixs_id ?_; (refine ixs_nat hr (by omega) ?_; intro _ _ _; conv => whnf)) | (refine ex_id ?_; first | ((refine ex_z (bits16 hj2 (oneN_lt _)).2.1 ?_; conv => whnf)) | (refine ex_z (by (first | (simp only [Int.reduceAdd, Int.reduceSub, Int.reduceMul, Int.reduceNeg, Int.reduceMod, Int.reduceDiv, Int.reduceTMod, Int.reduceTDiv, Int.zero_add, Int.add_zero] <;> rfl) | rfl)) ?_; conv => whnf)) | (refine sh_id ?_; first | (refine sh_z (by omega) (by (first | (simp only [Int.reduceAdd, Int.reduceSub, Int.reduceMul, Int.reduceNeg, Int.reduceMod, Int.reduceDiv, Int.reduceTMod, Int.reduceTDiv, Int.zero_add, Int.add_zero] <;> rfl) | rfl)) ?_; conv => whnf)) | (refine quo_id ?_; first | (refine quo_in (by omega) (by (first | (simp only [Int.reduceAdd, Int.reduceSub, Int.reduceMul, Int.reduceNeg, Int.reduceMod, Int.reduceDiv, Int.reduceTMod, Int.reduceTDiv, Int.zero_add, Int.add_zero] <;> rfl) | rfl)) (by (dsimp only [inR]; first | decide | omega)) ?_; conv => whnf) | (refine quo_t (by omega) (by (dsimp only [inR]; first | decide | omega)) ?_; conv => whnf)) | (refine rem_id ?_; first | (refine rem_in (by omega) (by (first | (simp only [Int.reduceAdd, Int.reduceSub, Int.reduceMul, Int.reduceNeg, Int.reduceMod, Int.reduceDiv, Int.reduceTMod, Int.reduceTDiv, Int.zero_add, Int.add_zero] <;> rfl) | rfl)) ?_; conv => whnf) | (refine rem_t (by omega) ?_; conv => whnf)) | (refine app_id ?_; refine app_i (by (first | (simp only [Nat.zero_add, Nat.add_zero, Nat.mul_one, Nat.reduceAdd, Nat.reduceMul, Int.reduceToNat, Int.toNat_natCast, Int.toNat_zero, Int.toNat_one, Nat.zero_mul] <;> rfl) | rfl)) (by (first | (simp only [List.nil_append, List.cons_append, List.append_nil] <;> rfl) | rfl)) (by first | omega | (change _ * 1 ≤ _; omega) | (change _ * 8 ≤ _; omega) | (change _ * 2 ≤ _; omega) | (change _ * 4 ≤ _; omega) | (change _ * 16 ≤ _; omega) | (change _ * 24 ≤ _; omega) | (change _ * 32 ≤ _; omega) | (change _ * 40 ≤ _; omega)) (by first | omega | decide) ?_; intro _ _ _; conv => whnf) | (refine mk_id ?_; first | (refine mk_lit (by rfl) (by rfl) (by decide) (by rfl) ?_; conv => whnf) | (refine mk_sym _ (by first | rfl | omega) (by first | rfl | omega) (by omega) (by omega) ?_; conv => whnf)) | (refine x_rnd ?_) | (refine x_rnd' ?_))
  · refine x_roundA (j + 1) (by omega) (by omega) ?_ (by (repeat (first | exact trivial | ((conv => whnf); refine And.intro rfl ?_)))) (by (repeat (first | exact trivial | ((conv => whnf); refine And.intro (by rfl) ?_))))
    rw [withN_take (by omega)]
    (repeat (first | exact trivial | ((conv => whnf); refine And.intro (by first | rfl | exact congrArg (Value.int _) (by omega)) ?_)))
  · obtain rfl : j = n := by omega
    rw [List.take_of_length_le (by omega)]
    (refine fin_ret ?_)
    rfl
theorem with_B (s : Nat) (h b : Nat) (zs : List Int) (n cp : Nat) (w : World) (hs : s < 65536) (hr : IRt h .i64 w (some ⟨b, 0, none⟩) n zs) (hn : n ≤ 9223372036854775807) :
    RetS Tryd.prog 24 [setV s, .slB h b 0 n cp] w (setV (withN s zs)) := ⟨(with_S s 0 _ n cp zs w hs hr hn).go⟩
theorem of_S (h : Nat) (A : Option Addr) (n cp : Nat) (zs : List Int) (w : World) (hr : IRow .i64 w A n zs) (hn : n ≤ 9223372036854775807) :
    RetS Tryd.prog 8 [.sl h A n cp] w (setV (withN 0 zs)) := by
  refine ret_x tab_ok Tryd.func8 rfl Tryd.ntmps8 (by rfl) ?_; simp only [argX, Nat.reduceAdd, Nat.zero_add]; conv => whnf
  repeat' (first | (refine run_c tab_ok ?_; conv => whnf) | (refine side_id ?_; refine side_i (by first | rfl | exact ⟨rfl, rfl, rfl, rfl⟩ | trivial | (simp [allOne, partsOne, Value.cells, Value.oneCell']; done) | fail) ?_; conv => whnf) | (refine ar_id ?_; first | (refine ar_in (by (first | (simp only [Int.reduceAdd, Int.reduceSub, Int.reduceMul, Int.reduceNeg, Int.reduceMod, Int.reduceDiv, Int.reduceTMod, Int.reduceTDiv, Int.zero_add, Int.add_zero] <;> rfl) | rfl)) (by (dsimp only [inR]; first | decide | omega)) ?_; conv => whnf)) | (refine new_i ?_; intro _; conv => whnf) | (refine br_id ?_; first | (refine br_t (by first | decide | omega | (with_reducible rfl) | fail | (simp only [cellEq, toB]; omega) | (simp only [cellEq, toB]; simp; done) | fail) ?_; conv => whnf) | (refine br_f (by first | decide | omega | (with_reducible exact Bool.false_ne_true) | (with_reducible refine not_not_intro ?_; fail) | (simp only [cellEq, toB]; omega) | (simp only [cellEq, toB]; simp; done) | fail) ?_; conv => whnf) | ((refine br_any (fun h => ?_) (fun h => ?_) <;> (try simp only [cellEq, toB, Bool.not_eq_true, Bool.not_eq_false] at h) <;> (try (exfalso; first | omega | contradiction | (simp at h; done) | fail); done) <;> conv => whnf))) | (refine ix_id ?_; first | (refine ix_lit (by first | decide | omega) (by (first | (simp only [Nat.zero_add, Nat.add_zero, Nat.mul_one, Nat.reduceAdd, Nat.reduceMul, Int.reduceToNat, Int.toNat_natCast, Int.toNat_zero, Int.toNat_one, Nat.zero_mul] <;> rfl) | rfl)) (by rfl) ?_; conv => whnf) | (refine ix_sym (by omega) ?_; conv => whnf)) | (refine lcall_id ?_; (refine lcall_ret (fun w' hl => with_S 0 _ A n cp zs w' (by decide) (irow_loc hr hl) hn) ?_; conv => whnf)) | (refine lload_id ?_; first | (refine load_old _ (by with_reducible assumption) (by simp; done) ?_; conv => whnf)) | (refine ex_id ?_; first | ((refine ex_z (bits16 hj2 (oneN_lt _)).2.1 ?_; conv => whnf)) | (refine ex_z (by (first | (simp only [Int.reduceAdd, Int.reduceSub, Int.reduceMul, Int.reduceNeg, Int.reduceMod, Int.reduceDiv, Int.reduceTMod, Int.reduceTDiv, Int.zero_add, Int.add_zero] <;> rfl) | rfl)) ?_; conv => whnf)) | (refine sh_id ?_; first | (refine sh_z (by omega) (by (first | (simp only [Int.reduceAdd, Int.reduceSub, Int.reduceMul, Int.reduceNeg, Int.reduceMod, Int.reduceDiv, Int.reduceTMod, Int.reduceTDiv, Int.zero_add, Int.add_zero] <;> rfl) | rfl)) ?_; conv => whnf)) | (refine quo_id ?_; first | (refine quo_in (by omega) (by (first | (simp only [Int.reduceAdd, Int.reduceSub, Int.reduceMul, Int.reduceNeg, Int.reduceMod, Int.reduceDiv, Int.reduceTMod, Int.reduceTDiv, Int.zero_add, Int.add_zero] <;> rfl) | rfl)) (by (dsimp only [inR]; first | decide | omega)) ?_; conv => whnf) | (refine quo_t (by omega) (by (dsimp only [inR]; first | decide | omega)) ?_; conv => whnf)) | (refine rem_id ?_; first | (refine rem_in (by omega) (by (first | (simp only [Int.reduceAdd, Int.reduceSub, Int.reduceMul, Int.reduceNeg, Int.reduceMod, Int.reduceDiv, Int.reduceTMod, Int.reduceTDiv, Int.zero_add, Int.add_zero] <;> rfl) | rfl)) ?_; conv => whnf) | (refine rem_t (by omega) ?_; conv => whnf)) | (refine app_id ?_; refine app_i (by (first | (simp only [Nat.zero_add, Nat.add_zero, Nat.mul_one, Nat.reduceAdd, Nat.reduceMul, Int.reduceToNat, Int.toNat_natCast, Int.toNat_zero, Int.toNat_one, Nat.zero_mul] <;> rfl) | rfl)) (by (first | (simp only [List.nil_append, List.cons_append, List.append_nil] <;> rfl) | rfl)) (by first | omega | (change _ * 1 ≤ _; omega) | (change _ * 8 ≤ _; omega) | (change _ * 2 ≤ _; omega) | (change _ * 4 ≤ _; omega) | (change _ * 16 ≤ _; omega) | (change _ * 24 ≤ _; omega) | (change _ * 32 ≤ _; omega) | (change _ * 40 ≤ _; omega)) (by first | omega | decide) ?_; intro _ _ _; conv => whnf) | (refine mk_id ?_; first | (refine mk_lit (by rfl) (by rfl) (by decide) (by rfl) ?_; conv => whnf) | (refine mk_sym _ (by first | rfl | omega) (by first | rfl | omega) (by omega) (by omega) ?_; conv => whnf)) | (refine x_rnd ?_) | (refine x_rnd' ?_))
  (refine fin_ret ?_)
  rfl
theorem of_B (h b : Nat) (zs : List Int) (n cp : Nat) (w : World) (hr : IRt h .i64 w (some ⟨b, 0, none⟩) n zs) (hn : n ≤ 9223372036854775807) :
    RetS Tryd.prog 8 [.slB h b 0 n cp] w (setV (withN 0 zs)) := ⟨(of_S 0 _ n cp zs w hr hn).go⟩
/-- The library's table, as it lies. -/
def tzTab : List Int := [0, 1, 28, 2, 29, 14, 24, 3, 30, 22, 20, 15, 25, 17, 4, 8, 31, 27, 13, 23, 21, 19, 16, 7, 26, 12, 18, 6, 11, 5, 10, 9]
def Tz (w : World) : Prop := ∀ j, j < 32 → w.cell? ⟨0, 0 + j * 1, none⟩ = some (SV.int .u8 (tzTab.getD j 0)).den
theorem Tz.loc {w w' : World} {is : List Itm} (h : Tz w) (hl : Loc w [] is w') : Tz w' := fun j hj => hl.old (h j hj) (by simp)
theorem Tz.below {w w' : World} (h : Tz w) (hb : Below w.heap.size w w') : Tz w' := h.loc (Loc.of_below hb)
theorem bits_low {s k : Nat} (hs : s < 65536) (hk : k < 16) (h1 : s.testBit k = true) (h0 : ∀ j, j < k → s.testBit j = false) : bits .and .u16 (s : Int) (IntKind.u16.wrap (-(s : Int))) = ((2 ^ k : Nat) : Int) := by
  have hpos : 0 < s := by
    rcases Nat.eq_zero_or_pos s with h | h
    · subst h; simp at h1
    · exact h
  have e : IntKind.u16.wrap (-(s : Int)) = ((65536 - s : Nat) : Int) := by
    rw [IntKind.wrap_u16]; omega
  rw [e, (bits16 hs (by omega)).1, low_bit hs hk h1 h0]
/-- What a set has from i on. -/
def hiN (s : Nat) (i : Nat) : Nat := s &&& (65535 * 2 ^ i % 65536)
theorem hiN_bit (s i j : Nat) (hs : s < 65536) : (hiN s i).testBit j = (s.testBit j && decide (i ≤ j)) := by
  unfold hiN
  rw [Nat.testBit_and, Nat.mul_comm, show (65536 : Nat) = 2 ^ 16 from rfl, Nat.testBit_mod_two_pow, Nat.testBit_two_pow_mul, show (65535 : Nat) = 2 ^ 16 - 1 from rfl, Nat.testBit_two_pow_sub_one]
  by_cases hj : j < 16
  · by_cases hi : i ≤ j
    · simp [hj, hi]; omega
    · simp [hj, hi]
  · rw [hi_bit hs (by omega)]
    simp
theorem hiN_lt (s i : Nat) (hs : s < 65536) : hiN s i < 65536 := by
  unfold hiN
  rw [Nat.and_comm]
  exact Nat.and_lt_two_pow (n := 16) _ hs
theorem shl_hi {i : Int} {X : Int → Prop} (h : i < 16) (nx : X ((65535 * 2 ^ i.toNat % 65536 : Nat) : Int)) : LSh (max i 0) (IntKind.u16.wrap (65535 * 2 ^ (min (max i 0).toNat IntKind.u16.bits))) X := by
  refine ⟨by omega, _, rfl, ?_⟩
  have h1 : min (max i 0).toNat IntKind.u16.bits = i.toNat := by have : IntKind.u16.bits = 16 := rfl; omega
  rw [h1, IntKind.wrap_u16]
  have e : (65535 : Int) * 2 ^ i.toNat % 65536 = ((65535 * 2 ^ i.toNat % 65536 : Nat) : Int) := by
    have e2 : (2 : Int) ^ i.toNat = ((2 ^ i.toNat : Nat) : Int) := (Int.natCast_pow 2 i.toNat).symm
    rw [e2]
    generalize 2 ^ i.toNat = x
    omega
  rw [e]
  exact nx
theorem nextN_big {s : Nat} {i : Int} (h : 16 ≤ i) : nextN s i = -1 := by
  unfold nextN
  rw [show 16 - i.toNat = 0 by omega]
  rfl
theorem nextN_none {s : Nat} {i : Int} (hs : s < 65536) (h : hiN s i.toNat = 0) : nextN s i = -1 := by
  unfold nextN
  rcases nxt_spec s (16 - i.toNat) i.toNat with ⟨h1, _⟩ | ⟨k, _, h2, h3, h4, _⟩
  · exact h1
  · have := hiN_bit s i.toNat k hs
    rw [h, h4] at this
    simp at this
    omega
theorem nextN_some {s : Nat} {i : Int} (hs : s < 65536) (h : hiN s i.toNat ≠ 0) : ∃ k : Nat, nextN s i = k ∧ k < 16 ∧ i ≤ k ∧ s.testBit k = true ∧ (hiN s i.toNat).testBit k = true ∧ ∀ j, j < k → (hiN s i.toNat).testBit j = false := by
  unfold nextN
  rcases nxt_spec s (16 - i.toNat) i.toNat with ⟨_, h1⟩ | ⟨k, h1, h2, h3, h4, h5⟩
  · exfalso
    refine h ((set_zero (hiN_lt s _ hs)).2 fun j hj => ?_)
    rw [hiN_bit s _ j hs]
    by_cases hij : i.toNat ≤ j
    · rw [h1 j hij (by omega)]; rfl
    · simp [hij]
  · refine ⟨k, h1, by omega, by omega, h4, ?_, fun j hj => ?_⟩
    · rw [hiN_bit s _ k hs, h4]; simp [h2]
    · rw [hiN_bit s _ j hs]
      by_cases hij : i.toNat ≤ j
      · rw [h5 j hij hj]; rfl
      · simp [hij]
end Go.Proofs.YtfnailajblfckaaDoor
