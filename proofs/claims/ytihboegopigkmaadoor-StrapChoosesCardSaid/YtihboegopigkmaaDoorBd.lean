/- How many units a set has (math/bits.OnesCount16): contract. -/
import Derived.Test.YtihboegopigkmaaDoorBs
import Derived.Test.YtihboegopigkmaaDoorUs
import Derived.Lib.Tables
import Derived.Lib.BitFns
namespace Go.Proofs.YtihboegopigkmaaDoor
set_option linter.unusedSimpArgs false
set_option linter.unusedVariables false
set_option linter.unnecessarySimpa false
set_option maxRecDepth 100000
open Go.RowKit

def cntN (s : Nat) : Nat := Lib.onesCount (s / 256) + Lib.onesCount (s % 256)
theorem val_pop {P : Program} {N : FN} {w0 : World} {S : List Nat} {km mem : Mem} {fs : Fr} {t ty : TypeId} {s : Value} {y : Operand} {k : IntKind} {n : Int} (z : Int) {d : Option Tmp} {pos : String} {aft : Array Edge} {sf : Bool} {X : SV → Prop}
    (hs : s = .string Lib.pop8tab) (hy : opx fs y = some (.int k n)) (ht : P.underlying t = some .string) (h : 0 ≤ n ∧ n ≤ 255) (hz : Lib.pop8 n = z) (nx : X (.int .u8 z)) : LVal P N w0 S km sf ⟨d, .index t (.const s) y, ty, pos, aft, none⟩ fs mem X := by
  subst hs hz
  refine ⟨.int .u8 (Lib.pop8 n), fun a w hk _ _ => ?_, nx⟩
  have ey : a.eval y = .int k n := hk.eval (opx_some hy)
  have ex : a.eval (.const (.string Lib.pop8tab)) = .string Lib.pop8tab := rfl
  have := Lib.run_index_pop8tab (P := P) (w := w) t k n ht h.1 h.2
  simp [execOp, ex, ey, this, SV.den]
theorem pop_nat (n : Nat) (h : n < 256) : Lib.pop8 (n : Int) = (Lib.onesCount n : Int) ∧ Lib.onesCount n ≤ 8 := ⟨Lib.pop8_eq ⟨n, h⟩, Lib.onesCount_le8 ⟨n, h⟩⟩
theorem and255 {s : Nat} (hs : s < 65536) : bits .and .u16 (s : Int) 255 = ((s % 256 : Nat) : Int) := by
  have := (bits16 hs (show (255 : Nat) < 65536 by decide)).1
  rw [show s &&& 255 = s % 256 from Nat.and_two_pow_sub_one_eq_mod s 8] at this
  exact this
theorem ones_S (s : Nat) (w : World) (hs : s < 65536) : RetS Tryd.prog 86 [setV s] w (.int .i64 (cntN s)) := by
  have p1 := pop_nat (s / 256) (by omega)
  have p2 := pop_nat (s % 256) (by omega)
  have h1 : Lib.pop8 ((s : Int) / 256) = (Lib.onesCount (s / 256) : Int) := by rw [← p1.1]; rfl
  have h2 : Lib.pop8 ((s % 256 : Nat) : Int) = (Lib.onesCount (s % 256) : Int) := p2.1
  have p3 := p1.2
  have p4 := p2.2
  refine ret_x tab_ok Tryd.func86 rfl Tryd.ntmps86 (by rfl) ?_; simp only [argX, Nat.reduceAdd, Nat.zero_add]; conv => whnf
  repeat' (first | (refine run_c tab_ok ?_; conv => whnf) | (refine side_id ?_; refine side_i (by first | rfl | exact ⟨rfl, rfl, rfl, rfl⟩ | trivial | (simp [allOne, partsOne, Value.cells, Value.oneCell']; done) | fail) ?_; conv => whnf) | (refine ar_id ?_; first | (refine ar_in (by (first | (simp only [Int.reduceAdd, Int.reduceSub, Int.reduceMul, Int.reduceNeg, Int.reduceMod, Int.reduceDiv, Int.reduceTMod, Int.reduceTDiv, Int.zero_add, Int.add_zero] <;> rfl) | rfl)) (by (dsimp only [inR]; first | decide | omega)) ?_; conv => whnf)) | (refine new_i ?_; intro _; conv => whnf) | (refine br_id ?_; first | (refine br_t (by first | decide | omega | (with_reducible rfl) | fail | (simp only [cellEq, toB]; omega) | (simp only [cellEq, toB]; simp; done) | fail) ?_; conv => whnf) | (refine br_f (by first | decide | omega | (with_reducible exact Bool.false_ne_true) | (with_reducible refine not_not_intro ?_; fail) | (simp only [cellEq, toB]; omega) | (simp only [cellEq, toB]; simp; done) | fail) ?_; conv => whnf) | ((refine br_any (fun h => ?_) (fun h => ?_) <;> (try simp only [cellEq, toB, Bool.not_eq_true, Bool.not_eq_false] at h) <;> (try (exfalso; first | omega | contradiction | (simp at h; done) | fail); done) <;> conv => whnf))) | (refine ix_id ?_; first | (refine ix_lit (by first | decide | omega) (by (first | (simp only [Nat.zero_add, Nat.add_zero, Nat.mul_one, Nat.reduceAdd, Nat.reduceMul, Int.reduceToNat, Int.toNat_natCast, Int.toNat_zero, Int.toNat_one, Nat.zero_mul] <;> rfl) | rfl)) (by rfl) ?_; conv => whnf) | (refine ix_sym (by omega) ?_; conv => whnf)) | (refine lload_id ?_; first | (refine load_old _ (by with_reducible assumption) (by simp; done) ?_; conv => whnf)) | (refine ex_id ?_; first | ((refine ex_z (and255 hs) ?_; conv => whnf)) | (refine ex_z (by (first | (simp only [Int.reduceAdd, Int.reduceSub, Int.reduceMul, Int.reduceNeg, Int.reduceMod, Int.reduceDiv, Int.reduceTMod, Int.reduceTDiv, Int.zero_add, Int.add_zero] <;> rfl) | rfl)) ?_; conv => whnf)) | (refine sh_id ?_; first | ((refine shr_litE 256 (by decide) (by decide) (by rfl) ?_; conv => whnf)) | (refine sh_z (by omega) (by (first | (simp only [Int.reduceAdd, Int.reduceSub, Int.reduceMul, Int.reduceNeg, Int.reduceMod, Int.reduceDiv, Int.reduceTMod, Int.reduceTDiv, Int.zero_add, Int.add_zero] <;> rfl) | rfl)) ?_; conv => whnf)) | (refine quo_id ?_; first | (refine quo_in (by omega) (by (first | (simp only [Int.reduceAdd, Int.reduceSub, Int.reduceMul, Int.reduceNeg, Int.reduceMod, Int.reduceDiv, Int.reduceTMod, Int.reduceTDiv, Int.zero_add, Int.add_zero] <;> rfl) | rfl)) (by (dsimp only [inR]; first | decide | omega)) ?_; conv => whnf) | (refine quo_t (by omega) (by (dsimp only [inR]; first | decide | omega)) ?_; conv => whnf)) | (refine rem_id ?_; first | (refine rem_in (by omega) (by (first | (simp only [Int.reduceAdd, Int.reduceSub, Int.reduceMul, Int.reduceNeg, Int.reduceMod, Int.reduceDiv, Int.reduceTMod, Int.reduceTDiv, Int.zero_add, Int.add_zero] <;> rfl) | rfl)) ?_; conv => whnf) | (refine rem_t (by omega) ?_; conv => whnf)) | (refine app_id ?_; refine app_i (by (first | (simp only [Nat.zero_add, Nat.add_zero, Nat.mul_one, Nat.reduceAdd, Nat.reduceMul, Int.reduceToNat, Int.toNat_natCast, Int.toNat_zero, Int.toNat_one, Nat.zero_mul] <;> rfl) | rfl)) (by (first | (simp only [List.nil_append, List.cons_append, List.append_nil] <;> rfl) | rfl)) (by first | omega | (change _ * 1 ≤ _; omega) | (change _ * 8 ≤ _; omega) | (change _ * 2 ≤ _; omega) | (change _ * 4 ≤ _; omega) | (change _ * 16 ≤ _; omega) | (change _ * 24 ≤ _; omega) | (change _ * 32 ≤ _; omega) | (change _ * 40 ≤ _; omega)) (by first | omega | decide) ?_; intro _ _ _; conv => whnf) | (refine mk_id ?_; first | (refine mk_lit (by rfl) (by rfl) (by decide) (by rfl) ?_; conv => whnf) | (refine mk_sym _ (by first | rfl | omega) (by first | rfl | omega) (by omega) (by omega) ?_; conv => whnf)) | (refine val_id ?_; first | (refine val_pop (Lib.onesCount (s / 256) : Int) (by kernel_rfl) (by rfl) (by rfl) (by omega) h1 ?_; conv => whnf) | (refine val_pop (Lib.onesCount (s % 256) : Int) (by kernel_rfl) (by rfl) (by rfl) (by omega) h2 ?_; conv => whnf)) | (refine x_rnd ?_) | (refine x_rnd' ?_) | (refine xdrw_id ?_; first | (refine x_drw tab_ok (id := 1) [] [] [0, 1, 2, 3, 4, 5, 6, 7, 8] followsMixed (by kernel_rfl) (by rfl) (by rfl) ?_; conv => whnf)))
  (refine fin_ret ?_)
  simp [SV.den, cntN]
theorem count_S (s : Nat) (w : World) (hs : s < 65536) : RetS Tryd.prog 55 [setV s] w (.int .i64 (cntN s)) := by
  refine ret_x tab_ok Tryd.func55 rfl Tryd.ntmps55 (by rfl) ?_; simp only [argX, Nat.reduceAdd, Nat.zero_add]; conv => whnf
  repeat' (first | (refine run_c tab_ok ?_; conv => whnf) | (refine side_id ?_; refine side_i (by first | rfl | exact ⟨rfl, rfl, rfl, rfl⟩ | trivial | (simp [allOne, partsOne, Value.cells, Value.oneCell']; done) | fail) ?_; conv => whnf) | (refine ar_id ?_; first | (refine ar_in (by (first | (simp only [Int.reduceAdd, Int.reduceSub, Int.reduceMul, Int.reduceNeg, Int.reduceMod, Int.reduceDiv, Int.reduceTMod, Int.reduceTDiv, Int.zero_add, Int.add_zero] <;> rfl) | rfl)) (by (dsimp only [inR]; first | decide | omega)) ?_; conv => whnf)) | (refine new_i ?_; intro _; conv => whnf) | (refine br_id ?_; first | (refine br_t (by first | decide | omega | (with_reducible rfl) | fail | (simp only [cellEq, toB]; omega) | (simp only [cellEq, toB]; simp; done) | fail) ?_; conv => whnf) | (refine br_f (by first | decide | omega | (with_reducible exact Bool.false_ne_true) | (with_reducible refine not_not_intro ?_; fail) | (simp only [cellEq, toB]; omega) | (simp only [cellEq, toB]; simp; done) | fail) ?_; conv => whnf) | ((refine br_any (fun h => ?_) (fun h => ?_) <;> (try simp only [cellEq, toB, Bool.not_eq_true, Bool.not_eq_false] at h) <;> (try (exfalso; first | omega | contradiction | (simp at h; done) | fail); done) <;> conv => whnf))) | (refine ix_id ?_; first | (refine ix_lit (by first | decide | omega) (by (first | (simp only [Nat.zero_add, Nat.add_zero, Nat.mul_one, Nat.reduceAdd, Nat.reduceMul, Int.reduceToNat, Int.toNat_natCast, Int.toNat_zero, Int.toNat_one, Nat.zero_mul] <;> rfl) | rfl)) (by rfl) ?_; conv => whnf) | (refine ix_sym (by omega) ?_; conv => whnf)) | (refine lcall_id ?_; (refine lcall_ret (fun w' hl => ones_S s w' hs) ?_; conv => whnf)) | (refine lload_id ?_; first | (refine load_old _ (by with_reducible assumption) (by simp; done) ?_; conv => whnf)) | (refine ex_id ?_; first | ((refine ex_z (and255 hs) ?_; conv => whnf)) | (refine ex_z (by (first | (simp only [Int.reduceAdd, Int.reduceSub, Int.reduceMul, Int.reduceNeg, Int.reduceMod, Int.reduceDiv, Int.reduceTMod, Int.reduceTDiv, Int.zero_add, Int.add_zero] <;> rfl) | rfl)) ?_; conv => whnf)) | (refine sh_id ?_; first | ((refine shr_litE 256 (by decide) (by decide) (by rfl) ?_; conv => whnf)) | (refine sh_z (by omega) (by (first | (simp only [Int.reduceAdd, Int.reduceSub, Int.reduceMul, Int.reduceNeg, Int.reduceMod, Int.reduceDiv, Int.reduceTMod, Int.reduceTDiv, Int.zero_add, Int.add_zero] <;> rfl) | rfl)) ?_; conv => whnf)) | (refine quo_id ?_; first | (refine quo_in (by omega) (by (first | (simp only [Int.reduceAdd, Int.reduceSub, Int.reduceMul, Int.reduceNeg, Int.reduceMod, Int.reduceDiv, Int.reduceTMod, Int.reduceTDiv, Int.zero_add, Int.add_zero] <;> rfl) | rfl)) (by (dsimp only [inR]; first | decide | omega)) ?_; conv => whnf) | (refine quo_t (by omega) (by (dsimp only [inR]; first | decide | omega)) ?_; conv => whnf)) | (refine rem_id ?_; first | (refine rem_in (by omega) (by (first | (simp only [Int.reduceAdd, Int.reduceSub, Int.reduceMul, Int.reduceNeg, Int.reduceMod, Int.reduceDiv, Int.reduceTMod, Int.reduceTDiv, Int.zero_add, Int.add_zero] <;> rfl) | rfl)) ?_; conv => whnf) | (refine rem_t (by omega) ?_; conv => whnf)) | (refine app_id ?_; refine app_i (by (first | (simp only [Nat.zero_add, Nat.add_zero, Nat.mul_one, Nat.reduceAdd, Nat.reduceMul, Int.reduceToNat, Int.toNat_natCast, Int.toNat_zero, Int.toNat_one, Nat.zero_mul] <;> rfl) | rfl)) (by (first | (simp only [List.nil_append, List.cons_append, List.append_nil] <;> rfl) | rfl)) (by first | omega | (change _ * 1 ≤ _; omega) | (change _ * 8 ≤ _; omega) | (change _ * 2 ≤ _; omega) | (change _ * 4 ≤ _; omega) | (change _ * 16 ≤ _; omega) | (change _ * 24 ≤ _; omega) | (change _ * 32 ≤ _; omega) | (change _ * 40 ≤ _; omega)) (by first | omega | decide) ?_; intro _ _ _; conv => whnf) | (refine mk_id ?_; first | (refine mk_lit (by rfl) (by rfl) (by decide) (by rfl) ?_; conv => whnf) | (refine mk_sym _ (by first | rfl | omega) (by first | rfl | omega) (by omega) (by omega) ?_; conv => whnf)) | (refine val_id ?_; first | (refine val_pop (Lib.onesCount (s / 256) : Int) (by kernel_rfl) (by rfl) (by rfl) (by omega) h1 ?_; conv => whnf) | (refine val_pop (Lib.onesCount (s % 256) : Int) (by kernel_rfl) (by rfl) (by rfl) (by omega) h2 ?_; conv => whnf)) | (refine x_rnd ?_) | (refine x_rnd' ?_))
  (refine fin_ret ?_)
  rfl
theorem ulen_congr {s t : Nat} : ∀ n j k, (∀ i, i < n → s.testBit (j + i) = t.testBit (k + i)) → (unitsFrom s n j).length = (unitsFrom t n k).length
  | 0, _, _, _ => rfl
  | n + 1, j, k, h => by
    have h0 := h 0 (by omega)
    have ih := ulen_congr n (j + 1) (k + 1) (fun i hi => by have := h (i + 1) (by omega); rwa [show j + 1 + i = j + (i + 1) by omega, show k + 1 + i = k + (i + 1) by omega])
    simp only [Nat.add_zero] at h0
    unfold unitsFrom
    rw [h0]
    split <;> simp [ih]
theorem unitsFrom_succ (s n j : Nat) : unitsFrom s (n + 1) j = if s.testBit j then j :: unitsFrom s n (j + 1) else unitsFrom s n (j + 1) := rfl
theorem ulen_add (s : Nat) : ∀ m n j, (unitsFrom s (m + n) j).length = (unitsFrom s m j).length + (unitsFrom s n (j + m)).length
  | 0, n, j => by simp [unitsFrom]
  | m + 1, n, j => by
    have ih := ulen_add s m n (j + 1)
    rw [show m + 1 + n = (m + n) + 1 by omega, show j + (m + 1) = j + 1 + m by omega, unitsFrom_succ s (m + n) j, unitsFrom_succ s m j]
    split
    · simp [ih]; omega
    · exact ih
theorem ones_units : ∀ n : Fin 256, Lib.onesCount n.val = (unitsFrom n.val 8 0).length := by decide +kernel
theorem cntN_units {s : Nat} (hs : s < 65536) : cntN s = (uI s).length := by
  unfold cntN uI units
  rw [List.length_map, show (16 : Nat) = 8 + 8 from rfl, ulen_add, ones_units ⟨s / 256, by omega⟩, ones_units ⟨s % 256, by omega⟩, Nat.add_comm]
  congr 1
  · refine ulen_congr 8 0 0 fun i hi => ?_
    show (s % 256).testBit (0 + i) = s.testBit (0 + i)
    rw [show (256 : Nat) = 2 ^ 8 from rfl, Nat.testBit_mod_two_pow]
    simp [hi]
  · refine ulen_congr 8 0 8 fun i hi => ?_
    show (s / 256).testBit (0 + i) = s.testBit (8 + i)
    rw [show (256 : Nat) = 2 ^ 8 from rfl, Nat.testBit_div_two_pow]
    congr 1; omega
end Go.Proofs.YtihboegopigkmaaDoor
