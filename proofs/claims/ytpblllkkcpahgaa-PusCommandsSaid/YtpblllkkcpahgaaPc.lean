/- Layer 10 (pus): what is too short, or too long, or of another version. -/
import Derived.Test.YtpblllkkcpahgaaPa
import Derived.Test.YtpblllkkcpahgaaBz
namespace Go.Proofs.Ytpblllkkcpahgaa
set_option linter.unusedSimpArgs false
set_option linter.unusedVariables false
set_option linter.unnecessarySimpa false
set_option maxRecDepth 100000
open Go.RowKit

theorem cmd9 (w : World) : RetX Try.prog 39 [.agg [u8 9, u8 17, u8 1, u16 0, .sl 0 none 0 0]] w [] (BRes 800 [41, 17, 1, 0, 0] 0) :=
  cmdBytes_X 800 9 17 1 0 0 none 0 0 [] w (by decide) (by decide) (by decide) (by decide) (IRow.nil _ _ _) (fun _ => rfl) (by decide)
theorem awake10_S (w : World) : RetS Try.prog 16 [] w (.lit true) := by
  refine ret_x tab_ok Try.func16 rfl Try.ntmps16 (by rfl) ?_; simp only [argX, Nat.reduceAdd, Nat.zero_add]; conv => whnf
  repeat' (first
    | (fail)
    | (refine run_c tab_ok ?_; conv => whnf)
    | (refine side_id ?_; refine side_i (by first | rfl | exact ⟨rfl, rfl, rfl, rfl⟩ | trivial | (simp [allOne, partsOne, Value.cells, Value.oneCell']; done) | fail) ?_; conv => whnf)
    | (refine ar_id ?_; first
      | (refine ar_in (by (first | (simp only [Int.reduceAdd, Int.reduceSub, Int.reduceMul, Int.reduceNeg, Int.reduceMod, Int.reduceDiv, Int.reduceTMod, Int.reduceTDiv, Int.zero_add, Int.add_zero]; done) | (simp only [Int.reduceAdd, Int.reduceSub, Int.reduceMul, Int.reduceNeg, Int.reduceMod, Int.reduceDiv, Int.reduceTMod, Int.reduceTDiv, Int.zero_add, Int.add_zero]; rfl) | rfl)) (by (dsimp only [inR]; first | decide | omega)) ?_; conv => whnf)
      | (fail))
    | (refine new_i ?_; intro _; conv => whnf)
    | (refine br_id ?_; first
      | (refine br_t (by first | decide | omega | (with_reducible rfl) | fail | (simp only [cellEq, toB]; omega) | (simp only [cellEq, toB]; simp; done) | fail) ?_; conv => whnf)
      | (refine br_f (by first | decide | omega | (with_reducible exact Bool.false_ne_true) | (with_reducible refine not_not_intro ?_; fail) | (simp only [cellEq, toB]; omega) | (simp only [cellEq, toB]; simp; done) | fail) ?_; conv => whnf)
      | ((refine br_any (fun h => ?_) (fun h => ?_) <;> (try simp only [cellEq, toB, Bool.not_eq_true, Bool.not_eq_false] at h) <;> (try (exfalso; first | omega | contradiction | (simp at h; done) | fail); done) <;> conv => whnf)))
    | (refine ix_id ?_; first
      | (refine ix_lit (by first | decide | omega) (by (first | (simp only [Nat.zero_add, Nat.add_zero, Nat.mul_one, Nat.reduceAdd, Nat.reduceMul, Int.reduceToNat, Int.toNat_natCast, Int.toNat_zero, Int.toNat_one, Nat.zero_mul]; done) | (simp only [Nat.zero_add, Nat.add_zero, Nat.mul_one, Nat.reduceAdd, Nat.reduceMul, Int.reduceToNat, Int.toNat_natCast, Int.toNat_zero, Int.toNat_one, Nat.zero_mul]; rfl) | rfl)) (by rfl) ?_; conv => whnf)
      | (refine ix_sym (by omega) ?_; conv => whnf))
    | (refine lcall_id ?_; first | (refine lcall_mk (fun w' hloc => cmd9 w') ?_; (rintro _ _ mm ⟨A', c', rfl, rfl, hf⟩ hmm; simp only [List.cons_append, List.nil_append] at hmm; subst hmm; conv => whnf)) | (refine lcall_ret (fun w' hloc => same_B _ _ _ _ _ _ _ _ _ [41, 17, 1, 0, 0] w' (row_irow hloc (by (first | ((repeat (first | (with_reducible exact am_blk) | (with_reducible exact am_row) | (with_reducible exact am_blkV) | (with_reducible exact am_oth) | (with_reducible apply am_tail))); done) | ((repeat (first | exact am_row | exact am_blk | exact am_blkV | apply am_tail)); done)))) (irow_tag hloc (by rfl) (by rfl)) (by decide) (by decide)) ?_; conv => whnf))
    | (refine lload_id ?_; first
      | (fail)
      | (refine load_old _ (by with_reducible assumption) (by simp; done) ?_; conv => whnf))
    | (refine lixs_id ?_; fail)
    | (refine ex_id ?_; first
      | (fail)
      | (refine ex_z (by (first | (simp only [Int.reduceAdd, Int.reduceSub, Int.reduceMul, Int.reduceNeg, Int.reduceMod, Int.reduceDiv, Int.reduceTMod, Int.reduceTDiv, Int.zero_add, Int.add_zero]; done) | (simp only [Int.reduceAdd, Int.reduceSub, Int.reduceMul, Int.reduceNeg, Int.reduceMod, Int.reduceDiv, Int.reduceTMod, Int.reduceTDiv, Int.zero_add, Int.add_zero]; rfl) | rfl)) ?_; conv => whnf))
    | (refine sh_id ?_; first
      | (fail)
      | (refine sh_z (by omega) (by (first | (simp only [Int.reduceAdd, Int.reduceSub, Int.reduceMul, Int.reduceNeg, Int.reduceMod, Int.reduceDiv, Int.reduceTMod, Int.reduceTDiv, Int.zero_add, Int.add_zero]; done) | (simp only [Int.reduceAdd, Int.reduceSub, Int.reduceMul, Int.reduceNeg, Int.reduceMod, Int.reduceDiv, Int.reduceTMod, Int.reduceTDiv, Int.zero_add, Int.add_zero]; rfl) | rfl)) ?_; conv => whnf))
    | (refine quo_id ?_; first
      | (refine quo_in (by omega) (by (first | (simp only [Int.reduceAdd, Int.reduceSub, Int.reduceMul, Int.reduceNeg, Int.reduceMod, Int.reduceDiv, Int.reduceTMod, Int.reduceTDiv, Int.zero_add, Int.add_zero]; done) | (simp only [Int.reduceAdd, Int.reduceSub, Int.reduceMul, Int.reduceNeg, Int.reduceMod, Int.reduceDiv, Int.reduceTMod, Int.reduceTDiv, Int.zero_add, Int.add_zero]; rfl) | rfl)) (by (dsimp only [inR]; first | decide | omega)) ?_; conv => whnf)
      | (refine quo_t (by omega) (by (dsimp only [inR]; first | decide | omega)) ?_; conv => whnf))
    | (refine rem_id ?_; first
      | (refine rem_in (by omega) (by (first | (simp only [Int.reduceAdd, Int.reduceSub, Int.reduceMul, Int.reduceNeg, Int.reduceMod, Int.reduceDiv, Int.reduceTMod, Int.reduceTDiv, Int.zero_add, Int.add_zero]; done) | (simp only [Int.reduceAdd, Int.reduceSub, Int.reduceMul, Int.reduceNeg, Int.reduceMod, Int.reduceDiv, Int.reduceTMod, Int.reduceTDiv, Int.zero_add, Int.add_zero]; rfl) | rfl)) ?_; conv => whnf)
      | (refine rem_t (by omega) ?_; conv => whnf))
    | (refine app_id ?_; refine app_i (by (first | (simp only [Nat.zero_add, Nat.add_zero, Nat.mul_one, Nat.reduceAdd, Nat.reduceMul, Int.reduceToNat, Int.toNat_natCast, Int.toNat_zero, Int.toNat_one, Nat.zero_mul]; done) | (simp only [Nat.zero_add, Nat.add_zero, Nat.mul_one, Nat.reduceAdd, Nat.reduceMul, Int.reduceToNat, Int.toNat_natCast, Int.toNat_zero, Int.toNat_one, Nat.zero_mul]; rfl) | rfl)) (by (first | (simp only [List.nil_append, List.cons_append, List.append_nil]; done) | (simp only [List.nil_append, List.cons_append, List.append_nil]; rfl) | rfl)) (by omega) (by omega) ?_; intro _ _ _; conv => whnf)
    | (refine mk_id ?_; first | (refine mk_lit (by rfl) (by rfl) (by decide) (by rfl) ?_; conv => whnf) | (refine mk_sym _ (by first | rfl | omega) (by first | rfl | omega) (by omega) (by omega) ?_; conv => whnf))
    | (refine sl_id ?_; fail)
    | (refine eff_id ?_; fail)
    | (refine val_id ?_; fail)
    | (refine x_rnd ?_)
    | (refine x_rnd' ?_)
    | (refine xdrw_id ?_; fail))
  (refine fin_ret ?_)
  rfl

/-- The bytes of the statement. -/
def shortQ (v : Int) (zs : List Int) (k : Nat) : List Int := (v :: (zs.take 300 ++ List.replicate 300 0).take 254).take k
theorem pusShort_C (v : Int) (X : List Int) (k : Nat) (hX : X.length = 254) (hk : k ≤ 255) :
    ((k < 5 ∨ v / 16 ≠ 2) → (parseC ((v :: X).take k)).e = 2) ∧ (¬ (k < 5 ∨ v / 16 ≠ 2) → 200 < k → (parseC ((v :: X).take k)).e = 4) ∧ (¬ (k < 5 ∨ v / 16 ≠ 2) → ¬ 200 < k → (parseC ((v :: X).take k)).e = 0) := by
  have hl : ((v :: X).take k).length = k := by simp [hX]; omega
  have h0 : ¬ k < 5 → ((v :: X).take k).getD 0 0 = v := fun h => by
    cases k with
    | zero => omega
    | succ k => rfl
  unfold parseC
  rw [hl]
  by_cases h1 : k < 5
  · simp [h1]
  · rw [h0 h1]
    by_cases h2 : v / 16 ≠ 2
    · simp [h2]
    · have h2 : v / 16 = 2 := by omega
      by_cases h3 : 200 < k <;> simp [h1, h2, h3]
theorem pusShort_R (v : Int) (X : List Int) (k : Nat) (hX : X.length = 254) (hk : k ≤ 255) :
    ((k < 11 ∨ v ≠ 32 ∨ (v :: X).getD 5 0 ≠ 0 ∨ (v :: X).getD 6 0 ≠ 0) → (parseR ((v :: X).take k)).e = 2) ∧ (¬ (k < 11 ∨ v ≠ 32 ∨ (v :: X).getD 5 0 ≠ 0 ∨ (v :: X).getD 6 0 ≠ 0) → 200 < k → (parseR ((v :: X).take k)).e = 4) ∧ (¬ (k < 11 ∨ v ≠ 32 ∨ (v :: X).getD 5 0 ≠ 0 ∨ (v :: X).getD 6 0 ≠ 0) → ¬ 200 < k → (parseR ((v :: X).take k)).e = 0) := by
  have hl : ((v :: X).take k).length = k := by simp [hX]; omega
  have hg : ∀ j, j < k → ((v :: X).take k).getD j 0 = (v :: X).getD j 0 := fun j h => by simp [List.getD, List.getElem?_take, h]
  have e : (k < 11 ∨ ((v :: X).take k).getD 0 0 ≠ 32 ∨ ((v :: X).take k).getD 5 0 ≠ 0 ∨ ((v :: X).take k).getD 6 0 ≠ 0) ↔ (k < 11 ∨ v ≠ 32 ∨ (v :: X).getD 5 0 ≠ 0 ∨ (v :: X).getD 6 0 ≠ 0) := by
    by_cases h1 : k < 11
    · exact ⟨fun _ => .inl h1, fun _ => .inl h1⟩
    · rw [hg 0 (by omega), hg 5 (by omega), hg 6 (by omega)]; exact Iff.rfl
  unfold parseR
  rw [hl]
  by_cases h3 : k < 11 ∨ v ≠ 32 ∨ (v :: X).getD 5 0 ≠ 0 ∨ (v :: X).getD 6 0 ≠ 0
  · rw [if_pos (e.2 h3)]; exact ⟨fun _ => rfl, fun h => absurd h3 h, fun h => absurd h3 h⟩
  · rw [if_neg (fun h => h3 (e.1 h))]
    by_cases h4 : 200 < k
    · rw [if_pos h4]; exact ⟨fun h => absurd h h3, fun _ _ => rfl, fun _ h => absurd h4 h⟩
    · rw [if_neg h4]; exact ⟨fun h => absurd h h3, fun _ h => absurd h h4, fun _ _ => rfl⟩
set_option maxHeartbeats 1000000 in
theorem pusShort_ret (a v : Int) (h : Nat) (A : Option Addr) (n cp : Nat) (zs : List Int) (w : World) (ha : U8 a) (hv : U8 v) (hr : IRow .u8 w A n zs) (hn : n ≤ 9223372036854775807) (hu : AllU8 zs) :
    RetS Try.prog 3 [u8 a, u8 v, .sl h A n cp] w (.lit true) := by
  have hlen := hr.1
  have hl1 : (zs.take 300 ++ List.replicate 300 (0 : Int)).length ≤ 600 := by rw [List.length_append, List.length_take, List.length_replicate]; omega
  have hl2 : ((zs.take 300 ++ List.replicate 300 (0 : Int)).take 254).length = 254 := by rw [List.length_take, List.length_append, List.length_take, List.length_replicate]; omega
  unfold U8 at ha hv
  obtain ⟨k, hk⟩ : ∃ k : Nat, min a ((1 + ((zs.take 300 ++ List.replicate 300 (0 : Int)).take 254).length : Nat) : Int) = k := ⟨(min a ((1 + ((zs.take 300 ++ List.replicate 300 (0 : Int)).take 254).length : Nat) : Int)).toNat, by omega⟩
  have huq : AllU8 ((v :: (zs.take 300 ++ List.replicate 300 (0 : Int)).take 254).take k) := (AllU8.append (AllU8.cons hv AllU8.nil) ((((hu.take 300).append (AllU8.zeros 300)).take 254))).take k
  have hp := Hid.mk <| pusShort_C v ((zs.take 300 ++ List.replicate 300 (0 : Int)).take 254) k hl2 (by omega)
  have hq := Hid.mk <| pusShort_R v ((zs.take 300 ++ List.replicate 300 (0 : Int)).take 254) k hl2 (by omega)
  refine ret_x tab_ok Try.func3 rfl Try.ntmps3 (by rfl) ?_; simp only [argX, Nat.reduceAdd, Nat.zero_add]; conv => whnf
  repeat' (first
    | (fail)
    | (refine run_c tab_ok ?_; conv => whnf)
    | (refine side_id ?_; refine side_i (by first | rfl | exact ⟨rfl, rfl, rfl, rfl⟩ | trivial | (simp [allOne, partsOne, Value.cells, Value.oneCell']; done) | fail) ?_; conv => whnf)
    | (refine ar_id ?_; first
      | (refine ar_in (by (first | (simp only [Int.reduceAdd, Int.reduceSub, Int.reduceMul, Int.reduceNeg, Int.reduceMod, Int.reduceDiv, Int.reduceTMod, Int.reduceTDiv, Int.zero_add, Int.add_zero]; done) | (simp only [Int.reduceAdd, Int.reduceSub, Int.reduceMul, Int.reduceNeg, Int.reduceMod, Int.reduceDiv, Int.reduceTMod, Int.reduceTDiv, Int.zero_add, Int.add_zero]; rfl) | rfl)) (by (dsimp only [inR]; first | decide | omega)) ?_; conv => whnf)
      | (fail))
    | (refine new_i ?_; intro _; conv => whnf)
    | (refine br_id ?_; first
      | (refine br_t (by first | decide | omega | (with_reducible rfl) | fail | (simp only [cellEq, toB]; omega) | (simp only [cellEq, toB]; simp; done) | fail) ?_; conv => whnf)
      | (refine br_f (by first | decide | omega | (with_reducible exact Bool.false_ne_true) | (with_reducible refine not_not_intro ?_; fail) | (simp only [cellEq, toB]; omega) | (simp only [cellEq, toB]; simp; done) | fail) ?_; conv => whnf)
      | ((refine br_any (fun h => ?_) (fun h => ?_) <;> (try simp only [cellEq, toB, Bool.not_eq_true, Bool.not_eq_false] at h) <;> (try (exfalso; first | omega | contradiction | (simp at h; done) | fail); done) <;> conv => whnf)))
    | (refine ix_id ?_; first
      | (refine ix_lit (by first | decide | omega) (by (first | (simp only [Nat.zero_add, Nat.add_zero, Nat.mul_one, Nat.reduceAdd, Nat.reduceMul, Int.reduceToNat, Int.toNat_natCast, Int.toNat_zero, Int.toNat_one, Nat.zero_mul]; done) | (simp only [Nat.zero_add, Nat.add_zero, Nat.mul_one, Nat.reduceAdd, Nat.reduceMul, Int.reduceToNat, Int.toNat_natCast, Int.toNat_zero, Int.toNat_one, Nat.zero_mul]; rfl) | rfl)) (by rfl) ?_; conv => whnf)
      | (refine ix_sym (by omega) ?_; conv => whnf))
    | (refine lcall_id ?_; first | (refine lcall_ret (fun w' hloc => awake10_S w') ?_; conv => whnf) | (refine lcall_mk (fun w' hloc => cut_N 600 _ _ _ _ zs 300 w' (irow_loc hr hloc) (by omega) (by decide)) ?_; (rintro _ _ mm ⟨A1, c1, rfl, rfl, hf1⟩ hmm; simp only [List.cons_append, List.nil_append] at hmm; subst hmm; conv => whnf)) | (refine lcall_mk (fun w' hloc => join_T 601 _ _ 2 [(A1, c1, zs.take 300), (some ⟨_, 0, none⟩, 300, List.replicate 300 0)] w' (zs.take 300 ++ List.replicate 300 0) (bls_tag hloc (by rfl) (by rfl) (all_cons ⟨row_irow hloc (by (first | ((repeat (first | (with_reducible exact am_blk) | (with_reducible exact am_row) | (with_reducible exact am_blkV) | (with_reducible exact am_oth) | (with_reducible apply am_tail))); done) | ((repeat (first | exact am_row | exact am_blk | exact am_blkV | apply am_tail)); done))), hf1.2.1⟩ (all_cons ⟨irow_at hloc (by (first | ((repeat (first | (with_reducible exact am_blk) | (with_reducible exact am_row) | (with_reducible exact am_blkV) | (with_reducible exact am_oth) | (with_reducible apply am_tail))); done) | ((repeat (first | exact am_row | exact am_blk | exact am_blkV | apply am_tail)); done))) (zeros_map 300), fun h => by cases h⟩ all_nil))) rfl (by simp [BLs.all]) (by omega) (by decide)) ?_; (rintro _ _ mm ⟨A3, c3, rfl, rfl, hf3⟩ hmm; simp only [List.cons_append, List.nil_append] at hmm; subst hmm; conv => whnf)) | (refine lcall_mk (fun w' hloc => cut_N 602 _ _ _ _ _ 254 w' (row_irow hloc (by (first | ((repeat (first | (with_reducible exact am_blk) | (with_reducible exact am_row) | (with_reducible exact am_blkV) | (with_reducible exact am_oth) | (with_reducible apply am_tail))); done) | ((repeat (first | exact am_row | exact am_blk | exact am_blkV | apply am_tail)); done)))) (by omega) (by decide)) ?_; (rintro _ _ mm ⟨A2, c2, rfl, rfl, hf2⟩ hmm; simp only [List.cons_append, List.nil_append] at hmm; subst hmm; conv => whnf)) | (refine lcall_mk (fun w' hloc => parseC_X 720 _ _ _ _ _ w' ((row_irow hloc (by (first | ((repeat (first | (with_reducible exact am_blk) | (with_reducible exact am_row) | (with_reducible exact am_blkV) | (with_reducible exact am_oth) | (with_reducible apply am_tail))); done) | ((repeat (first | exact am_row | exact am_blk | exact am_blkV | apply am_tail)); done)))).take (by omega)) hf'.2.1 (by have := hf'.le; omega) (by omega) huq) ?_; (rintro _ _ mm ⟨A4, c4, rfl, rfl, hf4⟩ hmm; simp only [List.cons_append, List.nil_append] at hmm; subst hmm; conv => whnf)) | (refine lcall_mk (fun w' hloc => parseR_X 721 _ _ _ _ _ w' ((row_irow hloc (by (first | ((repeat (first | (with_reducible exact am_blk) | (with_reducible exact am_row) | (with_reducible exact am_blkV) | (with_reducible exact am_oth) | (with_reducible apply am_tail))); done) | ((repeat (first | exact am_row | exact am_blk | exact am_blkV | apply am_tail)); done)))).take (by omega)) hf'.2.1 (by have := hf'.le; omega) (by omega) huq) ?_; (rintro _ _ mm ⟨A5, c5, rfl, rfl, hf5⟩ hmm; simp only [List.cons_append, List.nil_append] at hmm; subst hmm; conv => whnf)))
    | (refine lload_id ?_; first
      | ((refine load_rowI hA (by (first | ((repeat (first | (with_reducible exact am_blk) | (with_reducible exact am_row) | (with_reducible exact am_blkV) | (with_reducible exact am_oth) | (with_reducible apply am_tail))); done) | ((repeat (first | exact am_row | exact am_blk | exact am_blkV | apply am_tail)); done))) (by (first | (simp only [Nat.zero_add, Nat.add_zero, Nat.mul_one, Nat.reduceAdd, Nat.reduceMul, Int.reduceToNat, Int.toNat_natCast, Int.toNat_zero, Int.toNat_one, Nat.zero_mul]; done) | (simp only [Nat.zero_add, Nat.add_zero, Nat.mul_one, Nat.reduceAdd, Nat.reduceMul, Int.reduceToNat, Int.toNat_natCast, Int.toNat_zero, Int.toNat_one, Nat.zero_mul]; rfl) | rfl)) (by omega) ?_; conv => whnf))
      | (refine load_old _ (by with_reducible assumption) (by simp; done) ?_; conv => whnf))
    | (refine lixs_id ?_; (refine ixs_row (fun _ => hf'.2.2 (by omega)) (by omega) ?_; intro _ hA; conv => whnf))
    | (refine ex_id ?_; first
      | ((refine ex_z hk ?_; conv => whnf))
      | (refine ex_z (by (first | (simp only [Int.reduceAdd, Int.reduceSub, Int.reduceMul, Int.reduceNeg, Int.reduceMod, Int.reduceDiv, Int.reduceTMod, Int.reduceTDiv, Int.zero_add, Int.add_zero]; done) | (simp only [Int.reduceAdd, Int.reduceSub, Int.reduceMul, Int.reduceNeg, Int.reduceMod, Int.reduceDiv, Int.reduceTMod, Int.reduceTDiv, Int.zero_add, Int.add_zero]; rfl) | rfl)) ?_; conv => whnf))
    | (refine sh_id ?_; first
      | (fail)
      | (refine sh_z (by omega) (by (first | (simp only [Int.reduceAdd, Int.reduceSub, Int.reduceMul, Int.reduceNeg, Int.reduceMod, Int.reduceDiv, Int.reduceTMod, Int.reduceTDiv, Int.zero_add, Int.add_zero]; done) | (simp only [Int.reduceAdd, Int.reduceSub, Int.reduceMul, Int.reduceNeg, Int.reduceMod, Int.reduceDiv, Int.reduceTMod, Int.reduceTDiv, Int.zero_add, Int.add_zero]; rfl) | rfl)) ?_; conv => whnf))
    | (refine quo_id ?_; first
      | (refine quo_in (by omega) (by (first | (simp only [Int.reduceAdd, Int.reduceSub, Int.reduceMul, Int.reduceNeg, Int.reduceMod, Int.reduceDiv, Int.reduceTMod, Int.reduceTDiv, Int.zero_add, Int.add_zero]; done) | (simp only [Int.reduceAdd, Int.reduceSub, Int.reduceMul, Int.reduceNeg, Int.reduceMod, Int.reduceDiv, Int.reduceTMod, Int.reduceTDiv, Int.zero_add, Int.add_zero]; rfl) | rfl)) (by (dsimp only [inR]; first | decide | omega)) ?_; conv => whnf)
      | (refine quo_t (by omega) (by (dsimp only [inR]; first | decide | omega)) ?_; conv => whnf))
    | (refine rem_id ?_; first
      | (refine rem_in (by omega) (by (first | (simp only [Int.reduceAdd, Int.reduceSub, Int.reduceMul, Int.reduceNeg, Int.reduceMod, Int.reduceDiv, Int.reduceTMod, Int.reduceTDiv, Int.zero_add, Int.add_zero]; done) | (simp only [Int.reduceAdd, Int.reduceSub, Int.reduceMul, Int.reduceNeg, Int.reduceMod, Int.reduceDiv, Int.reduceTMod, Int.reduceTDiv, Int.zero_add, Int.add_zero]; rfl) | rfl)) ?_; conv => whnf)
      | (refine rem_t (by omega) ?_; conv => whnf))
    | (refine app_id ?_; refine app_i (by (first | (simp only [Nat.zero_add, Nat.add_zero, Nat.mul_one, Nat.reduceAdd, Nat.reduceMul, Int.reduceToNat, Int.toNat_natCast, Int.toNat_zero, Int.toNat_one, Nat.zero_mul]; done) | (simp only [Nat.zero_add, Nat.add_zero, Nat.mul_one, Nat.reduceAdd, Nat.reduceMul, Int.reduceToNat, Int.toNat_natCast, Int.toNat_zero, Int.toNat_one, Nat.zero_mul]; rfl) | rfl)) (by (first | (simp only [List.nil_append, List.cons_append, List.append_nil]; done) | (simp only [List.nil_append, List.cons_append, List.append_nil]; rfl) | rfl)) (by omega) (by omega) ?_; intro _ _ _; conv => whnf)
    | (refine mk_id ?_; (refine mk_sym 300 (by rfl) (by rfl) (by decide) (by decide) ?_; conv => whnf))
    | (refine sl_id ?_; (refine sl_pre 710 (by have := hf'.le; omega) (by (first | (simp only [Nat.zero_add, Nat.add_zero, Nat.mul_one, Nat.reduceAdd, Nat.reduceMul, Int.reduceToNat, Int.toNat_natCast, Int.toNat_zero, Int.toNat_one, Nat.zero_mul]; done) | (simp only [Nat.zero_add, Nat.add_zero, Nat.mul_one, Nat.reduceAdd, Nat.reduceMul, Int.reduceToNat, Int.toNat_natCast, Int.toNat_zero, Int.toNat_one, Nat.zero_mul]; rfl) | rfl)) ?_; conv => whnf))
    | (refine eff_id ?_; (refine app_blkI [v] (by rfl) (by rfl) (by rfl) (by rfl) (by rfl) (by rfl) (fun w' hloc => row_irow hloc (by (first | ((repeat (first | (with_reducible exact am_blk) | (with_reducible exact am_row) | (with_reducible exact am_blkV) | (with_reducible exact am_oth) | (with_reducible apply am_tail))); done) | ((repeat (first | exact am_row | exact am_blk | exact am_blkV | apply am_tail)); done)))) hf2.2.1 (by change _ * 1 ≤ _; omega) (by decide) (fun _ _ => by rfl) (by rfl) ?_; intro A' c' hf'; conv => whnf))
    | (refine val_id ?_; fail)
    | (refine x_rnd ?_)
    | (refine x_rnd' ?_)
    | (refine xdrw_id ?_; first | (refine x_drw tab_ok (id := 3) [] [] [0, 2, 3, 4, 5, 6, 7, 1, 8, 9] followsMixed (by kernel_rfl) (by rfl) (by rfl) ?_; conv => whnf)))
  all_goals (
    obtain ⟨p1, p2, p3⟩ := hp.h
    obtain ⟨q1, q2, q3⟩ := hq.h
    first
    | (exfalso; omega)
    | (refine fin_ret ?_
       first
       | rfl
       | (refine congrArg Value.bool (decide_eq_true ?_); omega))
    | (trace_state; sorry))
theorem pusShort_walk (a v : Int) (A : Option Addr) (n cp : Nat) (zs : List Int) (w : World) (ha : inR .u8 a) (hv : inR .u8 v)
    (hr : IRow .u8 w A n zs) (hle : n ≤ cp) (hmx : cp ≤ maxLen) (hz : ∀ z ∈ zs, inR .u8 z) (hnl : A = none → n = 0 ∧ cp = 0) :
    Calls Try.prog 3 #[.int .u8 a, .int .u8 v, .slice A n cp] w fun e w' => e = .returned (.bool true) ∧ Below w.heap.size w w' := by
  dsimp only [inR] at ha hv hz
  exact (pusShort_ret a v 0 A n cp zs w (by unfold U8; omega) (by unfold U8; omega) hr (by unfold maxLen at hmx; omega) (fun z h => by have := hz z h; unfold U8; omega)).below
end Go.Proofs.Ytpblllkkcpahgaa
