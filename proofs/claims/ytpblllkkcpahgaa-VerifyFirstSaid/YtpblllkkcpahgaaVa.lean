/- Layer 12 (verify): contracts of the parts: id, Known, read. -/
import Derived.Test.YtpblllkkcpahgaaPq
import Derived.Test.YtpblllkkcpahgaaMq
import Derived.Test.YtpblllkkcpahgaaPa
import Derived.Laws.CopyRow
namespace Go.Proofs.Ytpblllkkcpahgaa
set_option linter.unusedSimpArgs false
set_option linter.unusedVariables false
set_option linter.unnecessarySimpa false
set_option maxRecDepth 100000
set_option maxHeartbeats 2000000
open Go.RowKit

theorem mapT : MapT Try.prog 91 101 103 .u8 .i64 .i64 where
  m := by kernel_rfl
  q := (inferInstance : TQ Try.prog 101 [.i .u8, .i .u8]).q
  u := ⟨.struct (Try.prog.fieldsOf 101), by kernel_rfl⟩
  c := fun e w p => by kernel_rfl
  z := fun w => by kernel_rfl
abbrev mapV (b : Nat) (E : PE) : Itm := mapI .u8 .i64 .i64 b E
/-- A table, as a value. -/
def MapA (w : World) (mv : SV) (E : PE) : Prop := (∃ b, mv = .val (.map (some b)) ∧ (mapV b E).holds w) ∨ (mv = .val (.map none) ∧ E = [])
/-! Known -/
theorem mapI_loc {w0 w : World} {is : List Itm} {b : Nat} {E : PE} (h : (mapV b E).holds w0) (hl : Loc w0 [] is w) : (mapV b E).holds w := mapI_old h (by simp) hl
def knownE (E : PE) (s : Int) : Bool := E.any fun p => decide (p.1.1 = s)
theorem nodup_lt : ∀ (n : Nat) (l : List Nat), l.Nodup → (∀ i ∈ l, i < n) → l.length ≤ n
  | 0, l, _, h => by
    cases l with
    | nil => exact Nat.le_refl _
    | cons a l => exact absurd (h a (List.mem_cons_self ..)) (Nat.not_lt_zero _)
  | n + 1, l, hd, h => by
    by_cases hn : n ∈ l
    · have h1 := nodup_lt n (l.erase n) (hd.erase n) (fun i hi => by
        have h2 := h i (List.mem_of_mem_erase hi)
        have h3 : i ≠ n := fun e => by subst e; exact (hd.mem_erase_iff.1 hi).1 rfl
        omega)
      rw [List.length_erase_of_mem hn] at h1
      omega
    · have h1 := nodup_lt n l hd (fun i hi => by
        have h2 := h i hi
        have h3 : i ≠ n := fun e => hn (e ▸ hi)
        omega)
      omega
theorem known_S (b : Nat) (E : PE) (s : Int) (w : World) (hb : (mapV b E).holds w) : RetS Try.prog 53 [.val (.map (some b)), u8 s] w (.boo (knownE E s)) := by
  refine ret_x tab_ok Try.func53 rfl Try.ntmps53 (by rfl) ?_; simp only [argX, Nat.reduceAdd, Nat.zero_add]; conv => whnf
  repeat' (first | (refine run_c tab_ok ?_; conv => whnf) | (refine side_id ?_; refine side_i (by first | rfl | exact ⟨rfl, rfl, rfl, rfl⟩ | trivial | (simp [allOne, partsOne, Value.cells, Value.oneCell']; done) | fail) ?_; conv => whnf) | (refine ar_id ?_; first | (refine ar_in (by (first | (simp only [Int.reduceAdd, Int.reduceSub, Int.reduceMul, Int.reduceNeg, Int.reduceMod, Int.reduceDiv, Int.reduceTMod, Int.reduceTDiv, Int.zero_add, Int.add_zero] <;> rfl) | rfl)) (by (dsimp only [inR]; first | decide | omega)) ?_; conv => whnf)) | (refine new_i ?_; intro _; conv => whnf) | (refine br_id ?_; first | (refine br_t (by first | decide | omega | (with_reducible rfl) | fail | (simp only [cellEq, toB]; omega) | (simp only [cellEq, toB]; simp; done) | fail) ?_; conv => whnf) | (refine br_f (by first | decide | omega | (with_reducible exact Bool.false_ne_true) | (with_reducible refine not_not_intro ?_; fail) | (simp only [cellEq, toB]; omega) | (simp only [cellEq, toB]; simp; done) | fail) ?_; conv => whnf) | ((refine br_any (fun h => ?_) (fun h => ?_) <;> (try simp only [cellEq, toB, Bool.not_eq_true, Bool.not_eq_false] at h) <;> (try (exfalso; first | omega | contradiction | (simp at h; done) | fail); done) <;> conv => whnf))) | (refine ix_id ?_; first | (refine ix_lit (by first | decide | omega) (by (first | (simp only [Nat.zero_add, Nat.add_zero, Nat.mul_one, Nat.reduceAdd, Nat.reduceMul, Int.reduceToNat, Int.toNat_natCast, Int.toNat_zero, Int.toNat_one, Nat.zero_mul] <;> rfl) | rfl)) (by rfl) ?_; conv => whnf) | (refine ix_sym (by omega) ?_; conv => whnf)) | (refine lload_id ?_; first | (refine load_old _ (by with_reducible assumption) (by simp; done) ?_; conv => whnf)) | (refine ex_id ?_; first | (refine ex_z (by (first | (simp only [Int.reduceAdd, Int.reduceSub, Int.reduceMul, Int.reduceNeg, Int.reduceMod, Int.reduceDiv, Int.reduceTMod, Int.reduceTDiv, Int.zero_add, Int.add_zero] <;> rfl) | rfl)) ?_; conv => whnf)) | (refine sh_id ?_; first | (refine sh_z (by omega) (by (first | (simp only [Int.reduceAdd, Int.reduceSub, Int.reduceMul, Int.reduceNeg, Int.reduceMod, Int.reduceDiv, Int.reduceTMod, Int.reduceTDiv, Int.zero_add, Int.add_zero] <;> rfl) | rfl)) ?_; conv => whnf)) | (refine quo_id ?_; first | (refine quo_in (by omega) (by (first | (simp only [Int.reduceAdd, Int.reduceSub, Int.reduceMul, Int.reduceNeg, Int.reduceMod, Int.reduceDiv, Int.reduceTMod, Int.reduceTDiv, Int.zero_add, Int.add_zero] <;> rfl) | rfl)) (by (dsimp only [inR]; first | decide | omega)) ?_; conv => whnf) | (refine quo_t (by omega) (by (dsimp only [inR]; first | decide | omega)) ?_; conv => whnf)) | (refine rem_id ?_; first | (refine rem_in (by omega) (by (first | (simp only [Int.reduceAdd, Int.reduceSub, Int.reduceMul, Int.reduceNeg, Int.reduceMod, Int.reduceDiv, Int.reduceTMod, Int.reduceTDiv, Int.zero_add, Int.add_zero] <;> rfl) | rfl)) ?_; conv => whnf) | (refine rem_t (by omega) ?_; conv => whnf)) | (refine app_id ?_; refine app_i (by (first | (simp only [Nat.zero_add, Nat.add_zero, Nat.mul_one, Nat.reduceAdd, Nat.reduceMul, Int.reduceToNat, Int.toNat_natCast, Int.toNat_zero, Int.toNat_one, Nat.zero_mul] <;> rfl) | rfl)) (by (first | (simp only [List.nil_append, List.cons_append, List.append_nil] <;> rfl) | rfl)) (by first | omega | (change _ * 1 ≤ _; omega) | (change _ * 8 ≤ _; omega) | (change _ * 2 ≤ _; omega) | (change _ * 4 ≤ _; omega) | (change _ * 16 ≤ _; omega) | (change _ * 24 ≤ _; omega) | (change _ * 32 ≤ _; omega) | (change _ * 40 ≤ _; omega)) (by first | omega | decide) ?_; intro _ _ _; conv => whnf) | (refine mk_id ?_; first | (refine mk_lit (by rfl) (by rfl) (by decide) (by rfl) ?_; conv => whnf) | (refine mk_sym _ (by first | rfl | omega) (by first | rfl | omega) (by omega) (by omega) ?_; conv => whnf)) | (refine eff_id ?_; first | (refine eff_range (E := E) mapT (by rfl) (by rfl) (fun w' hl => mapI_loc hb hl) ?_; intro r; conv => whnf) | (refine eff_next (h := 7) (E := E) (by rfl) (by rfl) (by rfl) (fun w' hl => mapI_loc hb hl) (fun _ => by rfl) (by rfl) (fun hall => ?_) (fun i hi hns => ?_) <;> conv => whnf) | (refine eff_entry (h := 7) (E := E) (i := i) (.tup [.agg [u8 (E.getD i default).1.1, u8 (E.getD i default).1.2], .agg [i64 (E.getD i default).2.1, i64 (E.getD i default).2.2]]) (by rfl) (by rfl) (by rfl) (fun w' hl => mapI_loc hb hl) hi (by rfl) ?_; conv => whnf)) | (refine x_rnd ?_) | (refine x_rnd' ?_))
  refine x_loopA [7] (fun seen : List Nat => []) (fun seen => [.oth 7 (itI r (some b) E.length seen)]) (fun seen => seen.Nodup ∧ ∀ i ∈ seen, i < E.length ∧ ¬ (E.getD i default).1.1 = s) (fun seen => E.length - seen.length) [] (by rfl) (by rfl) (by rfl) ⟨.nil, fun i hi => by cases hi⟩ (by (repeat (first | exact trivial | ((conv => whnf); refine And.intro (by first | rfl | exact congrArg (Value.int _) (by omega)) ?_)))) (by (repeat (first | exact trivial | ((conv => whnf); refine And.intro (by rfl) ?_)))) ?_
  rintro seen ⟨hnd, hse⟩
  dsimp only [appF, appM] at hnd hse ⊢
  repeat' (first | (refine run_c tab_ok ?_; conv => whnf) | (refine side_id ?_; refine side_i (by first | rfl | exact ⟨rfl, rfl, rfl, rfl⟩ | trivial | (simp [allOne, partsOne, Value.cells, Value.oneCell']; done) | fail) ?_; conv => whnf) | (refine ar_id ?_; first | (refine ar_in (by (first | (simp only [Int.reduceAdd, Int.reduceSub, Int.reduceMul, Int.reduceNeg, Int.reduceMod, Int.reduceDiv, Int.reduceTMod, Int.reduceTDiv, Int.zero_add, Int.add_zero] <;> rfl) | rfl)) (by (dsimp only [inR]; first | decide | omega)) ?_; conv => whnf)) | (refine new_i ?_; intro _; conv => whnf) | (refine br_id ?_; first | (refine br_t (by first | decide | omega | (with_reducible rfl) | fail | (simp only [cellEq, toB]; omega) | (simp only [cellEq, toB]; simp; done) | fail) ?_; conv => whnf) | (refine br_f (by first | decide | omega | (with_reducible exact Bool.false_ne_true) | (with_reducible refine not_not_intro ?_; fail) | (simp only [cellEq, toB]; omega) | (simp only [cellEq, toB]; simp; done) | fail) ?_; conv => whnf) | ((refine br_any (fun h => ?_) (fun h => ?_) <;> (try simp only [cellEq, toB, Bool.not_eq_true, Bool.not_eq_false] at h) <;> (try (exfalso; first | omega | contradiction | (simp at h; done) | fail); done) <;> conv => whnf))) | (refine ix_id ?_; first | (refine ix_lit (by first | decide | omega) (by (first | (simp only [Nat.zero_add, Nat.add_zero, Nat.mul_one, Nat.reduceAdd, Nat.reduceMul, Int.reduceToNat, Int.toNat_natCast, Int.toNat_zero, Int.toNat_one, Nat.zero_mul] <;> rfl) | rfl)) (by rfl) ?_; conv => whnf) | (refine ix_sym (by omega) ?_; conv => whnf)) | (refine lload_id ?_; first | (refine load_old _ (by with_reducible assumption) (by simp; done) ?_; conv => whnf)) | (refine ex_id ?_; first | (refine ex_z (by (first | (simp only [Int.reduceAdd, Int.reduceSub, Int.reduceMul, Int.reduceNeg, Int.reduceMod, Int.reduceDiv, Int.reduceTMod, Int.reduceTDiv, Int.zero_add, Int.add_zero] <;> rfl) | rfl)) ?_; conv => whnf)) | (refine sh_id ?_; first | (refine sh_z (by omega) (by (first | (simp only [Int.reduceAdd, Int.reduceSub, Int.reduceMul, Int.reduceNeg, Int.reduceMod, Int.reduceDiv, Int.reduceTMod, Int.reduceTDiv, Int.zero_add, Int.add_zero] <;> rfl) | rfl)) ?_; conv => whnf)) | (refine quo_id ?_; first | (refine quo_in (by omega) (by (first | (simp only [Int.reduceAdd, Int.reduceSub, Int.reduceMul, Int.reduceNeg, Int.reduceMod, Int.reduceDiv, Int.reduceTMod, Int.reduceTDiv, Int.zero_add, Int.add_zero] <;> rfl) | rfl)) (by (dsimp only [inR]; first | decide | omega)) ?_; conv => whnf) | (refine quo_t (by omega) (by (dsimp only [inR]; first | decide | omega)) ?_; conv => whnf)) | (refine rem_id ?_; first | (refine rem_in (by omega) (by (first | (simp only [Int.reduceAdd, Int.reduceSub, Int.reduceMul, Int.reduceNeg, Int.reduceMod, Int.reduceDiv, Int.reduceTMod, Int.reduceTDiv, Int.zero_add, Int.add_zero] <;> rfl) | rfl)) ?_; conv => whnf) | (refine rem_t (by omega) ?_; conv => whnf)) | (refine app_id ?_; refine app_i (by (first | (simp only [Nat.zero_add, Nat.add_zero, Nat.mul_one, Nat.reduceAdd, Nat.reduceMul, Int.reduceToNat, Int.toNat_natCast, Int.toNat_zero, Int.toNat_one, Nat.zero_mul] <;> rfl) | rfl)) (by (first | (simp only [List.nil_append, List.cons_append, List.append_nil] <;> rfl) | rfl)) (by first | omega | (change _ * 1 ≤ _; omega) | (change _ * 8 ≤ _; omega) | (change _ * 2 ≤ _; omega) | (change _ * 4 ≤ _; omega) | (change _ * 16 ≤ _; omega) | (change _ * 24 ≤ _; omega) | (change _ * 32 ≤ _; omega) | (change _ * 40 ≤ _; omega)) (by first | omega | decide) ?_; intro _ _ _; conv => whnf) | (refine mk_id ?_; first | (refine mk_lit (by rfl) (by rfl) (by decide) (by rfl) ?_; conv => whnf) | (refine mk_sym _ (by first | rfl | omega) (by first | rfl | omega) (by omega) (by omega) ?_; conv => whnf)) | (refine eff_id ?_; first | (refine eff_range (E := E) mapT (by rfl) (by rfl) (fun w' hl => mapI_loc hb hl) ?_; intro r; conv => whnf) | (refine eff_next (h := 7) (E := E) (by rfl) (by rfl) (by rfl) (fun w' hl => mapI_loc hb hl) (fun _ => by rfl) (by rfl) (fun hall => ?_) (fun i hi hns => ?_) <;> conv => whnf) | (refine eff_entry (h := 7) (E := E) (i := i) (.tup [.agg [u8 (E.getD i default).1.1, u8 (E.getD i default).1.2], .agg [i64 (E.getD i default).2.1, i64 (E.getD i default).2.2]]) (by rfl) (by rfl) (by rfl) (fun w' hl => mapI_loc hb hl) hi (by rfl) ?_; conv => whnf)) | (refine x_rnd ?_) | (refine x_rnd' ?_))
  · (refine fin_ret ?_)
    refine congrArg Value.bool (Eq.symm ?_)
    unfold knownE
    rw [Bool.eq_false_iff]
    intro h
    obtain ⟨p, hp, he⟩ := List.any_eq_true.1 h
    obtain ⟨i, hi, rfl⟩ := List.mem_iff_getElem.1 hp
    refine (hse i (hall i hi)).2 ?_
    simpa [List.getD, hi] using he
  · (refine fin_ret ?_)
    refine congrArg Value.bool (Eq.symm ?_)
    unfold knownE
    refine List.any_eq_true.2 ⟨E.getD i default, ?_, by simpa using h⟩
    simp [List.getD, hi]
  · have hnd2 : (seen ++ [i]).Nodup := List.nodup_append.2 ⟨hnd, by simp, fun a ha b hb e => hns (by rw [List.mem_singleton.1 hb] at e; rw [← e]; exact ha)⟩
    have hse2 : ∀ j ∈ seen ++ [i], j < E.length ∧ ¬ (E.getD j default).1.1 = s := fun j hj => by
      rcases List.mem_append.1 hj with hj | hj
      · exact hse j hj
      · cases List.mem_singleton.1 hj; exact ⟨hi, h⟩
    have hlen := nodup_lt E.length _ hnd2 (fun j hj => (hse2 j hj).1)
    rw [List.length_append, List.length_singleton] at hlen
    exact x_roundA (seen ++ [i]) ⟨hnd2, hse2⟩ (by show E.length - (seen ++ [i]).length < E.length - seen.length; rw [List.length_append, List.length_singleton]; omega) (by (repeat (first | exact trivial | ((conv => whnf); refine And.intro (by first | rfl | exact congrArg (Value.int _) (by omega)) ?_)))) (by (repeat (first | exact trivial | ((conv => whnf); refine And.intro rfl ?_)))) (by (repeat (first | exact trivial | ((conv => whnf); refine And.intro (by rfl) ?_))))
theorem knownN_S (s : Int) (w : World) : RetS Try.prog 53 [.val (.map none), u8 s] w (.boo (knownE [] s)) := by
  refine ret_x tab_ok Try.func53 rfl Try.ntmps53 (by rfl) ?_; simp only [argX, Nat.reduceAdd, Nat.zero_add]; conv => whnf
  repeat' (first | (refine run_c tab_ok ?_; conv => whnf) | (refine side_id ?_; refine side_i (by first | rfl | exact ⟨rfl, rfl, rfl, rfl⟩ | trivial | (simp [allOne, partsOne, Value.cells, Value.oneCell']; done) | fail) ?_; conv => whnf) | (refine ar_id ?_; first | (refine ar_in (by (first | (simp only [Int.reduceAdd, Int.reduceSub, Int.reduceMul, Int.reduceNeg, Int.reduceMod, Int.reduceDiv, Int.reduceTMod, Int.reduceTDiv, Int.zero_add, Int.add_zero] <;> rfl) | rfl)) (by (dsimp only [inR]; first | decide | omega)) ?_; conv => whnf)) | (refine new_i ?_; intro _; conv => whnf) | (refine br_id ?_; first | (refine br_t (by first | decide | omega | (with_reducible rfl) | fail | (simp only [cellEq, toB]; omega) | (simp only [cellEq, toB]; simp; done) | fail) ?_; conv => whnf) | (refine br_f (by first | decide | omega | (with_reducible exact Bool.false_ne_true) | (with_reducible refine not_not_intro ?_; fail) | (simp only [cellEq, toB]; omega) | (simp only [cellEq, toB]; simp; done) | fail) ?_; conv => whnf) | ((refine br_any (fun h => ?_) (fun h => ?_) <;> (try simp only [cellEq, toB, Bool.not_eq_true, Bool.not_eq_false] at h) <;> (try (exfalso; first | omega | contradiction | (simp at h; done) | fail); done) <;> conv => whnf))) | (refine ix_id ?_; first | (refine ix_lit (by first | decide | omega) (by (first | (simp only [Nat.zero_add, Nat.add_zero, Nat.mul_one, Nat.reduceAdd, Nat.reduceMul, Int.reduceToNat, Int.toNat_natCast, Int.toNat_zero, Int.toNat_one, Nat.zero_mul] <;> rfl) | rfl)) (by rfl) ?_; conv => whnf) | (refine ix_sym (by omega) ?_; conv => whnf)) | (refine lload_id ?_; first | (refine load_old _ (by with_reducible assumption) (by simp; done) ?_; conv => whnf)) | (refine ex_id ?_; first | (refine ex_z (by (first | (simp only [Int.reduceAdd, Int.reduceSub, Int.reduceMul, Int.reduceNeg, Int.reduceMod, Int.reduceDiv, Int.reduceTMod, Int.reduceTDiv, Int.zero_add, Int.add_zero] <;> rfl) | rfl)) ?_; conv => whnf)) | (refine sh_id ?_; first | (refine sh_z (by omega) (by (first | (simp only [Int.reduceAdd, Int.reduceSub, Int.reduceMul, Int.reduceNeg, Int.reduceMod, Int.reduceDiv, Int.reduceTMod, Int.reduceTDiv, Int.zero_add, Int.add_zero] <;> rfl) | rfl)) ?_; conv => whnf)) | (refine quo_id ?_; first | (refine quo_in (by omega) (by (first | (simp only [Int.reduceAdd, Int.reduceSub, Int.reduceMul, Int.reduceNeg, Int.reduceMod, Int.reduceDiv, Int.reduceTMod, Int.reduceTDiv, Int.zero_add, Int.add_zero] <;> rfl) | rfl)) (by (dsimp only [inR]; first | decide | omega)) ?_; conv => whnf) | (refine quo_t (by omega) (by (dsimp only [inR]; first | decide | omega)) ?_; conv => whnf)) | (refine rem_id ?_; first | (refine rem_in (by omega) (by (first | (simp only [Int.reduceAdd, Int.reduceSub, Int.reduceMul, Int.reduceNeg, Int.reduceMod, Int.reduceDiv, Int.reduceTMod, Int.reduceTDiv, Int.zero_add, Int.add_zero] <;> rfl) | rfl)) ?_; conv => whnf) | (refine rem_t (by omega) ?_; conv => whnf)) | (refine app_id ?_; refine app_i (by (first | (simp only [Nat.zero_add, Nat.add_zero, Nat.mul_one, Nat.reduceAdd, Nat.reduceMul, Int.reduceToNat, Int.toNat_natCast, Int.toNat_zero, Int.toNat_one, Nat.zero_mul] <;> rfl) | rfl)) (by (first | (simp only [List.nil_append, List.cons_append, List.append_nil] <;> rfl) | rfl)) (by first | omega | (change _ * 1 ≤ _; omega) | (change _ * 8 ≤ _; omega) | (change _ * 2 ≤ _; omega) | (change _ * 4 ≤ _; omega) | (change _ * 16 ≤ _; omega) | (change _ * 24 ≤ _; omega) | (change _ * 32 ≤ _; omega) | (change _ * 40 ≤ _; omega)) (by first | omega | decide) ?_; intro _ _ _; conv => whnf) | (refine mk_id ?_; first | (refine mk_lit (by rfl) (by rfl) (by decide) (by rfl) ?_; conv => whnf) | (refine mk_sym _ (by first | rfl | omega) (by first | rfl | omega) (by omega) (by omega) ?_; conv => whnf)) | (refine eff_id ?_; first | (refine eff_rangeN mapT (by rfl) (by rfl) ?_; intro r; conv => whnf) | (refine eff_nextN (h := 7) (by rfl) (by rfl) (by rfl) ?_; conv => whnf)) | (refine x_rnd ?_) | (refine x_rnd' ?_))
  refine x_rounds 1 ?_
  repeat' (first | (refine run_c tab_ok ?_; conv => whnf) | (refine side_id ?_; refine side_i (by first | rfl | exact ⟨rfl, rfl, rfl, rfl⟩ | trivial | (simp [allOne, partsOne, Value.cells, Value.oneCell']; done) | fail) ?_; conv => whnf) | (refine ar_id ?_; first | (refine ar_in (by (first | (simp only [Int.reduceAdd, Int.reduceSub, Int.reduceMul, Int.reduceNeg, Int.reduceMod, Int.reduceDiv, Int.reduceTMod, Int.reduceTDiv, Int.zero_add, Int.add_zero] <;> rfl) | rfl)) (by (dsimp only [inR]; first | decide | omega)) ?_; conv => whnf)) | (refine new_i ?_; intro _; conv => whnf) | (refine br_id ?_; first | (refine br_t (by first | decide | omega | (with_reducible rfl) | fail | (simp only [cellEq, toB]; omega) | (simp only [cellEq, toB]; simp; done) | fail) ?_; conv => whnf) | (refine br_f (by first | decide | omega | (with_reducible exact Bool.false_ne_true) | (with_reducible refine not_not_intro ?_; fail) | (simp only [cellEq, toB]; omega) | (simp only [cellEq, toB]; simp; done) | fail) ?_; conv => whnf) | ((refine br_any (fun h => ?_) (fun h => ?_) <;> (try simp only [cellEq, toB, Bool.not_eq_true, Bool.not_eq_false] at h) <;> (try (exfalso; first | omega | contradiction | (simp at h; done) | fail); done) <;> conv => whnf))) | (refine ix_id ?_; first | (refine ix_lit (by first | decide | omega) (by (first | (simp only [Nat.zero_add, Nat.add_zero, Nat.mul_one, Nat.reduceAdd, Nat.reduceMul, Int.reduceToNat, Int.toNat_natCast, Int.toNat_zero, Int.toNat_one, Nat.zero_mul] <;> rfl) | rfl)) (by rfl) ?_; conv => whnf) | (refine ix_sym (by omega) ?_; conv => whnf)) | (refine lload_id ?_; first | (refine load_old _ (by with_reducible assumption) (by simp; done) ?_; conv => whnf)) | (refine ex_id ?_; first | (refine ex_z (by (first | (simp only [Int.reduceAdd, Int.reduceSub, Int.reduceMul, Int.reduceNeg, Int.reduceMod, Int.reduceDiv, Int.reduceTMod, Int.reduceTDiv, Int.zero_add, Int.add_zero] <;> rfl) | rfl)) ?_; conv => whnf)) | (refine sh_id ?_; first | (refine sh_z (by omega) (by (first | (simp only [Int.reduceAdd, Int.reduceSub, Int.reduceMul, Int.reduceNeg, Int.reduceMod, Int.reduceDiv, Int.reduceTMod, Int.reduceTDiv, Int.zero_add, Int.add_zero] <;> rfl) | rfl)) ?_; conv => whnf)) | (refine quo_id ?_; first | (refine quo_in (by omega) (by (first | (simp only [Int.reduceAdd, Int.reduceSub, Int.reduceMul, Int.reduceNeg, Int.reduceMod, Int.reduceDiv, Int.reduceTMod, Int.reduceTDiv, Int.zero_add, Int.add_zero] <;> rfl) | rfl)) (by (dsimp only [inR]; first | decide | omega)) ?_; conv => whnf) | (refine quo_t (by omega) (by (dsimp only [inR]; first | decide | omega)) ?_; conv => whnf)) | (refine rem_id ?_; first | (refine rem_in (by omega) (by (first | (simp only [Int.reduceAdd, Int.reduceSub, Int.reduceMul, Int.reduceNeg, Int.reduceMod, Int.reduceDiv, Int.reduceTMod, Int.reduceTDiv, Int.zero_add, Int.add_zero] <;> rfl) | rfl)) ?_; conv => whnf) | (refine rem_t (by omega) ?_; conv => whnf)) | (refine app_id ?_; refine app_i (by (first | (simp only [Nat.zero_add, Nat.add_zero, Nat.mul_one, Nat.reduceAdd, Nat.reduceMul, Int.reduceToNat, Int.toNat_natCast, Int.toNat_zero, Int.toNat_one, Nat.zero_mul] <;> rfl) | rfl)) (by (first | (simp only [List.nil_append, List.cons_append, List.append_nil] <;> rfl) | rfl)) (by first | omega | (change _ * 1 ≤ _; omega) | (change _ * 8 ≤ _; omega) | (change _ * 2 ≤ _; omega) | (change _ * 4 ≤ _; omega) | (change _ * 16 ≤ _; omega) | (change _ * 24 ≤ _; omega) | (change _ * 32 ≤ _; omega) | (change _ * 40 ≤ _; omega)) (by first | omega | decide) ?_; intro _ _ _; conv => whnf) | (refine mk_id ?_; first | (refine mk_lit (by rfl) (by rfl) (by decide) (by rfl) ?_; conv => whnf) | (refine mk_sym _ (by first | rfl | omega) (by first | rfl | omega) (by omega) (by omega) ?_; conv => whnf)) | (refine eff_id ?_; first | (refine eff_rangeN mapT (by rfl) (by rfl) ?_; intro r; conv => whnf) | (refine eff_nextN (h := 7) (by rfl) (by rfl) (by rfl) ?_; conv => whnf)) | (refine x_rnd ?_) | (refine x_rnd' ?_))
  (refine fin_ret ?_)
  rfl
theorem known_A (mv : SV) (E : PE) (s : Int) (w : World) (hm : MapA w mv E) : RetS Try.prog 53 [mv, u8 s] w (.boo (knownE E s)) := by
  rcases hm with ⟨b, rfl, hb⟩ | ⟨rfl, rfl⟩
  · exact known_S b E s w hb
  · exact knownN_S s w
theorem MapA.loc {w0 w : World} {is : List Itm} {mv : SV} {E : PE} (h : MapA w0 mv E) (hl : Loc w0 [] is w) : MapA w mv E := by
  rcases h with ⟨b, rfl, hb⟩ | ⟨rfl, rfl⟩
  · exact .inl ⟨b, rfl, mapI_loc hb hl⟩
  · exact .inr ⟨rfl, rfl⟩
/-! id -/
def idv (zs : List Int) : Int := zs.getD 0 0 * 16777216 + zs.getD 1 0 * 65536 + zs.getD 2 0 * 256 + zs.getD 3 0
section
variable {P : Program} {N : FN} {w0 : World} {S : List Nat} {km mem : Mem} {fs : Fr}
theorem sl_arr {b c sz : Nat} {X : SV → Prop} (tag : Nat) (hi : Int) (hh : hi = c) (nx : X (.slB tag b 0 c c)) : LSl (some ⟨b, 0, none⟩) c sz 0 hi X := by
  subst hh
  refine ⟨by omega, by omega, by omega, .slB tag b 0 c c, ?_, nx⟩
  show Value.slice (some ⟨b, 0, none⟩) c c = Value.slice _ _ _
  congr 1
  split
  · rfl
  · simp [Addr.add]
theorem four_cells (zs : List Int) : dens [u8 (zs.getD 0 0), u8 (zs.getD 1 0), u8 (zs.getD 2 0), u8 (zs.getD 3 0)] = (zs.take 4).map (Value.int .u8) ++ (dens [u8 0, u8 0, u8 0, u8 0]).drop (Nat.min zs.length 4) := by
  match zs with
  | [] => rfl
  | [a] => rfl
  | [a, b] => rfl
  | [a, b, c] => rfl
  | a :: b :: c :: d :: r =>
    have : Nat.min (r.length + 1 + 1 + 1 + 1) 4 = 4 := Nat.min_eq_right (by omega)
    simp only [List.length_cons]
    rw [this]
    rfl
/-- Copying into a block of one's own. -/
theorem eff_copyB {dT sT e' e : TypeId} {h t b m c2 nd cd : Nat} {zs : List Int} {cs cs' : List SV} {A : Option Addr} {vy : SV} {mem' : Mem} {x y : Operand} {d : Tmp} {ty : TypeId} {pos : String} {aft : Array Edge} {gd : Option (Nat × Bool)} {X : SV → Mem → Prop}
    [h1 : TS P dT e'] [h2 : TL P e' false 1]
    (hx : opx fs x = some (.slB t b 0 nd cd)) (hf : findB mem h = some (.blk h e b cs)) (hl : cs.length = nd) (hy : opx fs y = some vy) (hyd : vy.den = .slice A m c2) (hr : ∀ w, Loc w0 S (denM mem) w → IRow .u8 w A m zs)
    (hcs : dens cs' = (zs.take nd).map (Value.int .u8) ++ (dens cs).drop (Nat.min zs.length nd)) (hu : updB mem h (.blk h e b cs') = some mem') (hn : noTag km h = true) (nx : X (.int .i64 (Nat.min zs.length nd : Nat)) mem') :
    LEff P N w0 S km ⟨some d, .call { callee := .builtin .copy, args := #[x, y], argTypes := #[dT, sT] }, ty, pos, aft, gd⟩ fs mem X := by
  refine ⟨Unit, fun _ => .int .i64 (Nat.min zs.length nd : Nat), fun _ => mem', fun w1 S1 a w hk hl0 hl1 => ?_, fun _ => ⟨fun hs => updB_sub hs hn hu, nx⟩⟩
  obtain ⟨nn, h3, h4⟩ := (updB_upd hf hu).set
  have hw : w.heap[b]? = some (.cells (dens cs).toArray e (0, 0)) := hl0.holds _ (findB_at hf).mem
  have ex : a.eval x = .slice (some ⟨b, 0, none⟩) nd cd := hk.eval (opx_some hx)
  have ey : a.eval y = .slice A m c2 := by rw [hk.eval (opx_some hy), hyd]
  have hrow := hr w hl0
  obtain rfl : zs.length = m := hrow.1
  have hsz : (P.info? e').map (·.size) = some 1 := h2.i
  have hdl : (dens cs).length = nd := by rw [dens_length, hl]
  have key : ∃ w', (Builtin.copy_ #[dT, sT] ty #[.slice (some ⟨b, 0, none⟩) nd cd, .slice A zs.length c2]).run P w = .ok (goInt (Nat.min zs.length nd)) w' ∧ Loc w1 S1 (denM mem') w' := by
    by_cases h0 : Nat.min zs.length nd = 0
    · refine ⟨w, by rw [run_copy_none (P := P) w dT sT ty e' _ _ _ _ _ _ h1.u hsz h0, h0]; rfl, ?_⟩
      have he : dens cs' = dens cs := by
        rw [hcs, h0, List.drop_zero]
        have : (zs.take nd).length = 0 := by rw [List.length_take, Nat.min_comm]; exact h0
        rw [List.eq_nil_of_length_eq_zero this]
        rfl
      rw [h4]
      have : (MI.blk h e b cs').itm = (MI.blk h e b cs).itm := by show blk e b (dens cs') = blk e b (dens cs); rw [he]
      rw [this]
      exact hl1.set h3 rfl rfl rfl (Nat.le_refl _) (fun k _ _ => rfl) _ (hl1.holds _ (findB_at hf).mem) (fun k hk => .inl hk)
    · have hlt : 0 < zs.length := by
        rcases Nat.eq_zero_or_pos zs.length with h5 | h5
        · rw [h5] at h0; exact absurd (Nat.zero_min _) h0
        · exact h5
      obtain ⟨b2, o2, hA, hc⟩ := hrow.2 hlt
      subst hA
      have hrun := run_copy_row (P := P) w dT sT ty e' b 0 nd cd ⟨b2, o2, none⟩ zs.length c2 (dens cs).toArray e ((zs.take nd).map (Value.int .u8)) h1.u hsz hw
        (by rw [List.length_map, List.length_take, Nat.min_comm])
        (fun j v hv => by
          rw [Addr.add_lit]
          have hj := (List.getElem?_eq_some_iff.1 hv).1
          rw [List.length_map, List.length_take] at hj
          rw [hc j (by omega), ← hv, List.getElem?_map, List.getElem?_take, if_pos (by omega)]
          simp [List.getD, List.getElem?_eq_getElem (show j < zs.length by omega)])
        (by rw [List.length_map, List.length_take]; simp [hdl]; omega)
        (fun v hv => by obtain ⟨z, _, rfl⟩ := List.mem_map.1 hv; rfl)
      have hlen : ((zs.take nd).map (Value.int .u8)).length = Nat.min zs.length nd := by rw [List.length_map, List.length_take, Nat.min_comm]
      rw [hlen] at hrun
      refine ⟨_, hrun, ?_⟩
      rw [h4]
      have hb : b < w.heap.size := (Array.getElem?_eq_some_iff.1 hw).1
      refine Loc.set (w' := w.setRow b _) hl1 h3 rfl rfl rfl (by simp [World.setRow]) (fun k hk hki => ?_) _ ?_ (fun k hk => .inl hk)
      · exact setRow_other w b k _ (fun e => hki (by rw [e]; exact .head _))
      · show (w.setRow b _).heap[b]? = some (.cells (dens cs').toArray e (0, 0))
        rw [setRow_heap w b _ _ e (0, 0) hw]
        congr 2
        rw [hcs, List.take_zero, List.nil_append, Nat.zero_add]
  obtain ⟨w', hrun, hl'⟩ := key
  refine ⟨(), w', .inl ?_, hl'⟩
  simp [execOp, resolve, invoke, builtin, ex, ey, hrun, SV.den, goInt]
end
end Go.Proofs.Ytpblllkkcpahgaa
