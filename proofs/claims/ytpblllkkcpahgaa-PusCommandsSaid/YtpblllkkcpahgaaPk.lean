/- Layer 9 (packet): the contracts. -/
import Derived.Test.YtpblllkkcpahgaaPb
import Derived.Test.YtpblllkkcpahgaaJn
import Derived.Test.YtpblllkkcpahgaaPa
namespace Go.Proofs.Ytpblllkkcpahgaa
set_option linter.unusedSimpArgs false
set_option linter.unusedVariables false
set_option linter.unnecessarySimpa false
set_option maxRecDepth 100000
open Go.RowKit

/-- A packet's bytes, and the error. -/
def hdr (cmd : Bool) (apid : Int) : Int := match cmd with | true => 4096 + (2048 + apid) | false => 2048 + apid
def pktH (cmd : Bool) (apid count : Int) (zs : List Int) : List Int := be2 (hdr cmd apid) ++ be2 (49152 + count) ++ be2 ((zs.length : Int) + 2 - 1) ++ zs
def pktB (cmd : Bool) (apid count : Int) (zs : List Int) : List Int := if 2047 < apid ∨ 16383 < count then [] else if 200 < zs.length then [] else summed (pktH cmd apid count zs)
def pktE (apid count : Int) (zs : List Int) : Int := if 2047 < apid ∨ 16383 < count then 1 else if 200 < zs.length then 4 else 0
theorem be2_len (x : Int) : (be2 x).length = 2 := rfl
theorem be2_u8 {x : Int} (h : 0 ≤ x ∧ x < 65536) : AllU8 (be2 x) := AllU8.cons (by unfold U8; omega) (AllU8.cons (by unfold U8; omega) AllU8.nil)
theorem pktH_len (cmd : Bool) (apid count : Int) (zs : List Int) : (pktH cmd apid count zs).length = zs.length + 6 := by simp [pktH, be2_len]; omega
theorem pktH_u8 {cmd : Bool} {apid count : Int} {zs : List Int} (ha : 0 ≤ apid ∧ apid < 2048) (hc : 0 ≤ count ∧ count < 16384) (hz : zs.length ≤ 200) (hu : AllU8 zs) : AllU8 (pktH cmd apid count zs) := by
  refine (((be2_u8 ?_).append (be2_u8 (by omega))).append (be2_u8 (by omega))).append hu
  cases cmd <;> (simp only [hdr]; omega)
theorem irow_row {w0 w : World} {S : List Nat} {mem : Mem} {ik : IntKind} {e : TypeId} {A : Option Addr} {n c : Nat} {xs : List Int} (hl : Loc w0 S (denM mem) w) (hat : At (denM mem) (own e 1 (.slice A n c) n (xs.map (Value.int ik)))) : IRow ik w A n xs := row_irow hl hat
theorem pktBytes_X (tag : Nat) (cmd : Bool) (apid count : Int) (h : Nat) (A : Option Addr) (n cp : Nat) (zs : List Int) (w : World) (ha : U16 apid) (hc : U16 count) (hr : IRow .u8 w A n zs) (hn0 : A = none → cp = 0) (hn : n ≤ 9223372036854775807) (hu : AllU8 zs) :
    RetX Try.prog 31 [.agg [.boo cmd, u16 apid, u16 count, .sl h A n cp]] w [] (BRes tag (pktB cmd apid count zs) (pktE apid count zs)) := by
  obtain rfl : zs.length = n := hr.1
  unfold U16 at ha hc
  by_cases h1 : 2047 < apid ∨ 16383 < count
  · rw [pktB, pktE, if_pos h1, if_pos h1]
    refine retX_x tab_ok (mem0 := []) Try.func31 rfl Try.ntmps31 (by rfl) (.init w) ?_; simp only [argX, Nat.reduceAdd, Nat.zero_add]; conv => whnf
    repeat' (first
      | (fail)
      | (refine run_c tab_ok ?_; conv => whnf)
      | (refine side_id ?_; refine side_i (by first | rfl | exact ⟨rfl, rfl, rfl, rfl⟩ | trivial | (simp [allOne, partsOne, Value.cells, Value.oneCell']; done) | fail) ?_; conv => whnf)
      | (refine ar_id ?_; first
        | (refine ar_in (by (first | (simp only [Int.reduceAdd, Int.reduceSub, Int.reduceMul, Int.reduceNeg, Int.reduceMod, Int.reduceDiv, Int.reduceTMod, Int.reduceTDiv, Int.zero_add, Int.add_zero]; done) | (simp only [Int.reduceAdd, Int.reduceSub, Int.reduceMul, Int.reduceNeg, Int.reduceMod, Int.reduceDiv, Int.reduceTMod, Int.reduceTDiv, Int.zero_add, Int.add_zero]; rfl) | rfl)) (by (dsimp only [inR]; first | decide | omega)) ?_; conv => whnf)
        | (fail))
      | (refine new_i ?_; intro _; conv => whnf)
      | (refine br_id ?_; first
        | (refine br_t (by first | decide | omega | (with_reducible rfl) | fail | (simp only [cellEq, toB]; omega) | (simp only [cellEq, toB]; simp; done) | fail) ?_; conv => whnf)
        | (refine br_f (by first | decide | omega | (with_reducible exact Bool.false_ne_true) | (with_reducible refine not_not_intro ?_; fail) | (simp only [cellEq, toB]; omega) | (simp only [cellEq, toB]; simp; done) | fail) ?_; conv => whnf)
        | ((refine br_any (fun h => ?_) (fun h => ?_) <;> (try simp only [cellEq, toB, Bool.not_eq_true, Bool.not_eq_false] at h) <;> (try (exfalso; first | omega | contradiction | (simp at h; done) | fail); done) <;> conv => whnf)))
      | (refine ix_id ?_; first
        | (refine ix_lit (by first | decide | omega) (by (first | (simp only [Nat.zero_add, Nat.add_zero, Nat.mul_one, Nat.reduceAdd, Nat.reduceMul, Int.reduceToNat, Int.toNat_natCast, Int.toNat_zero, Int.toNat_one, Nat.zero_mul]; done) | (simp only [Nat.zero_add, Nat.add_zero, Nat.mul_one, Nat.reduceAdd, Nat.reduceMul, Int.reduceToNat, Int.toNat_natCast, Int.toNat_zero, Int.toNat_one, Nat.zero_mul]; rfl) | rfl)) (by rfl) ?_; conv => whnf)
        | (refine ix_sym (by omega) ?_; conv => whnf))
      | (refine lcall_id ?_; first | (refine lcall_ret (fun w' hloc => make_S w') ?_; conv => whnf) | (refine lcall_mk (fun w' hloc => two_X 28 (hdr true apid) w' (by simp only [hdr]; omega)) ?_; (rintro _ _ mm ⟨A1, c1, rfl, rfl, hf1⟩ hmm; simp only [List.cons_append, List.nil_append] at hmm; subst hmm; conv => whnf)) | (refine lcall_mk (fun w' hloc => two_X 28 (hdr false apid) w' (by simp only [hdr]; omega)) ?_; (rintro _ _ mm ⟨A1, c1, rfl, rfl, hf1⟩ hmm; simp only [List.cons_append, List.nil_append] at hmm; subst hmm; conv => whnf)) | (refine lcall_mk (fun w' hloc => two_X 32 (49152 + count) w' (by omega)) ?_; (rintro _ _ mm ⟨A2, c2, rfl, rfl, hf2⟩ hmm; simp only [List.cons_append, List.nil_append] at hmm; subst hmm; conv => whnf)) | (refine lcall_mk (fun w' hloc => two_X 39 ((zs.length : Int) + 2 - 1) w' (by omega)) ?_; (rintro _ _ mm ⟨A3, c3, rfl, rfl, hf3⟩ hmm; simp only [List.cons_append, List.nil_append] at hmm; subst hmm; conv => whnf)) | (refine lcall_mk (fun w' hloc => bjoin_X 43 _ _ _ 4 [(A1, c1, be2 (hdr true apid)), (A2, c2, be2 (49152 + count)), (A3, c3, be2 ((zs.length : Int) + 2 - 1)), (A, cp, zs)] w' (pktH true apid count zs) (bls_tag hloc (by rfl) (by rfl) (all_cons ⟨row_irow hloc (by (first | ((repeat (first | (with_reducible exact am_blk) | (with_reducible exact am_row) | (with_reducible exact am_blkV) | (with_reducible exact am_oth) | (with_reducible apply am_tail))); done) | ((repeat (first | exact am_row | exact am_blk | exact am_blkV | apply am_tail)); done))), hf1.2.1⟩ (all_cons ⟨row_irow hloc (by (first | ((repeat (first | (with_reducible exact am_blk) | (with_reducible exact am_row) | (with_reducible exact am_blkV) | (with_reducible exact am_oth) | (with_reducible apply am_tail))); done) | ((repeat (first | exact am_row | exact am_blk | exact am_blkV | apply am_tail)); done))), hf2.2.1⟩ (all_cons ⟨row_irow hloc (by (first | ((repeat (first | (with_reducible exact am_blk) | (with_reducible exact am_row) | (with_reducible exact am_blkV) | (with_reducible exact am_oth) | (with_reducible apply am_tail))); done) | ((repeat (first | exact am_row | exact am_blk | exact am_blkV | apply am_tail)); done))), hf3.2.1⟩ (all_cons ⟨irow_loc hr hloc, hn0⟩ all_nil))))) rfl (by simp [BLs.all, pktH]) hul (by omega) (by omega) (by decide) (by decide)) ?_; (rintro _ _ mm ⟨A4, c4, rfl, rfl, hf4⟩ hmm; simp only [List.cons_append, List.nil_append] at hmm; subst hmm; conv => whnf)) | (refine lcall_mk (fun w' hloc => bjoin_X 43 _ _ _ 4 [(A1, c1, be2 (hdr false apid)), (A2, c2, be2 (49152 + count)), (A3, c3, be2 ((zs.length : Int) + 2 - 1)), (A, cp, zs)] w' (pktH false apid count zs) (bls_tag hloc (by rfl) (by rfl) (all_cons ⟨row_irow hloc (by (first | ((repeat (first | (with_reducible exact am_blk) | (with_reducible exact am_row) | (with_reducible exact am_blkV) | (with_reducible exact am_oth) | (with_reducible apply am_tail))); done) | ((repeat (first | exact am_row | exact am_blk | exact am_blkV | apply am_tail)); done))), hf1.2.1⟩ (all_cons ⟨row_irow hloc (by (first | ((repeat (first | (with_reducible exact am_blk) | (with_reducible exact am_row) | (with_reducible exact am_blkV) | (with_reducible exact am_oth) | (with_reducible apply am_tail))); done) | ((repeat (first | exact am_row | exact am_blk | exact am_blkV | apply am_tail)); done))), hf2.2.1⟩ (all_cons ⟨row_irow hloc (by (first | ((repeat (first | (with_reducible exact am_blk) | (with_reducible exact am_row) | (with_reducible exact am_blkV) | (with_reducible exact am_oth) | (with_reducible apply am_tail))); done) | ((repeat (first | exact am_row | exact am_blk | exact am_blkV | apply am_tail)); done))), hf3.2.1⟩ (all_cons ⟨irow_loc hr hloc, hn0⟩ all_nil))))) rfl (by simp [BLs.all, pktH]) hul (by omega) (by omega) (by decide) (by decide)) ?_; (rintro _ _ mm ⟨A4, c4, rfl, rfl, hf4⟩ hmm; simp only [List.cons_append, List.nil_append] at hmm; subst hmm; conv => whnf)) | (refine lcall_mk (fun w' hloc => append_X 46 _ _ _ _ _ w' (ro_irow hloc (by (first | ((repeat (first | (with_reducible exact am_blk) | (with_reducible exact am_row) | (with_reducible exact am_blkV) | (with_reducible exact am_oth) | (with_reducible apply am_tail))); done) | ((repeat (first | exact am_row | exact am_blk | exact am_blkV | apply am_tail)); done)))) hf4.2.2 (by omega) hul) ?_; (rintro _ _ mm ⟨A5, c5, rfl, rfl, hf5⟩ hmm; simp only [List.cons_append, List.nil_append] at hmm; subst hmm; conv => whnf)))
      | (refine lload_id ?_; first
        | (fail)
        | (refine load_old _ (by with_reducible assumption) (by simp; done) ?_; conv => whnf))
      | (refine lixs_id ?_; fail)
      | (refine ex_id ?_; first
        | (first | (with_reducible refine ex_z (or_hi 11 (by decide) (by omega) (by decide) (by omega)) ?_; conv => whnf) | (with_reducible refine ex_z (or_hi 12 (by decide) (by omega) (by decide) (by omega)) ?_; conv => whnf) | (with_reducible refine ex_z (or_hi 14 (by decide) (by omega) (by decide) (by omega)) ?_; conv => whnf))
        | (refine ex_z (by (first | (simp only [Int.reduceAdd, Int.reduceSub, Int.reduceMul, Int.reduceNeg, Int.reduceMod, Int.reduceDiv, Int.reduceTMod, Int.reduceTDiv, Int.zero_add, Int.add_zero]; done) | (simp only [Int.reduceAdd, Int.reduceSub, Int.reduceMul, Int.reduceNeg, Int.reduceMod, Int.reduceDiv, Int.reduceTMod, Int.reduceTDiv, Int.zero_add, Int.add_zero]; rfl) | rfl)) ?_; conv => whnf))
      | (refine sh_id ?_; first
        | (fail)
        | (refine sh_z (by omega) (by (first | (simp only [Int.reduceAdd, Int.reduceSub, Int.reduceMul, Int.reduceNeg, Int.reduceMod, Int.reduceDiv, Int.reduceTMod, Int.reduceTDiv, Int.zero_add, Int.add_zero]; done) | (simp only [Int.reduceAdd, Int.reduceSub, Int.reduceMul, Int.reduceNeg, Int.reduceMod, Int.reduceDiv, Int.reduceTMod, Int.reduceTDiv, Int.zero_add, Int.add_zero]; rfl) | rfl)) ?_; conv => whnf))
      | (refine quo_id ?_; first
        | (refine quo_in (by omega) (by (first | (simp only [Int.reduceAdd, Int.reduceSub, Int.reduceMul, Int.reduceNeg, Int.reduceMod, Int.reduceDiv, Int.reduceTMod, Int.reduceTDiv, Int.zero_add, Int.add_zero]; done) | (simp only [Int.reduceAdd, Int.reduceSub, Int.reduceMul, Int.reduceNeg, Int.reduceMod, Int.reduceDiv, Int.reduceTMod, Int.reduceTDiv, Int.zero_add, Int.add_zero]; rfl) | rfl)) (by (dsimp only [inR]; first | decide | omega)) ?_; conv => whnf)
        | (refine quo_t (by omega) (by (dsimp only [inR]; first | decide | omega)) ?_; conv => whnf))
      | (refine rem_id ?_; first
        | (refine rem_in (by omega) (by (first | (simp only [Int.reduceAdd, Int.reduceSub, Int.reduceMul, Int.reduceNeg, Int.reduceMod, Int.reduceDiv, Int.reduceTMod, Int.reduceTDiv, Int.zero_add, Int.add_zero]; done) | (simp only [Int.reduceAdd, Int.reduceSub, Int.reduceMul, Int.reduceNeg, Int.reduceMod, Int.reduceDiv, Int.reduceTMod, Int.reduceTDiv, Int.zero_add, Int.add_zero]; rfl) | rfl)) ?_; conv => whnf)
        | (refine rem_t (by omega) ?_; conv => whnf))
      | (refine app_id ?_; refine app_i (by (first | (simp only [Nat.zero_add, Nat.add_zero, Nat.mul_one, Nat.reduceAdd, Nat.reduceMul, Int.reduceToNat, Int.toNat_natCast, Int.toNat_zero, Int.toNat_one, Nat.zero_mul]; done) | (simp only [Nat.zero_add, Nat.add_zero, Nat.mul_one, Nat.reduceAdd, Nat.reduceMul, Int.reduceToNat, Int.toNat_natCast, Int.toNat_zero, Int.toNat_one, Nat.zero_mul]; rfl) | rfl)) (by (first | (simp only [List.nil_append, List.cons_append, List.append_nil]; done) | (simp only [List.nil_append, List.cons_append, List.append_nil]; rfl) | rfl)) (by first | omega | (change _ * 1 ≤ _; omega) | (change _ * 8 ≤ _; omega) | (change _ * 2 ≤ _; omega) | (change _ * 4 ≤ _; omega) | (change _ * 16 ≤ _; omega) | (change _ * 24 ≤ _; omega) | (change _ * 32 ≤ _; omega) | (change _ * 40 ≤ _; omega)) (by first | omega | decide) ?_; intro _ _ _; conv => whnf)
      | (refine mk_id ?_; first | (refine mk_lit (by rfl) (by rfl) (by decide) (by rfl) ?_; conv => whnf) | (refine mk_sym _ (by first | rfl | omega) (by first | rfl | omega) (by omega) (by omega) ?_; conv => whnf))
      | (refine sl_id ?_; fail)
      | (refine eff_id ?_; fail)
      | (refine val_id ?_; fail)
      | (refine x_rnd ?_)
      | (refine x_rnd' ?_)
      | (refine xdrw_id ?_; first | (refine x_drw tab_ok (id := 8) [] [] [0, 1, 2, 3, 4, 5, 6, 7, 8, 9, 10, 11, 12, 13, 14, 15, 16, 17] followsMixed (by kernel_rfl) (by rfl) (by rfl) ?_; conv => whnf)))
    all_goals exact fin_resN tag rfl
  · rw [pktB, pktE, if_neg h1, if_neg h1]
    by_cases h2 : 200 < zs.length
    · rw [if_pos h2, if_pos h2]
      refine retX_x tab_ok (mem0 := []) Try.func31 rfl Try.ntmps31 (by rfl) (.init w) ?_; simp only [argX, Nat.reduceAdd, Nat.zero_add]; conv => whnf
      repeat' (first
        | (fail)
        | (refine run_c tab_ok ?_; conv => whnf)
        | (refine side_id ?_; refine side_i (by first | rfl | exact ⟨rfl, rfl, rfl, rfl⟩ | trivial | (simp [allOne, partsOne, Value.cells, Value.oneCell']; done) | fail) ?_; conv => whnf)
        | (refine ar_id ?_; first
          | (refine ar_in (by (first | (simp only [Int.reduceAdd, Int.reduceSub, Int.reduceMul, Int.reduceNeg, Int.reduceMod, Int.reduceDiv, Int.reduceTMod, Int.reduceTDiv, Int.zero_add, Int.add_zero]; done) | (simp only [Int.reduceAdd, Int.reduceSub, Int.reduceMul, Int.reduceNeg, Int.reduceMod, Int.reduceDiv, Int.reduceTMod, Int.reduceTDiv, Int.zero_add, Int.add_zero]; rfl) | rfl)) (by (dsimp only [inR]; first | decide | omega)) ?_; conv => whnf)
          | (fail))
        | (refine new_i ?_; intro _; conv => whnf)
        | (refine br_id ?_; first
          | (refine br_t (by first | decide | omega | (with_reducible rfl) | fail | (simp only [cellEq, toB]; omega) | (simp only [cellEq, toB]; simp; done) | fail) ?_; conv => whnf)
          | (refine br_f (by first | decide | omega | (with_reducible exact Bool.false_ne_true) | (with_reducible refine not_not_intro ?_; fail) | (simp only [cellEq, toB]; omega) | (simp only [cellEq, toB]; simp; done) | fail) ?_; conv => whnf)
          | ((refine br_any (fun h => ?_) (fun h => ?_) <;> (try simp only [cellEq, toB, Bool.not_eq_true, Bool.not_eq_false] at h) <;> (try (exfalso; first | omega | contradiction | (simp at h; done) | fail); done) <;> conv => whnf)))
        | (refine ix_id ?_; first
          | (refine ix_lit (by first | decide | omega) (by (first | (simp only [Nat.zero_add, Nat.add_zero, Nat.mul_one, Nat.reduceAdd, Nat.reduceMul, Int.reduceToNat, Int.toNat_natCast, Int.toNat_zero, Int.toNat_one, Nat.zero_mul]; done) | (simp only [Nat.zero_add, Nat.add_zero, Nat.mul_one, Nat.reduceAdd, Nat.reduceMul, Int.reduceToNat, Int.toNat_natCast, Int.toNat_zero, Int.toNat_one, Nat.zero_mul]; rfl) | rfl)) (by rfl) ?_; conv => whnf)
          | (refine ix_sym (by omega) ?_; conv => whnf))
        | (refine lcall_id ?_; first | (refine lcall_ret (fun w' hloc => make_S w') ?_; conv => whnf) | (refine lcall_mk (fun w' hloc => two_X 28 (hdr true apid) w' (by simp only [hdr]; omega)) ?_; (rintro _ _ mm ⟨A1, c1, rfl, rfl, hf1⟩ hmm; simp only [List.cons_append, List.nil_append] at hmm; subst hmm; conv => whnf)) | (refine lcall_mk (fun w' hloc => two_X 28 (hdr false apid) w' (by simp only [hdr]; omega)) ?_; (rintro _ _ mm ⟨A1, c1, rfl, rfl, hf1⟩ hmm; simp only [List.cons_append, List.nil_append] at hmm; subst hmm; conv => whnf)) | (refine lcall_mk (fun w' hloc => two_X 32 (49152 + count) w' (by omega)) ?_; (rintro _ _ mm ⟨A2, c2, rfl, rfl, hf2⟩ hmm; simp only [List.cons_append, List.nil_append] at hmm; subst hmm; conv => whnf)) | (refine lcall_mk (fun w' hloc => two_X 39 ((zs.length : Int) + 2 - 1) w' (by omega)) ?_; (rintro _ _ mm ⟨A3, c3, rfl, rfl, hf3⟩ hmm; simp only [List.cons_append, List.nil_append] at hmm; subst hmm; conv => whnf)) | (refine lcall_mk (fun w' hloc => bjoin_X 43 _ _ _ 4 [(A1, c1, be2 (hdr true apid)), (A2, c2, be2 (49152 + count)), (A3, c3, be2 ((zs.length : Int) + 2 - 1)), (A, cp, zs)] w' (pktH true apid count zs) (bls_tag hloc (by rfl) (by rfl) (all_cons ⟨row_irow hloc (by (first | ((repeat (first | (with_reducible exact am_blk) | (with_reducible exact am_row) | (with_reducible exact am_blkV) | (with_reducible exact am_oth) | (with_reducible apply am_tail))); done) | ((repeat (first | exact am_row | exact am_blk | exact am_blkV | apply am_tail)); done))), hf1.2.1⟩ (all_cons ⟨row_irow hloc (by (first | ((repeat (first | (with_reducible exact am_blk) | (with_reducible exact am_row) | (with_reducible exact am_blkV) | (with_reducible exact am_oth) | (with_reducible apply am_tail))); done) | ((repeat (first | exact am_row | exact am_blk | exact am_blkV | apply am_tail)); done))), hf2.2.1⟩ (all_cons ⟨row_irow hloc (by (first | ((repeat (first | (with_reducible exact am_blk) | (with_reducible exact am_row) | (with_reducible exact am_blkV) | (with_reducible exact am_oth) | (with_reducible apply am_tail))); done) | ((repeat (first | exact am_row | exact am_blk | exact am_blkV | apply am_tail)); done))), hf3.2.1⟩ (all_cons ⟨irow_loc hr hloc, hn0⟩ all_nil))))) rfl (by simp [BLs.all, pktH]) hul (by omega) (by omega) (by decide) (by decide)) ?_; (rintro _ _ mm ⟨A4, c4, rfl, rfl, hf4⟩ hmm; simp only [List.cons_append, List.nil_append] at hmm; subst hmm; conv => whnf)) | (refine lcall_mk (fun w' hloc => bjoin_X 43 _ _ _ 4 [(A1, c1, be2 (hdr false apid)), (A2, c2, be2 (49152 + count)), (A3, c3, be2 ((zs.length : Int) + 2 - 1)), (A, cp, zs)] w' (pktH false apid count zs) (bls_tag hloc (by rfl) (by rfl) (all_cons ⟨row_irow hloc (by (first | ((repeat (first | (with_reducible exact am_blk) | (with_reducible exact am_row) | (with_reducible exact am_blkV) | (with_reducible exact am_oth) | (with_reducible apply am_tail))); done) | ((repeat (first | exact am_row | exact am_blk | exact am_blkV | apply am_tail)); done))), hf1.2.1⟩ (all_cons ⟨row_irow hloc (by (first | ((repeat (first | (with_reducible exact am_blk) | (with_reducible exact am_row) | (with_reducible exact am_blkV) | (with_reducible exact am_oth) | (with_reducible apply am_tail))); done) | ((repeat (first | exact am_row | exact am_blk | exact am_blkV | apply am_tail)); done))), hf2.2.1⟩ (all_cons ⟨row_irow hloc (by (first | ((repeat (first | (with_reducible exact am_blk) | (with_reducible exact am_row) | (with_reducible exact am_blkV) | (with_reducible exact am_oth) | (with_reducible apply am_tail))); done) | ((repeat (first | exact am_row | exact am_blk | exact am_blkV | apply am_tail)); done))), hf3.2.1⟩ (all_cons ⟨irow_loc hr hloc, hn0⟩ all_nil))))) rfl (by simp [BLs.all, pktH]) hul (by omega) (by omega) (by decide) (by decide)) ?_; (rintro _ _ mm ⟨A4, c4, rfl, rfl, hf4⟩ hmm; simp only [List.cons_append, List.nil_append] at hmm; subst hmm; conv => whnf)) | (refine lcall_mk (fun w' hloc => append_X 46 _ _ _ _ _ w' (ro_irow hloc (by (first | ((repeat (first | (with_reducible exact am_blk) | (with_reducible exact am_row) | (with_reducible exact am_blkV) | (with_reducible exact am_oth) | (with_reducible apply am_tail))); done) | ((repeat (first | exact am_row | exact am_blk | exact am_blkV | apply am_tail)); done)))) hf4.2.2 (by omega) hul) ?_; (rintro _ _ mm ⟨A5, c5, rfl, rfl, hf5⟩ hmm; simp only [List.cons_append, List.nil_append] at hmm; subst hmm; conv => whnf)))
        | (refine lload_id ?_; first
          | (fail)
          | (refine load_old _ (by with_reducible assumption) (by simp; done) ?_; conv => whnf))
        | (refine lixs_id ?_; fail)
        | (refine ex_id ?_; first
          | (first | (with_reducible refine ex_z (or_hi 11 (by decide) (by omega) (by decide) (by omega)) ?_; conv => whnf) | (with_reducible refine ex_z (or_hi 12 (by decide) (by omega) (by decide) (by omega)) ?_; conv => whnf) | (with_reducible refine ex_z (or_hi 14 (by decide) (by omega) (by decide) (by omega)) ?_; conv => whnf))
          | (refine ex_z (by (first | (simp only [Int.reduceAdd, Int.reduceSub, Int.reduceMul, Int.reduceNeg, Int.reduceMod, Int.reduceDiv, Int.reduceTMod, Int.reduceTDiv, Int.zero_add, Int.add_zero]; done) | (simp only [Int.reduceAdd, Int.reduceSub, Int.reduceMul, Int.reduceNeg, Int.reduceMod, Int.reduceDiv, Int.reduceTMod, Int.reduceTDiv, Int.zero_add, Int.add_zero]; rfl) | rfl)) ?_; conv => whnf))
        | (refine sh_id ?_; first
          | (fail)
          | (refine sh_z (by omega) (by (first | (simp only [Int.reduceAdd, Int.reduceSub, Int.reduceMul, Int.reduceNeg, Int.reduceMod, Int.reduceDiv, Int.reduceTMod, Int.reduceTDiv, Int.zero_add, Int.add_zero]; done) | (simp only [Int.reduceAdd, Int.reduceSub, Int.reduceMul, Int.reduceNeg, Int.reduceMod, Int.reduceDiv, Int.reduceTMod, Int.reduceTDiv, Int.zero_add, Int.add_zero]; rfl) | rfl)) ?_; conv => whnf))
        | (refine quo_id ?_; first
          | (refine quo_in (by omega) (by (first | (simp only [Int.reduceAdd, Int.reduceSub, Int.reduceMul, Int.reduceNeg, Int.reduceMod, Int.reduceDiv, Int.reduceTMod, Int.reduceTDiv, Int.zero_add, Int.add_zero]; done) | (simp only [Int.reduceAdd, Int.reduceSub, Int.reduceMul, Int.reduceNeg, Int.reduceMod, Int.reduceDiv, Int.reduceTMod, Int.reduceTDiv, Int.zero_add, Int.add_zero]; rfl) | rfl)) (by (dsimp only [inR]; first | decide | omega)) ?_; conv => whnf)
          | (refine quo_t (by omega) (by (dsimp only [inR]; first | decide | omega)) ?_; conv => whnf))
        | (refine rem_id ?_; first
          | (refine rem_in (by omega) (by (first | (simp only [Int.reduceAdd, Int.reduceSub, Int.reduceMul, Int.reduceNeg, Int.reduceMod, Int.reduceDiv, Int.reduceTMod, Int.reduceTDiv, Int.zero_add, Int.add_zero]; done) | (simp only [Int.reduceAdd, Int.reduceSub, Int.reduceMul, Int.reduceNeg, Int.reduceMod, Int.reduceDiv, Int.reduceTMod, Int.reduceTDiv, Int.zero_add, Int.add_zero]; rfl) | rfl)) ?_; conv => whnf)
          | (refine rem_t (by omega) ?_; conv => whnf))
        | (refine app_id ?_; refine app_i (by (first | (simp only [Nat.zero_add, Nat.add_zero, Nat.mul_one, Nat.reduceAdd, Nat.reduceMul, Int.reduceToNat, Int.toNat_natCast, Int.toNat_zero, Int.toNat_one, Nat.zero_mul]; done) | (simp only [Nat.zero_add, Nat.add_zero, Nat.mul_one, Nat.reduceAdd, Nat.reduceMul, Int.reduceToNat, Int.toNat_natCast, Int.toNat_zero, Int.toNat_one, Nat.zero_mul]; rfl) | rfl)) (by (first | (simp only [List.nil_append, List.cons_append, List.append_nil]; done) | (simp only [List.nil_append, List.cons_append, List.append_nil]; rfl) | rfl)) (by first | omega | (change _ * 1 ≤ _; omega) | (change _ * 8 ≤ _; omega) | (change _ * 2 ≤ _; omega) | (change _ * 4 ≤ _; omega) | (change _ * 16 ≤ _; omega) | (change _ * 24 ≤ _; omega) | (change _ * 32 ≤ _; omega) | (change _ * 40 ≤ _; omega)) (by first | omega | decide) ?_; intro _ _ _; conv => whnf)
        | (refine mk_id ?_; first | (refine mk_lit (by rfl) (by rfl) (by decide) (by rfl) ?_; conv => whnf) | (refine mk_sym _ (by first | rfl | omega) (by first | rfl | omega) (by omega) (by omega) ?_; conv => whnf))
        | (refine sl_id ?_; fail)
        | (refine eff_id ?_; fail)
        | (refine val_id ?_; fail)
        | (refine x_rnd ?_)
        | (refine x_rnd' ?_)
        | (refine xdrw_id ?_; first | (refine x_drw tab_ok (id := 8) [] [] [0, 1, 2, 3, 4, 5, 6, 7, 8, 9, 10, 11, 12, 13, 14, 15, 16, 17] followsMixed (by kernel_rfl) (by rfl) (by rfl) ?_; conv => whnf)))
      exact fin_resN tag rfl
    · rw [if_neg h2, if_neg h2]
      have hul := pktH_u8 (cmd := cmd) (apid := apid) (count := count) (zs := zs) (by omega) (by omega) (by omega) hu
      have hll := pktH_len cmd apid count zs
      cases cmd with
      | true =>
        refine retX_x tab_ok (mem0 := []) Try.func31 rfl Try.ntmps31 (by rfl) (.init w) ?_; simp only [argX, Nat.reduceAdd, Nat.zero_add]; conv => whnf
        repeat' (first
          | (fail)
          | (refine run_c tab_ok ?_; conv => whnf)
          | (refine side_id ?_; refine side_i (by first | rfl | exact ⟨rfl, rfl, rfl, rfl⟩ | trivial | (simp [allOne, partsOne, Value.cells, Value.oneCell']; done) | fail) ?_; conv => whnf)
          | (refine ar_id ?_; first
            | (refine ar_in (by (first | (simp only [Int.reduceAdd, Int.reduceSub, Int.reduceMul, Int.reduceNeg, Int.reduceMod, Int.reduceDiv, Int.reduceTMod, Int.reduceTDiv, Int.zero_add, Int.add_zero]; done) | (simp only [Int.reduceAdd, Int.reduceSub, Int.reduceMul, Int.reduceNeg, Int.reduceMod, Int.reduceDiv, Int.reduceTMod, Int.reduceTDiv, Int.zero_add, Int.add_zero]; rfl) | rfl)) (by (dsimp only [inR]; first | decide | omega)) ?_; conv => whnf)
            | (fail))
          | (refine new_i ?_; intro _; conv => whnf)
          | (refine br_id ?_; first
            | (refine br_t (by first | decide | omega | (with_reducible rfl) | fail | (simp only [cellEq, toB]; omega) | (simp only [cellEq, toB]; simp; done) | fail) ?_; conv => whnf)
            | (refine br_f (by first | decide | omega | (with_reducible exact Bool.false_ne_true) | (with_reducible refine not_not_intro ?_; fail) | (simp only [cellEq, toB]; omega) | (simp only [cellEq, toB]; simp; done) | fail) ?_; conv => whnf)
            | ((refine br_any (fun h => ?_) (fun h => ?_) <;> (try simp only [cellEq, toB, Bool.not_eq_true, Bool.not_eq_false] at h) <;> (try (exfalso; first | omega | contradiction | (simp at h; done) | fail); done) <;> conv => whnf)))
          | (refine ix_id ?_; first
            | (refine ix_lit (by first | decide | omega) (by (first | (simp only [Nat.zero_add, Nat.add_zero, Nat.mul_one, Nat.reduceAdd, Nat.reduceMul, Int.reduceToNat, Int.toNat_natCast, Int.toNat_zero, Int.toNat_one, Nat.zero_mul]; done) | (simp only [Nat.zero_add, Nat.add_zero, Nat.mul_one, Nat.reduceAdd, Nat.reduceMul, Int.reduceToNat, Int.toNat_natCast, Int.toNat_zero, Int.toNat_one, Nat.zero_mul]; rfl) | rfl)) (by rfl) ?_; conv => whnf)
            | (refine ix_sym (by omega) ?_; conv => whnf))
          | (refine lcall_id ?_; first | (refine lcall_ret (fun w' hloc => make_S w') ?_; conv => whnf) | (refine lcall_mk (fun w' hloc => two_X 28 (hdr true apid) w' (by simp only [hdr]; omega)) ?_; (rintro _ _ mm ⟨A1, c1, rfl, rfl, hf1⟩ hmm; simp only [List.cons_append, List.nil_append] at hmm; subst hmm; conv => whnf)) | (refine lcall_mk (fun w' hloc => two_X 28 (hdr false apid) w' (by simp only [hdr]; omega)) ?_; (rintro _ _ mm ⟨A1, c1, rfl, rfl, hf1⟩ hmm; simp only [List.cons_append, List.nil_append] at hmm; subst hmm; conv => whnf)) | (refine lcall_mk (fun w' hloc => two_X 32 (49152 + count) w' (by omega)) ?_; (rintro _ _ mm ⟨A2, c2, rfl, rfl, hf2⟩ hmm; simp only [List.cons_append, List.nil_append] at hmm; subst hmm; conv => whnf)) | (refine lcall_mk (fun w' hloc => two_X 39 ((zs.length : Int) + 2 - 1) w' (by omega)) ?_; (rintro _ _ mm ⟨A3, c3, rfl, rfl, hf3⟩ hmm; simp only [List.cons_append, List.nil_append] at hmm; subst hmm; conv => whnf)) | (refine lcall_mk (fun w' hloc => bjoin_X 43 _ _ _ 4 [(A1, c1, be2 (hdr true apid)), (A2, c2, be2 (49152 + count)), (A3, c3, be2 ((zs.length : Int) + 2 - 1)), (A, cp, zs)] w' (pktH true apid count zs) (bls_tag hloc (by rfl) (by rfl) (all_cons ⟨row_irow hloc (by (first | ((repeat (first | (with_reducible exact am_blk) | (with_reducible exact am_row) | (with_reducible exact am_blkV) | (with_reducible exact am_oth) | (with_reducible apply am_tail))); done) | ((repeat (first | exact am_row | exact am_blk | exact am_blkV | apply am_tail)); done))), hf1.2.1⟩ (all_cons ⟨row_irow hloc (by (first | ((repeat (first | (with_reducible exact am_blk) | (with_reducible exact am_row) | (with_reducible exact am_blkV) | (with_reducible exact am_oth) | (with_reducible apply am_tail))); done) | ((repeat (first | exact am_row | exact am_blk | exact am_blkV | apply am_tail)); done))), hf2.2.1⟩ (all_cons ⟨row_irow hloc (by (first | ((repeat (first | (with_reducible exact am_blk) | (with_reducible exact am_row) | (with_reducible exact am_blkV) | (with_reducible exact am_oth) | (with_reducible apply am_tail))); done) | ((repeat (first | exact am_row | exact am_blk | exact am_blkV | apply am_tail)); done))), hf3.2.1⟩ (all_cons ⟨irow_loc hr hloc, hn0⟩ all_nil))))) rfl (by simp [BLs.all, pktH]) hul (by omega) (by omega) (by decide) (by decide)) ?_; (rintro _ _ mm ⟨A4, c4, rfl, rfl, hf4⟩ hmm; simp only [List.cons_append, List.nil_append] at hmm; subst hmm; conv => whnf)) | (refine lcall_mk (fun w' hloc => bjoin_X 43 _ _ _ 4 [(A1, c1, be2 (hdr false apid)), (A2, c2, be2 (49152 + count)), (A3, c3, be2 ((zs.length : Int) + 2 - 1)), (A, cp, zs)] w' (pktH false apid count zs) (bls_tag hloc (by rfl) (by rfl) (all_cons ⟨row_irow hloc (by (first | ((repeat (first | (with_reducible exact am_blk) | (with_reducible exact am_row) | (with_reducible exact am_blkV) | (with_reducible exact am_oth) | (with_reducible apply am_tail))); done) | ((repeat (first | exact am_row | exact am_blk | exact am_blkV | apply am_tail)); done))), hf1.2.1⟩ (all_cons ⟨row_irow hloc (by (first | ((repeat (first | (with_reducible exact am_blk) | (with_reducible exact am_row) | (with_reducible exact am_blkV) | (with_reducible exact am_oth) | (with_reducible apply am_tail))); done) | ((repeat (first | exact am_row | exact am_blk | exact am_blkV | apply am_tail)); done))), hf2.2.1⟩ (all_cons ⟨row_irow hloc (by (first | ((repeat (first | (with_reducible exact am_blk) | (with_reducible exact am_row) | (with_reducible exact am_blkV) | (with_reducible exact am_oth) | (with_reducible apply am_tail))); done) | ((repeat (first | exact am_row | exact am_blk | exact am_blkV | apply am_tail)); done))), hf3.2.1⟩ (all_cons ⟨irow_loc hr hloc, hn0⟩ all_nil))))) rfl (by simp [BLs.all, pktH]) hul (by omega) (by omega) (by decide) (by decide)) ?_; (rintro _ _ mm ⟨A4, c4, rfl, rfl, hf4⟩ hmm; simp only [List.cons_append, List.nil_append] at hmm; subst hmm; conv => whnf)) | (refine lcall_mk (fun w' hloc => append_X 46 _ _ _ _ _ w' (ro_irow hloc (by (first | ((repeat (first | (with_reducible exact am_blk) | (with_reducible exact am_row) | (with_reducible exact am_blkV) | (with_reducible exact am_oth) | (with_reducible apply am_tail))); done) | ((repeat (first | exact am_row | exact am_blk | exact am_blkV | apply am_tail)); done)))) hf4.2.2 (by omega) hul) ?_; (rintro _ _ mm ⟨A5, c5, rfl, rfl, hf5⟩ hmm; simp only [List.cons_append, List.nil_append] at hmm; subst hmm; conv => whnf)))
          | (refine lload_id ?_; first
            | (fail)
            | (refine load_old _ (by with_reducible assumption) (by simp; done) ?_; conv => whnf))
          | (refine lixs_id ?_; fail)
          | (refine ex_id ?_; first
            | (first | (with_reducible refine ex_z (or_hi 11 (by decide) (by omega) (by decide) (by omega)) ?_; conv => whnf) | (with_reducible refine ex_z (or_hi 12 (by decide) (by omega) (by decide) (by omega)) ?_; conv => whnf) | (with_reducible refine ex_z (or_hi 14 (by decide) (by omega) (by decide) (by omega)) ?_; conv => whnf))
            | (refine ex_z (by (first | (simp only [Int.reduceAdd, Int.reduceSub, Int.reduceMul, Int.reduceNeg, Int.reduceMod, Int.reduceDiv, Int.reduceTMod, Int.reduceTDiv, Int.zero_add, Int.add_zero]; done) | (simp only [Int.reduceAdd, Int.reduceSub, Int.reduceMul, Int.reduceNeg, Int.reduceMod, Int.reduceDiv, Int.reduceTMod, Int.reduceTDiv, Int.zero_add, Int.add_zero]; rfl) | rfl)) ?_; conv => whnf))
          | (refine sh_id ?_; first
            | (fail)
            | (refine sh_z (by omega) (by (first | (simp only [Int.reduceAdd, Int.reduceSub, Int.reduceMul, Int.reduceNeg, Int.reduceMod, Int.reduceDiv, Int.reduceTMod, Int.reduceTDiv, Int.zero_add, Int.add_zero]; done) | (simp only [Int.reduceAdd, Int.reduceSub, Int.reduceMul, Int.reduceNeg, Int.reduceMod, Int.reduceDiv, Int.reduceTMod, Int.reduceTDiv, Int.zero_add, Int.add_zero]; rfl) | rfl)) ?_; conv => whnf))
          | (refine quo_id ?_; first
            | (refine quo_in (by omega) (by (first | (simp only [Int.reduceAdd, Int.reduceSub, Int.reduceMul, Int.reduceNeg, Int.reduceMod, Int.reduceDiv, Int.reduceTMod, Int.reduceTDiv, Int.zero_add, Int.add_zero]; done) | (simp only [Int.reduceAdd, Int.reduceSub, Int.reduceMul, Int.reduceNeg, Int.reduceMod, Int.reduceDiv, Int.reduceTMod, Int.reduceTDiv, Int.zero_add, Int.add_zero]; rfl) | rfl)) (by (dsimp only [inR]; first | decide | omega)) ?_; conv => whnf)
            | (refine quo_t (by omega) (by (dsimp only [inR]; first | decide | omega)) ?_; conv => whnf))
          | (refine rem_id ?_; first
            | (refine rem_in (by omega) (by (first | (simp only [Int.reduceAdd, Int.reduceSub, Int.reduceMul, Int.reduceNeg, Int.reduceMod, Int.reduceDiv, Int.reduceTMod, Int.reduceTDiv, Int.zero_add, Int.add_zero]; done) | (simp only [Int.reduceAdd, Int.reduceSub, Int.reduceMul, Int.reduceNeg, Int.reduceMod, Int.reduceDiv, Int.reduceTMod, Int.reduceTDiv, Int.zero_add, Int.add_zero]; rfl) | rfl)) ?_; conv => whnf)
            | (refine rem_t (by omega) ?_; conv => whnf))
          | (refine app_id ?_; refine app_i (by (first | (simp only [Nat.zero_add, Nat.add_zero, Nat.mul_one, Nat.reduceAdd, Nat.reduceMul, Int.reduceToNat, Int.toNat_natCast, Int.toNat_zero, Int.toNat_one, Nat.zero_mul]; done) | (simp only [Nat.zero_add, Nat.add_zero, Nat.mul_one, Nat.reduceAdd, Nat.reduceMul, Int.reduceToNat, Int.toNat_natCast, Int.toNat_zero, Int.toNat_one, Nat.zero_mul]; rfl) | rfl)) (by (first | (simp only [List.nil_append, List.cons_append, List.append_nil]; done) | (simp only [List.nil_append, List.cons_append, List.append_nil]; rfl) | rfl)) (by first | omega | (change _ * 1 ≤ _; omega) | (change _ * 8 ≤ _; omega) | (change _ * 2 ≤ _; omega) | (change _ * 4 ≤ _; omega) | (change _ * 16 ≤ _; omega) | (change _ * 24 ≤ _; omega) | (change _ * 32 ≤ _; omega) | (change _ * 40 ≤ _; omega)) (by first | omega | decide) ?_; intro _ _ _; conv => whnf)
          | (refine mk_id ?_; first | (refine mk_lit (by rfl) (by rfl) (by decide) (by rfl) ?_; conv => whnf) | (refine mk_sym _ (by first | rfl | omega) (by first | rfl | omega) (by omega) (by omega) ?_; conv => whnf))
          | (refine sl_id ?_; fail)
          | (refine eff_id ?_; fail)
          | (refine val_id ?_; fail)
          | (refine x_rnd ?_)
          | (refine x_rnd' ?_)
          | (refine xdrw_id ?_; first | (refine x_drw tab_ok (id := 8) [] [] [0, 1, 2, 3, 4, 5, 6, 7, 8, 9, 10, 11, 12, 13, 14, 15, 16, 17] followsMixed (by kernel_rfl) (by rfl) (by rfl) ?_; conv => whnf)))
        exact fin_res tag (by (repeat (first | exact trivial | ((conv => whnf); refine And.intro (by rfl) ?_)))) rfl rfl (by (first | ((repeat (first | (with_reducible exact am_blk) | (with_reducible exact am_row) | (with_reducible exact am_blkV) | (with_reducible exact am_oth) | (with_reducible apply am_tail))); done) | ((repeat (first | exact am_row | exact am_blk | exact am_blkV | apply am_tail)); done)))
      | false =>
        refine retX_x tab_ok (mem0 := []) Try.func31 rfl Try.ntmps31 (by rfl) (.init w) ?_; simp only [argX, Nat.reduceAdd, Nat.zero_add]; conv => whnf
        repeat' (first
          | (fail)
          | (refine run_c tab_ok ?_; conv => whnf)
          | (refine side_id ?_; refine side_i (by first | rfl | exact ⟨rfl, rfl, rfl, rfl⟩ | trivial | (simp [allOne, partsOne, Value.cells, Value.oneCell']; done) | fail) ?_; conv => whnf)
          | (refine ar_id ?_; first
            | (refine ar_in (by (first | (simp only [Int.reduceAdd, Int.reduceSub, Int.reduceMul, Int.reduceNeg, Int.reduceMod, Int.reduceDiv, Int.reduceTMod, Int.reduceTDiv, Int.zero_add, Int.add_zero]; done) | (simp only [Int.reduceAdd, Int.reduceSub, Int.reduceMul, Int.reduceNeg, Int.reduceMod, Int.reduceDiv, Int.reduceTMod, Int.reduceTDiv, Int.zero_add, Int.add_zero]; rfl) | rfl)) (by (dsimp only [inR]; first | decide | omega)) ?_; conv => whnf)
            | (fail))
          | (refine new_i ?_; intro _; conv => whnf)
          | (refine br_id ?_; first
            | (refine br_t (by first | decide | omega | (with_reducible rfl) | fail | (simp only [cellEq, toB]; omega) | (simp only [cellEq, toB]; simp; done) | fail) ?_; conv => whnf)
            | (refine br_f (by first | decide | omega | (with_reducible exact Bool.false_ne_true) | (with_reducible refine not_not_intro ?_; fail) | (simp only [cellEq, toB]; omega) | (simp only [cellEq, toB]; simp; done) | fail) ?_; conv => whnf)
            | ((refine br_any (fun h => ?_) (fun h => ?_) <;> (try simp only [cellEq, toB, Bool.not_eq_true, Bool.not_eq_false] at h) <;> (try (exfalso; first | omega | contradiction | (simp at h; done) | fail); done) <;> conv => whnf)))
          | (refine ix_id ?_; first
            | (refine ix_lit (by first | decide | omega) (by (first | (simp only [Nat.zero_add, Nat.add_zero, Nat.mul_one, Nat.reduceAdd, Nat.reduceMul, Int.reduceToNat, Int.toNat_natCast, Int.toNat_zero, Int.toNat_one, Nat.zero_mul]; done) | (simp only [Nat.zero_add, Nat.add_zero, Nat.mul_one, Nat.reduceAdd, Nat.reduceMul, Int.reduceToNat, Int.toNat_natCast, Int.toNat_zero, Int.toNat_one, Nat.zero_mul]; rfl) | rfl)) (by rfl) ?_; conv => whnf)
            | (refine ix_sym (by omega) ?_; conv => whnf))
          | (refine lcall_id ?_; first | (refine lcall_ret (fun w' hloc => make_S w') ?_; conv => whnf) | (refine lcall_mk (fun w' hloc => two_X 28 (hdr true apid) w' (by simp only [hdr]; omega)) ?_; (rintro _ _ mm ⟨A1, c1, rfl, rfl, hf1⟩ hmm; simp only [List.cons_append, List.nil_append] at hmm; subst hmm; conv => whnf)) | (refine lcall_mk (fun w' hloc => two_X 28 (hdr false apid) w' (by simp only [hdr]; omega)) ?_; (rintro _ _ mm ⟨A1, c1, rfl, rfl, hf1⟩ hmm; simp only [List.cons_append, List.nil_append] at hmm; subst hmm; conv => whnf)) | (refine lcall_mk (fun w' hloc => two_X 32 (49152 + count) w' (by omega)) ?_; (rintro _ _ mm ⟨A2, c2, rfl, rfl, hf2⟩ hmm; simp only [List.cons_append, List.nil_append] at hmm; subst hmm; conv => whnf)) | (refine lcall_mk (fun w' hloc => two_X 39 ((zs.length : Int) + 2 - 1) w' (by omega)) ?_; (rintro _ _ mm ⟨A3, c3, rfl, rfl, hf3⟩ hmm; simp only [List.cons_append, List.nil_append] at hmm; subst hmm; conv => whnf)) | (refine lcall_mk (fun w' hloc => bjoin_X 43 _ _ _ 4 [(A1, c1, be2 (hdr true apid)), (A2, c2, be2 (49152 + count)), (A3, c3, be2 ((zs.length : Int) + 2 - 1)), (A, cp, zs)] w' (pktH true apid count zs) (bls_tag hloc (by rfl) (by rfl) (all_cons ⟨row_irow hloc (by (first | ((repeat (first | (with_reducible exact am_blk) | (with_reducible exact am_row) | (with_reducible exact am_blkV) | (with_reducible exact am_oth) | (with_reducible apply am_tail))); done) | ((repeat (first | exact am_row | exact am_blk | exact am_blkV | apply am_tail)); done))), hf1.2.1⟩ (all_cons ⟨row_irow hloc (by (first | ((repeat (first | (with_reducible exact am_blk) | (with_reducible exact am_row) | (with_reducible exact am_blkV) | (with_reducible exact am_oth) | (with_reducible apply am_tail))); done) | ((repeat (first | exact am_row | exact am_blk | exact am_blkV | apply am_tail)); done))), hf2.2.1⟩ (all_cons ⟨row_irow hloc (by (first | ((repeat (first | (with_reducible exact am_blk) | (with_reducible exact am_row) | (with_reducible exact am_blkV) | (with_reducible exact am_oth) | (with_reducible apply am_tail))); done) | ((repeat (first | exact am_row | exact am_blk | exact am_blkV | apply am_tail)); done))), hf3.2.1⟩ (all_cons ⟨irow_loc hr hloc, hn0⟩ all_nil))))) rfl (by simp [BLs.all, pktH]) hul (by omega) (by omega) (by decide) (by decide)) ?_; (rintro _ _ mm ⟨A4, c4, rfl, rfl, hf4⟩ hmm; simp only [List.cons_append, List.nil_append] at hmm; subst hmm; conv => whnf)) | (refine lcall_mk (fun w' hloc => bjoin_X 43 _ _ _ 4 [(A1, c1, be2 (hdr false apid)), (A2, c2, be2 (49152 + count)), (A3, c3, be2 ((zs.length : Int) + 2 - 1)), (A, cp, zs)] w' (pktH false apid count zs) (bls_tag hloc (by rfl) (by rfl) (all_cons ⟨row_irow hloc (by (first | ((repeat (first | (with_reducible exact am_blk) | (with_reducible exact am_row) | (with_reducible exact am_blkV) | (with_reducible exact am_oth) | (with_reducible apply am_tail))); done) | ((repeat (first | exact am_row | exact am_blk | exact am_blkV | apply am_tail)); done))), hf1.2.1⟩ (all_cons ⟨row_irow hloc (by (first | ((repeat (first | (with_reducible exact am_blk) | (with_reducible exact am_row) | (with_reducible exact am_blkV) | (with_reducible exact am_oth) | (with_reducible apply am_tail))); done) | ((repeat (first | exact am_row | exact am_blk | exact am_blkV | apply am_tail)); done))), hf2.2.1⟩ (all_cons ⟨row_irow hloc (by (first | ((repeat (first | (with_reducible exact am_blk) | (with_reducible exact am_row) | (with_reducible exact am_blkV) | (with_reducible exact am_oth) | (with_reducible apply am_tail))); done) | ((repeat (first | exact am_row | exact am_blk | exact am_blkV | apply am_tail)); done))), hf3.2.1⟩ (all_cons ⟨irow_loc hr hloc, hn0⟩ all_nil))))) rfl (by simp [BLs.all, pktH]) hul (by omega) (by omega) (by decide) (by decide)) ?_; (rintro _ _ mm ⟨A4, c4, rfl, rfl, hf4⟩ hmm; simp only [List.cons_append, List.nil_append] at hmm; subst hmm; conv => whnf)) | (refine lcall_mk (fun w' hloc => append_X 46 _ _ _ _ _ w' (ro_irow hloc (by (first | ((repeat (first | (with_reducible exact am_blk) | (with_reducible exact am_row) | (with_reducible exact am_blkV) | (with_reducible exact am_oth) | (with_reducible apply am_tail))); done) | ((repeat (first | exact am_row | exact am_blk | exact am_blkV | apply am_tail)); done)))) hf4.2.2 (by omega) hul) ?_; (rintro _ _ mm ⟨A5, c5, rfl, rfl, hf5⟩ hmm; simp only [List.cons_append, List.nil_append] at hmm; subst hmm; conv => whnf)))
          | (refine lload_id ?_; first
            | (fail)
            | (refine load_old _ (by with_reducible assumption) (by simp; done) ?_; conv => whnf))
          | (refine lixs_id ?_; fail)
          | (refine ex_id ?_; first
            | (first | (with_reducible refine ex_z (or_hi 11 (by decide) (by omega) (by decide) (by omega)) ?_; conv => whnf) | (with_reducible refine ex_z (or_hi 12 (by decide) (by omega) (by decide) (by omega)) ?_; conv => whnf) | (with_reducible refine ex_z (or_hi 14 (by decide) (by omega) (by decide) (by omega)) ?_; conv => whnf))
            | (refine ex_z (by (first | (simp only [Int.reduceAdd, Int.reduceSub, Int.reduceMul, Int.reduceNeg, Int.reduceMod, Int.reduceDiv, Int.reduceTMod, Int.reduceTDiv, Int.zero_add, Int.add_zero]; done) | (simp only [Int.reduceAdd, Int.reduceSub, Int.reduceMul, Int.reduceNeg, Int.reduceMod, Int.reduceDiv, Int.reduceTMod, Int.reduceTDiv, Int.zero_add, Int.add_zero]; rfl) | rfl)) ?_; conv => whnf))
          | (refine sh_id ?_; first
            | (fail)
            | (refine sh_z (by omega) (by (first | (simp only [Int.reduceAdd, Int.reduceSub, Int.reduceMul, Int.reduceNeg, Int.reduceMod, Int.reduceDiv, Int.reduceTMod, Int.reduceTDiv, Int.zero_add, Int.add_zero]; done) | (simp only [Int.reduceAdd, Int.reduceSub, Int.reduceMul, Int.reduceNeg, Int.reduceMod, Int.reduceDiv, Int.reduceTMod, Int.reduceTDiv, Int.zero_add, Int.add_zero]; rfl) | rfl)) ?_; conv => whnf))
          | (refine quo_id ?_; first
            | (refine quo_in (by omega) (by (first | (simp only [Int.reduceAdd, Int.reduceSub, Int.reduceMul, Int.reduceNeg, Int.reduceMod, Int.reduceDiv, Int.reduceTMod, Int.reduceTDiv, Int.zero_add, Int.add_zero]; done) | (simp only [Int.reduceAdd, Int.reduceSub, Int.reduceMul, Int.reduceNeg, Int.reduceMod, Int.reduceDiv, Int.reduceTMod, Int.reduceTDiv, Int.zero_add, Int.add_zero]; rfl) | rfl)) (by (dsimp only [inR]; first | decide | omega)) ?_; conv => whnf)
            | (refine quo_t (by omega) (by (dsimp only [inR]; first | decide | omega)) ?_; conv => whnf))
          | (refine rem_id ?_; first
            | (refine rem_in (by omega) (by (first | (simp only [Int.reduceAdd, Int.reduceSub, Int.reduceMul, Int.reduceNeg, Int.reduceMod, Int.reduceDiv, Int.reduceTMod, Int.reduceTDiv, Int.zero_add, Int.add_zero]; done) | (simp only [Int.reduceAdd, Int.reduceSub, Int.reduceMul, Int.reduceNeg, Int.reduceMod, Int.reduceDiv, Int.reduceTMod, Int.reduceTDiv, Int.zero_add, Int.add_zero]; rfl) | rfl)) ?_; conv => whnf)
            | (refine rem_t (by omega) ?_; conv => whnf))
          | (refine app_id ?_; refine app_i (by (first | (simp only [Nat.zero_add, Nat.add_zero, Nat.mul_one, Nat.reduceAdd, Nat.reduceMul, Int.reduceToNat, Int.toNat_natCast, Int.toNat_zero, Int.toNat_one, Nat.zero_mul]; done) | (simp only [Nat.zero_add, Nat.add_zero, Nat.mul_one, Nat.reduceAdd, Nat.reduceMul, Int.reduceToNat, Int.toNat_natCast, Int.toNat_zero, Int.toNat_one, Nat.zero_mul]; rfl) | rfl)) (by (first | (simp only [List.nil_append, List.cons_append, List.append_nil]; done) | (simp only [List.nil_append, List.cons_append, List.append_nil]; rfl) | rfl)) (by first | omega | (change _ * 1 ≤ _; omega) | (change _ * 8 ≤ _; omega) | (change _ * 2 ≤ _; omega) | (change _ * 4 ≤ _; omega) | (change _ * 16 ≤ _; omega) | (change _ * 24 ≤ _; omega) | (change _ * 32 ≤ _; omega) | (change _ * 40 ≤ _; omega)) (by first | omega | decide) ?_; intro _ _ _; conv => whnf)
          | (refine mk_id ?_; first | (refine mk_lit (by rfl) (by rfl) (by decide) (by rfl) ?_; conv => whnf) | (refine mk_sym _ (by first | rfl | omega) (by first | rfl | omega) (by omega) (by omega) ?_; conv => whnf))
          | (refine sl_id ?_; fail)
          | (refine eff_id ?_; fail)
          | (refine val_id ?_; fail)
          | (refine x_rnd ?_)
          | (refine x_rnd' ?_)
          | (refine xdrw_id ?_; first | (refine x_drw tab_ok (id := 8) [] [] [0, 1, 2, 3, 4, 5, 6, 7, 8, 9, 10, 11, 12, 13, 14, 15, 16, 17] followsMixed (by kernel_rfl) (by rfl) (by rfl) ?_; conv => whnf)))
        exact fin_res tag (by (repeat (first | exact trivial | ((conv => whnf); refine And.intro (by rfl) ?_)))) rfl rfl (by (first | ((repeat (first | (with_reducible exact am_blk) | (with_reducible exact am_row) | (with_reducible exact am_blkV) | (with_reducible exact am_oth) | (with_reducible apply am_tail))); done) | ((repeat (first | exact am_row | exact am_blk | exact am_blkV | apply am_tail)); done)))

/-- A packet that was read, and the error. -/
structure Pkt where
  (cmd : Bool)
  (apid count : Int)
  zs : List Int
  e : Int
def PRes (tag : Nat) (p : Pkt) (v : SV) (mi : Mem) : Prop :=
  ∃ A c, v = .tup [.agg [.boo p.cmd, u16 p.apid, u16 p.count, .sl tag A p.zs.length c], i64 p.e] ∧ mi = [.row tag 5 1 A p.zs.length c (p.zs.map (Value.int .u8))] ∧ (p.zs.length ≤ c ∧ c ≤ maxLen) ∧ (A = none → c = 0) ∧ (0 < p.zs.length → ∃ b, A = some ⟨b, 0, none⟩)
section
variable {mem : Mem}
theorem fin_pkt {w : World} {M : List Nat} {h n c : Nat} {A : Option Addr} {xs : List Value} {p : Pkt} {u : SV} (tag : Nat) (hu : u.den = (SV.tup [.agg [.boo p.cmd, u16 p.apid, u16 p.count, .sl h A n c], i64 p.e]).den) (hm : msub [.row h 5 1 A n c xs] mem) (hn : p.zs.length = n) (hx : xs = p.zs.map (Value.int .u8)) (hat : At (denM mem) (own 5 1 (.slice A n c) n xs)) :
    XRet w M (fun e' w' => ∃ v its, e' = .returned v ∧ (∃ sv mi, v = SV.den sv ∧ its = denM mi ∧ PRes tag p sv mi) ∧ Loc w M its w') mem u := by
  subst hx hn
  exact fin_retW (.tup [.agg [.boo p.cmd, u16 p.apid, u16 p.count, .sl tag A p.zs.length c], i64 p.e]) [.row h 5 1 A p.zs.length c (p.zs.map (Value.int .u8))] [.row tag 5 1 A p.zs.length c (p.zs.map (Value.int .u8))] (by rw [hu]; rfl) hm rfl (fun w' hl => ⟨A, c, rfl, rfl, row_facts hl hat⟩)
theorem fin_pktN {w : World} {M : List Nat} {u : SV} {e : Int} (tag : Nat) (hu : u.den = (SV.tup [.agg [.boo false, u16 0, u16 0, .sl 0 none 0 0], i64 e]).den) :
    XRet w M (fun e' w' => ∃ v its, e' = .returned v ∧ (∃ sv mi, v = SV.den sv ∧ its = denM mi ∧ PRes tag ⟨false, 0, 0, [], e⟩ sv mi) ∧ Loc w M its w') mem u :=
  ⟨fun w' hl => ⟨_, _, rfl, ⟨.tup [.agg [.boo false, u16 0, u16 0, .sl tag none 0 0], i64 e], [.row tag 5 1 none 0 0 []], hu, rfl, ⟨none, 0, rfl, rfl, ⟨Nat.le_refl _, Nat.zero_le _⟩, fun _ => rfl, fun h => absurd h (Nat.lt_irrefl _)⟩⟩,
    (hl.sub (List.nil_sublist _)).free (own 5 1 (.slice none 0 0) 0 []) rfl (ownNil 5 1 w')⟩⟩
end
def hd1 (zs : List Int) : Int := zs.getD 0 0 * 256 + zs.getD 1 0
def hd2 (zs : List Int) : Int := zs.getD 2 0 * 256 + zs.getD 3 0
/-- The head is none of a packet's. -/
def badH (zs : List Int) : Prop := hd1 zs - hd1 zs % 2048 - hd1 zs / 4096 % 2 * 4096 ≠ 2048 ∨ hd2 zs - hd2 zs % 16384 ≠ 49152
noncomputable def parseP (zs : List Int) : Pkt :=
  if zs.length < 9 ∨ sizeOfP zs ≠ zs.length then ⟨false, 0, 0, [], 2⟩
  else if ¬ rightB zs then ⟨false, 0, 0, [], 5⟩
  else if hd1 zs - hd1 zs % 2048 - hd1 zs / 4096 % 2 * 4096 ≠ 2048 ∨ hd2 zs - hd2 zs % 16384 ≠ 49152 then ⟨false, 0, 0, [], 2⟩
  else if 208 < zs.length then ⟨false, 0, 0, [], 4⟩
  else ⟨decide (hd1 zs / 4096 % 2 * 4096 ≠ 0), hd1 zs % 2048, hd2 zs % 16384, (zs.take (zs.length - 2)).drop 6, 0⟩
theorem right_T (h : Nat) (A : Option Addr) (n cp : Nat) (zs : List Int) (w : World) (hR : rightB zs) (hr : IRow .u8 w A n zs) (hle : n ≤ cp) (hn0 : A = none → cp = 0) (hn : n ≤ 1000000) (hu : AllU8 zs) :
    RetS Try.prog 67 [.agg tabS, .sl h A n cp] w (.lit true) := by
  have := right_S h A n cp zs w hr hle hn0 hn hu
  rw [decide_eq_true hR] at this
  exact ⟨this.go⟩
theorem right_F (h : Nat) (A : Option Addr) (n cp : Nat) (zs : List Int) (w : World) (hR : ¬ rightB zs) (hr : IRow .u8 w A n zs) (hle : n ≤ cp) (hn0 : A = none → cp = 0) (hn : n ≤ 1000000) (hu : AllU8 zs) :
    RetS Try.prog 67 [.agg tabS, .sl h A n cp] w (.lit false) := by
  have := right_S h A n cp zs w hr hle hn0 hn hu
  rw [decide_eq_false hR] at this
  exact ⟨this.go⟩
set_option maxHeartbeats 1000000 in
theorem parseP_X (tag : Nat) (h : Nat) (A : Option Addr) (n cp : Nat) (zs : List Int) (w : World) (hr : IRow .u8 w A n zs) (hn0 : A = none → cp = 0) (hle : n ≤ cp) (hn : n ≤ 1000000) (hu : AllU8 zs) :
    RetX Try.prog 37 [.sl h A n cp] w [] (PRes tag (parseP zs)) := by
  obtain rfl : zs.length = n := hr.1
  have u0 := hu.get 0
  have u1 := hu.get 1
  have u2 := hu.get 2
  have u3 := hu.get 3
  have ehd2 : ((zs.take zs.length).drop 2).getD 0 0 * 256 + ((zs.take zs.length).drop 2).getD 1 0 = hd2 zs := by simp [List.getD, hd2]
  have d1 : 0 ≤ hd1 zs ∧ hd1 zs < 65536 := by unfold hd1; omega
  have d2 : 0 ≤ hd2 zs ∧ hd2 zs < 65536 := by unfold hd2; omega
  unfold parseP
  by_cases h1 : zs.length < 9 ∨ sizeOfP zs ≠ zs.length
  · rw [if_pos h1]
    refine retX_x tab_ok (mem0 := []) Try.func37 rfl Try.ntmps37 (by rfl) (.init w) ?_; simp only [argX, Nat.reduceAdd, Nat.zero_add]; conv => whnf
    repeat' (first
      | (fail)
      | (refine run_c tab_ok ?_; conv => whnf)
      | (refine side_id ?_; refine side_i (by first | rfl | exact ⟨rfl, rfl, rfl, rfl⟩ | trivial | (simp [allOne, partsOne, Value.cells, Value.oneCell']; done) | fail) ?_; conv => whnf)
      | (refine ar_id ?_; first
        | (refine ar_in (by (first | (simp only [Int.reduceAdd, Int.reduceSub, Int.reduceMul, Int.reduceNeg, Int.reduceMod, Int.reduceDiv, Int.reduceTMod, Int.reduceTDiv, Int.zero_add, Int.add_zero]; done) | (simp only [Int.reduceAdd, Int.reduceSub, Int.reduceMul, Int.reduceNeg, Int.reduceMod, Int.reduceDiv, Int.reduceTMod, Int.reduceTDiv, Int.zero_add, Int.add_zero]; rfl) | rfl)) (by (dsimp only [inR]; first | decide | omega)) ?_; conv => whnf)
        | (fail))
      | (refine new_i ?_; intro _; conv => whnf)
      | (refine br_id ?_; first
        | (refine br_t (by first | decide | omega | (with_reducible rfl) | fail | (simp only [cellEq, toB]; omega) | (simp only [cellEq, toB]; simp; done) | fail) ?_; conv => whnf)
        | (refine br_f (by first | decide | omega | (with_reducible exact Bool.false_ne_true) | (with_reducible refine not_not_intro ?_; fail) | (simp only [cellEq, toB]; omega) | (simp only [cellEq, toB]; simp; done) | fail) ?_; conv => whnf)
        | ((refine br_any (fun h => ?_) (fun h => ?_) <;> (try simp only [cellEq, toB, Bool.not_eq_true, Bool.not_eq_false] at h) <;> (try (exfalso; first | omega | contradiction | (simp at h; done) | fail); done) <;> conv => whnf)))
      | (refine ix_id ?_; first
        | (refine ix_lit (by first | decide | omega) (by (first | (simp only [Nat.zero_add, Nat.add_zero, Nat.mul_one, Nat.reduceAdd, Nat.reduceMul, Int.reduceToNat, Int.toNat_natCast, Int.toNat_zero, Int.toNat_one, Nat.zero_mul]; done) | (simp only [Nat.zero_add, Nat.add_zero, Nat.mul_one, Nat.reduceAdd, Nat.reduceMul, Int.reduceToNat, Int.toNat_natCast, Int.toNat_zero, Int.toNat_one, Nat.zero_mul]; rfl) | rfl)) (by rfl) ?_; conv => whnf)
        | (refine ix_sym (by omega) ?_; conv => whnf))
      | (refine lcall_id ?_; first | (refine lcall_ret (fun w' hloc => make_S w') ?_; conv => whnf) | (refine lcall_ret (fun w' hloc => size_S _ _ _ _ _ w' (irow_loc hr hloc) hle (by omega) hu) ?_; conv => whnf) | (refine lcall_ret (fun w' hloc => right_T _ _ _ _ _ w' h2 (irow_loc hr hloc) hle hn0 (by omega) hu) ?_; conv => whnf) | (refine lcall_ret (fun w' hloc => right_F _ _ _ _ _ w' h2 (irow_loc hr hloc) hle hn0 (by omega) hu) ?_; conv => whnf) | (refine lcall_ret (v := u16 (hd1 zs)) (fun w' hloc => pair_S _ _ _ _ zs w' (irow_loc hr hloc) (by omega) hu) ?_; conv => whnf) | (refine lcall_ret (v := u16 (hd2 zs)) (fun w' hloc => by rw [← ehd2]; exact pair_S _ _ _ _ _ w' (hA2 _ _ _ _ (Nat.le_refl _) (irow_loc hr hloc)) (by omega) ((hu.take _).drop _)) ?_; conv => whnf) | (refine lcall_mk (fun w' hloc => clone_X 700 _ _ _ _ _ w' (hA2 _ _ _ _ (by omega) (irow_loc hr hloc)) (hA3 hn0) (by omega)) ?_; (rintro _ _ mm ⟨A', c', rfl, rfl, hf⟩ hmm; simp only [List.cons_append, List.nil_append] at hmm; subst hmm; conv => whnf)))
      | (refine lload_id ?_; first
        | (fail)
        | (refine load_old _ (by with_reducible assumption) (by simp; done) ?_; conv => whnf))
      | (refine lixs_id ?_; fail)
      | (refine ex_id ?_; first
        | (first | (with_reducible refine ex_z (head_bits (by omega)).1 ?_; conv => whnf) | (with_reducible refine ex_z (head_bits (by omega)).2.1 ?_; conv => whnf) | (with_reducible refine ex_z (head_bits (by omega)).2.2.1 ?_; conv => whnf) | (with_reducible refine ex_z (head_bits (by omega)).2.2.2.1 ?_; conv => whnf) | (with_reducible refine ex_z (head_bits (by omega)).2.2.2.2 ?_; conv => whnf))
        | (refine ex_z (by (first | (simp only [Int.reduceAdd, Int.reduceSub, Int.reduceMul, Int.reduceNeg, Int.reduceMod, Int.reduceDiv, Int.reduceTMod, Int.reduceTDiv, Int.zero_add, Int.add_zero]; done) | (simp only [Int.reduceAdd, Int.reduceSub, Int.reduceMul, Int.reduceNeg, Int.reduceMod, Int.reduceDiv, Int.reduceTMod, Int.reduceTDiv, Int.zero_add, Int.add_zero]; rfl) | rfl)) ?_; conv => whnf))
      | (refine sh_id ?_; first
        | (fail)
        | (refine sh_z (by omega) (by (first | (simp only [Int.reduceAdd, Int.reduceSub, Int.reduceMul, Int.reduceNeg, Int.reduceMod, Int.reduceDiv, Int.reduceTMod, Int.reduceTDiv, Int.zero_add, Int.add_zero]; done) | (simp only [Int.reduceAdd, Int.reduceSub, Int.reduceMul, Int.reduceNeg, Int.reduceMod, Int.reduceDiv, Int.reduceTMod, Int.reduceTDiv, Int.zero_add, Int.add_zero]; rfl) | rfl)) ?_; conv => whnf))
      | (refine quo_id ?_; first
        | (refine quo_in (by omega) (by (first | (simp only [Int.reduceAdd, Int.reduceSub, Int.reduceMul, Int.reduceNeg, Int.reduceMod, Int.reduceDiv, Int.reduceTMod, Int.reduceTDiv, Int.zero_add, Int.add_zero]; done) | (simp only [Int.reduceAdd, Int.reduceSub, Int.reduceMul, Int.reduceNeg, Int.reduceMod, Int.reduceDiv, Int.reduceTMod, Int.reduceTDiv, Int.zero_add, Int.add_zero]; rfl) | rfl)) (by (dsimp only [inR]; first | decide | omega)) ?_; conv => whnf)
        | (refine quo_t (by omega) (by (dsimp only [inR]; first | decide | omega)) ?_; conv => whnf))
      | (refine rem_id ?_; first
        | (refine rem_in (by omega) (by (first | (simp only [Int.reduceAdd, Int.reduceSub, Int.reduceMul, Int.reduceNeg, Int.reduceMod, Int.reduceDiv, Int.reduceTMod, Int.reduceTDiv, Int.zero_add, Int.add_zero]; done) | (simp only [Int.reduceAdd, Int.reduceSub, Int.reduceMul, Int.reduceNeg, Int.reduceMod, Int.reduceDiv, Int.reduceTMod, Int.reduceTDiv, Int.zero_add, Int.add_zero]; rfl) | rfl)) ?_; conv => whnf)
        | (refine rem_t (by omega) ?_; conv => whnf))
      | (refine app_id ?_; refine app_i (by (first | (simp only [Nat.zero_add, Nat.add_zero, Nat.mul_one, Nat.reduceAdd, Nat.reduceMul, Int.reduceToNat, Int.toNat_natCast, Int.toNat_zero, Int.toNat_one, Nat.zero_mul]; done) | (simp only [Nat.zero_add, Nat.add_zero, Nat.mul_one, Nat.reduceAdd, Nat.reduceMul, Int.reduceToNat, Int.toNat_natCast, Int.toNat_zero, Int.toNat_one, Nat.zero_mul]; rfl) | rfl)) (by (first | (simp only [List.nil_append, List.cons_append, List.append_nil]; done) | (simp only [List.nil_append, List.cons_append, List.append_nil]; rfl) | rfl)) (by first | omega | (change _ * 1 ≤ _; omega) | (change _ * 8 ≤ _; omega) | (change _ * 2 ≤ _; omega) | (change _ * 4 ≤ _; omega) | (change _ * 16 ≤ _; omega) | (change _ * 24 ≤ _; omega) | (change _ * 32 ≤ _; omega) | (change _ * 40 ≤ _; omega)) (by first | omega | decide) ?_; intro _ _ _; conv => whnf)
      | (refine mk_id ?_; first | (refine mk_lit (by rfl) (by rfl) (by decide) (by rfl) ?_; conv => whnf) | (refine mk_sym _ (by first | rfl | omega) (by first | rfl | omega) (by omega) (by omega) ?_; conv => whnf))
      | (refine sl_id ?_; first | (refine sl_any (lo' := 2) (hi' := zs.length) 701 (by omega) (by rfl) (by omega) ?_; intro A2 hA2 hA3; conv => whnf) | (refine sl_any (lo' := 6) (hi' := zs.length - 2) 702 (by omega) (by rfl) (by omega) ?_; intro A2 hA2 hA3; conv => whnf))
      | (refine eff_id ?_; fail)
      | (refine val_id ?_; fail)
      | (refine x_rnd ?_)
      | (refine x_rnd' ?_)
      | (refine xdrw_id ?_; first | (refine x_drw tab_ok (id := 5) [] [] [0, 1, 2, 3, 4, 5, 6] followsMixed (by kernel_rfl) (by rfl) (by rfl) ?_; conv => whnf)))
    all_goals exact fin_pktN tag rfl
  · rw [if_neg h1]
    by_cases h2 : rightB zs
    · rw [if_neg (not_not_intro h2)]
      by_cases h3 : hd1 zs - hd1 zs % 2048 - hd1 zs / 4096 % 2 * 4096 ≠ 2048 ∨ hd2 zs - hd2 zs % 16384 ≠ 49152
      · rw [if_pos h3]
        refine retX_x tab_ok (mem0 := []) Try.func37 rfl Try.ntmps37 (by rfl) (.init w) ?_; simp only [argX, Nat.reduceAdd, Nat.zero_add]; conv => whnf
        repeat' (first
          | (fail)
          | (refine run_c tab_ok ?_; conv => whnf)
          | (refine side_id ?_; refine side_i (by first | rfl | exact ⟨rfl, rfl, rfl, rfl⟩ | trivial | (simp [allOne, partsOne, Value.cells, Value.oneCell']; done) | fail) ?_; conv => whnf)
          | (refine ar_id ?_; first
            | (refine ar_in (by (first | (simp only [Int.reduceAdd, Int.reduceSub, Int.reduceMul, Int.reduceNeg, Int.reduceMod, Int.reduceDiv, Int.reduceTMod, Int.reduceTDiv, Int.zero_add, Int.add_zero]; done) | (simp only [Int.reduceAdd, Int.reduceSub, Int.reduceMul, Int.reduceNeg, Int.reduceMod, Int.reduceDiv, Int.reduceTMod, Int.reduceTDiv, Int.zero_add, Int.add_zero]; rfl) | rfl)) (by (dsimp only [inR]; first | decide | omega)) ?_; conv => whnf)
            | (fail))
          | (refine new_i ?_; intro _; conv => whnf)
          | (refine br_id ?_; first
            | (refine br_t (by first | decide | omega | (with_reducible rfl) | fail | (simp only [cellEq, toB]; omega) | (simp only [cellEq, toB]; simp; done) | fail) ?_; conv => whnf)
            | (refine br_f (by first | decide | omega | (with_reducible exact Bool.false_ne_true) | (with_reducible refine not_not_intro ?_; fail) | (simp only [cellEq, toB]; omega) | (simp only [cellEq, toB]; simp; done) | fail) ?_; conv => whnf)
            | ((refine br_any (fun h => ?_) (fun h => ?_) <;> (try simp only [cellEq, toB, Bool.not_eq_true, Bool.not_eq_false] at h) <;> (try (exfalso; first | omega | contradiction | (simp at h; done) | fail); done) <;> conv => whnf)))
          | (refine ix_id ?_; first
            | (refine ix_lit (by first | decide | omega) (by (first | (simp only [Nat.zero_add, Nat.add_zero, Nat.mul_one, Nat.reduceAdd, Nat.reduceMul, Int.reduceToNat, Int.toNat_natCast, Int.toNat_zero, Int.toNat_one, Nat.zero_mul]; done) | (simp only [Nat.zero_add, Nat.add_zero, Nat.mul_one, Nat.reduceAdd, Nat.reduceMul, Int.reduceToNat, Int.toNat_natCast, Int.toNat_zero, Int.toNat_one, Nat.zero_mul]; rfl) | rfl)) (by rfl) ?_; conv => whnf)
            | (refine ix_sym (by omega) ?_; conv => whnf))
          | (refine lcall_id ?_; first | (refine lcall_ret (fun w' hloc => make_S w') ?_; conv => whnf) | (refine lcall_ret (fun w' hloc => size_S _ _ _ _ _ w' (irow_loc hr hloc) hle (by omega) hu) ?_; conv => whnf) | (refine lcall_ret (fun w' hloc => right_T _ _ _ _ _ w' h2 (irow_loc hr hloc) hle hn0 (by omega) hu) ?_; conv => whnf) | (refine lcall_ret (fun w' hloc => right_F _ _ _ _ _ w' h2 (irow_loc hr hloc) hle hn0 (by omega) hu) ?_; conv => whnf) | (refine lcall_ret (v := u16 (hd1 zs)) (fun w' hloc => pair_S _ _ _ _ zs w' (irow_loc hr hloc) (by omega) hu) ?_; conv => whnf) | (refine lcall_ret (v := u16 (hd2 zs)) (fun w' hloc => by rw [← ehd2]; exact pair_S _ _ _ _ _ w' (hA2 _ _ _ _ (Nat.le_refl _) (irow_loc hr hloc)) (by omega) ((hu.take _).drop _)) ?_; conv => whnf) | (refine lcall_mk (fun w' hloc => clone_X 700 _ _ _ _ _ w' (hA2 _ _ _ _ (by omega) (irow_loc hr hloc)) (hA3 hn0) (by omega)) ?_; (rintro _ _ mm ⟨A', c', rfl, rfl, hf⟩ hmm; simp only [List.cons_append, List.nil_append] at hmm; subst hmm; conv => whnf)))
          | (refine lload_id ?_; first
            | (fail)
            | (refine load_old _ (by with_reducible assumption) (by simp; done) ?_; conv => whnf))
          | (refine lixs_id ?_; fail)
          | (refine ex_id ?_; first
            | (first | (with_reducible refine ex_z (head_bits (by omega)).1 ?_; conv => whnf) | (with_reducible refine ex_z (head_bits (by omega)).2.1 ?_; conv => whnf) | (with_reducible refine ex_z (head_bits (by omega)).2.2.1 ?_; conv => whnf) | (with_reducible refine ex_z (head_bits (by omega)).2.2.2.1 ?_; conv => whnf) | (with_reducible refine ex_z (head_bits (by omega)).2.2.2.2 ?_; conv => whnf))
            | (refine ex_z (by (first | (simp only [Int.reduceAdd, Int.reduceSub, Int.reduceMul, Int.reduceNeg, Int.reduceMod, Int.reduceDiv, Int.reduceTMod, Int.reduceTDiv, Int.zero_add, Int.add_zero]; done) | (simp only [Int.reduceAdd, Int.reduceSub, Int.reduceMul, Int.reduceNeg, Int.reduceMod, Int.reduceDiv, Int.reduceTMod, Int.reduceTDiv, Int.zero_add, Int.add_zero]; rfl) | rfl)) ?_; conv => whnf))
          | (refine sh_id ?_; first
            | (fail)
            | (refine sh_z (by omega) (by (first | (simp only [Int.reduceAdd, Int.reduceSub, Int.reduceMul, Int.reduceNeg, Int.reduceMod, Int.reduceDiv, Int.reduceTMod, Int.reduceTDiv, Int.zero_add, Int.add_zero]; done) | (simp only [Int.reduceAdd, Int.reduceSub, Int.reduceMul, Int.reduceNeg, Int.reduceMod, Int.reduceDiv, Int.reduceTMod, Int.reduceTDiv, Int.zero_add, Int.add_zero]; rfl) | rfl)) ?_; conv => whnf))
          | (refine quo_id ?_; first
            | (refine quo_in (by omega) (by (first | (simp only [Int.reduceAdd, Int.reduceSub, Int.reduceMul, Int.reduceNeg, Int.reduceMod, Int.reduceDiv, Int.reduceTMod, Int.reduceTDiv, Int.zero_add, Int.add_zero]; done) | (simp only [Int.reduceAdd, Int.reduceSub, Int.reduceMul, Int.reduceNeg, Int.reduceMod, Int.reduceDiv, Int.reduceTMod, Int.reduceTDiv, Int.zero_add, Int.add_zero]; rfl) | rfl)) (by (dsimp only [inR]; first | decide | omega)) ?_; conv => whnf)
            | (refine quo_t (by omega) (by (dsimp only [inR]; first | decide | omega)) ?_; conv => whnf))
          | (refine rem_id ?_; first
            | (refine rem_in (by omega) (by (first | (simp only [Int.reduceAdd, Int.reduceSub, Int.reduceMul, Int.reduceNeg, Int.reduceMod, Int.reduceDiv, Int.reduceTMod, Int.reduceTDiv, Int.zero_add, Int.add_zero]; done) | (simp only [Int.reduceAdd, Int.reduceSub, Int.reduceMul, Int.reduceNeg, Int.reduceMod, Int.reduceDiv, Int.reduceTMod, Int.reduceTDiv, Int.zero_add, Int.add_zero]; rfl) | rfl)) ?_; conv => whnf)
            | (refine rem_t (by omega) ?_; conv => whnf))
          | (refine app_id ?_; refine app_i (by (first | (simp only [Nat.zero_add, Nat.add_zero, Nat.mul_one, Nat.reduceAdd, Nat.reduceMul, Int.reduceToNat, Int.toNat_natCast, Int.toNat_zero, Int.toNat_one, Nat.zero_mul]; done) | (simp only [Nat.zero_add, Nat.add_zero, Nat.mul_one, Nat.reduceAdd, Nat.reduceMul, Int.reduceToNat, Int.toNat_natCast, Int.toNat_zero, Int.toNat_one, Nat.zero_mul]; rfl) | rfl)) (by (first | (simp only [List.nil_append, List.cons_append, List.append_nil]; done) | (simp only [List.nil_append, List.cons_append, List.append_nil]; rfl) | rfl)) (by first | omega | (change _ * 1 ≤ _; omega) | (change _ * 8 ≤ _; omega) | (change _ * 2 ≤ _; omega) | (change _ * 4 ≤ _; omega) | (change _ * 16 ≤ _; omega) | (change _ * 24 ≤ _; omega) | (change _ * 32 ≤ _; omega) | (change _ * 40 ≤ _; omega)) (by first | omega | decide) ?_; intro _ _ _; conv => whnf)
          | (refine mk_id ?_; first | (refine mk_lit (by rfl) (by rfl) (by decide) (by rfl) ?_; conv => whnf) | (refine mk_sym _ (by first | rfl | omega) (by first | rfl | omega) (by omega) (by omega) ?_; conv => whnf))
          | (refine sl_id ?_; first | (refine sl_any (lo' := 2) (hi' := zs.length) 701 (by omega) (by rfl) (by omega) ?_; intro A2 hA2 hA3; conv => whnf) | (refine sl_any (lo' := 6) (hi' := zs.length - 2) 702 (by omega) (by rfl) (by omega) ?_; intro A2 hA2 hA3; conv => whnf))
          | (refine eff_id ?_; fail)
          | (refine val_id ?_; fail)
          | (refine x_rnd ?_)
          | (refine x_rnd' ?_)
          | (refine xdrw_id ?_; first | (refine x_drw tab_ok (id := 5) [] [] [0, 1, 2, 3, 4, 5, 6] followsMixed (by kernel_rfl) (by rfl) (by rfl) ?_; conv => whnf)))
        all_goals exact fin_pktN tag rfl
      · rw [if_neg h3]
        by_cases h4 : 208 < zs.length
        · rw [if_pos h4]
          refine retX_x tab_ok (mem0 := []) Try.func37 rfl Try.ntmps37 (by rfl) (.init w) ?_; simp only [argX, Nat.reduceAdd, Nat.zero_add]; conv => whnf
          repeat' (first
            | (fail)
            | (refine run_c tab_ok ?_; conv => whnf)
            | (refine side_id ?_; refine side_i (by first | rfl | exact ⟨rfl, rfl, rfl, rfl⟩ | trivial | (simp [allOne, partsOne, Value.cells, Value.oneCell']; done) | fail) ?_; conv => whnf)
            | (refine ar_id ?_; first
              | (refine ar_in (by (first | (simp only [Int.reduceAdd, Int.reduceSub, Int.reduceMul, Int.reduceNeg, Int.reduceMod, Int.reduceDiv, Int.reduceTMod, Int.reduceTDiv, Int.zero_add, Int.add_zero]; done) | (simp only [Int.reduceAdd, Int.reduceSub, Int.reduceMul, Int.reduceNeg, Int.reduceMod, Int.reduceDiv, Int.reduceTMod, Int.reduceTDiv, Int.zero_add, Int.add_zero]; rfl) | rfl)) (by (dsimp only [inR]; first | decide | omega)) ?_; conv => whnf)
              | (fail))
            | (refine new_i ?_; intro _; conv => whnf)
            | (refine br_id ?_; first
              | (refine br_t (by first | decide | omega | (with_reducible rfl) | fail | (simp only [cellEq, toB]; omega) | (simp only [cellEq, toB]; simp; done) | fail) ?_; conv => whnf)
              | (refine br_f (by first | decide | omega | (with_reducible exact Bool.false_ne_true) | (with_reducible refine not_not_intro ?_; fail) | (simp only [cellEq, toB]; omega) | (simp only [cellEq, toB]; simp; done) | fail) ?_; conv => whnf)
              | ((refine br_any (fun h => ?_) (fun h => ?_) <;> (try simp only [cellEq, toB, Bool.not_eq_true, Bool.not_eq_false] at h) <;> (try (exfalso; first | omega | contradiction | (simp at h; done) | fail); done) <;> conv => whnf)))
            | (refine ix_id ?_; first
              | (refine ix_lit (by first | decide | omega) (by (first | (simp only [Nat.zero_add, Nat.add_zero, Nat.mul_one, Nat.reduceAdd, Nat.reduceMul, Int.reduceToNat, Int.toNat_natCast, Int.toNat_zero, Int.toNat_one, Nat.zero_mul]; done) | (simp only [Nat.zero_add, Nat.add_zero, Nat.mul_one, Nat.reduceAdd, Nat.reduceMul, Int.reduceToNat, Int.toNat_natCast, Int.toNat_zero, Int.toNat_one, Nat.zero_mul]; rfl) | rfl)) (by rfl) ?_; conv => whnf)
              | (refine ix_sym (by omega) ?_; conv => whnf))
            | (refine lcall_id ?_; first | (refine lcall_ret (fun w' hloc => make_S w') ?_; conv => whnf) | (refine lcall_ret (fun w' hloc => size_S _ _ _ _ _ w' (irow_loc hr hloc) hle (by omega) hu) ?_; conv => whnf) | (refine lcall_ret (fun w' hloc => right_T _ _ _ _ _ w' h2 (irow_loc hr hloc) hle hn0 (by omega) hu) ?_; conv => whnf) | (refine lcall_ret (fun w' hloc => right_F _ _ _ _ _ w' h2 (irow_loc hr hloc) hle hn0 (by omega) hu) ?_; conv => whnf) | (refine lcall_ret (v := u16 (hd1 zs)) (fun w' hloc => pair_S _ _ _ _ zs w' (irow_loc hr hloc) (by omega) hu) ?_; conv => whnf) | (refine lcall_ret (v := u16 (hd2 zs)) (fun w' hloc => by rw [← ehd2]; exact pair_S _ _ _ _ _ w' (hA2 _ _ _ _ (Nat.le_refl _) (irow_loc hr hloc)) (by omega) ((hu.take _).drop _)) ?_; conv => whnf) | (refine lcall_mk (fun w' hloc => clone_X 700 _ _ _ _ _ w' (hA2 _ _ _ _ (by omega) (irow_loc hr hloc)) (hA3 hn0) (by omega)) ?_; (rintro _ _ mm ⟨A', c', rfl, rfl, hf⟩ hmm; simp only [List.cons_append, List.nil_append] at hmm; subst hmm; conv => whnf)))
            | (refine lload_id ?_; first
              | (fail)
              | (refine load_old _ (by with_reducible assumption) (by simp; done) ?_; conv => whnf))
            | (refine lixs_id ?_; fail)
            | (refine ex_id ?_; first
              | (first | (with_reducible refine ex_z (head_bits (by omega)).1 ?_; conv => whnf) | (with_reducible refine ex_z (head_bits (by omega)).2.1 ?_; conv => whnf) | (with_reducible refine ex_z (head_bits (by omega)).2.2.1 ?_; conv => whnf) | (with_reducible refine ex_z (head_bits (by omega)).2.2.2.1 ?_; conv => whnf) | (with_reducible refine ex_z (head_bits (by omega)).2.2.2.2 ?_; conv => whnf))
              | (refine ex_z (by (first | (simp only [Int.reduceAdd, Int.reduceSub, Int.reduceMul, Int.reduceNeg, Int.reduceMod, Int.reduceDiv, Int.reduceTMod, Int.reduceTDiv, Int.zero_add, Int.add_zero]; done) | (simp only [Int.reduceAdd, Int.reduceSub, Int.reduceMul, Int.reduceNeg, Int.reduceMod, Int.reduceDiv, Int.reduceTMod, Int.reduceTDiv, Int.zero_add, Int.add_zero]; rfl) | rfl)) ?_; conv => whnf))
            | (refine sh_id ?_; first
              | (fail)
              | (refine sh_z (by omega) (by (first | (simp only [Int.reduceAdd, Int.reduceSub, Int.reduceMul, Int.reduceNeg, Int.reduceMod, Int.reduceDiv, Int.reduceTMod, Int.reduceTDiv, Int.zero_add, Int.add_zero]; done) | (simp only [Int.reduceAdd, Int.reduceSub, Int.reduceMul, Int.reduceNeg, Int.reduceMod, Int.reduceDiv, Int.reduceTMod, Int.reduceTDiv, Int.zero_add, Int.add_zero]; rfl) | rfl)) ?_; conv => whnf))
            | (refine quo_id ?_; first
              | (refine quo_in (by omega) (by (first | (simp only [Int.reduceAdd, Int.reduceSub, Int.reduceMul, Int.reduceNeg, Int.reduceMod, Int.reduceDiv, Int.reduceTMod, Int.reduceTDiv, Int.zero_add, Int.add_zero]; done) | (simp only [Int.reduceAdd, Int.reduceSub, Int.reduceMul, Int.reduceNeg, Int.reduceMod, Int.reduceDiv, Int.reduceTMod, Int.reduceTDiv, Int.zero_add, Int.add_zero]; rfl) | rfl)) (by (dsimp only [inR]; first | decide | omega)) ?_; conv => whnf)
              | (refine quo_t (by omega) (by (dsimp only [inR]; first | decide | omega)) ?_; conv => whnf))
            | (refine rem_id ?_; first
              | (refine rem_in (by omega) (by (first | (simp only [Int.reduceAdd, Int.reduceSub, Int.reduceMul, Int.reduceNeg, Int.reduceMod, Int.reduceDiv, Int.reduceTMod, Int.reduceTDiv, Int.zero_add, Int.add_zero]; done) | (simp only [Int.reduceAdd, Int.reduceSub, Int.reduceMul, Int.reduceNeg, Int.reduceMod, Int.reduceDiv, Int.reduceTMod, Int.reduceTDiv, Int.zero_add, Int.add_zero]; rfl) | rfl)) ?_; conv => whnf)
              | (refine rem_t (by omega) ?_; conv => whnf))
            | (refine app_id ?_; refine app_i (by (first | (simp only [Nat.zero_add, Nat.add_zero, Nat.mul_one, Nat.reduceAdd, Nat.reduceMul, Int.reduceToNat, Int.toNat_natCast, Int.toNat_zero, Int.toNat_one, Nat.zero_mul]; done) | (simp only [Nat.zero_add, Nat.add_zero, Nat.mul_one, Nat.reduceAdd, Nat.reduceMul, Int.reduceToNat, Int.toNat_natCast, Int.toNat_zero, Int.toNat_one, Nat.zero_mul]; rfl) | rfl)) (by (first | (simp only [List.nil_append, List.cons_append, List.append_nil]; done) | (simp only [List.nil_append, List.cons_append, List.append_nil]; rfl) | rfl)) (by first | omega | (change _ * 1 ≤ _; omega) | (change _ * 8 ≤ _; omega) | (change _ * 2 ≤ _; omega) | (change _ * 4 ≤ _; omega) | (change _ * 16 ≤ _; omega) | (change _ * 24 ≤ _; omega) | (change _ * 32 ≤ _; omega) | (change _ * 40 ≤ _; omega)) (by first | omega | decide) ?_; intro _ _ _; conv => whnf)
            | (refine mk_id ?_; first | (refine mk_lit (by rfl) (by rfl) (by decide) (by rfl) ?_; conv => whnf) | (refine mk_sym _ (by first | rfl | omega) (by first | rfl | omega) (by omega) (by omega) ?_; conv => whnf))
            | (refine sl_id ?_; first | (refine sl_any (lo' := 2) (hi' := zs.length) 701 (by omega) (by rfl) (by omega) ?_; intro A2 hA2 hA3; conv => whnf) | (refine sl_any (lo' := 6) (hi' := zs.length - 2) 702 (by omega) (by rfl) (by omega) ?_; intro A2 hA2 hA3; conv => whnf))
            | (refine eff_id ?_; fail)
            | (refine val_id ?_; fail)
            | (refine x_rnd ?_)
            | (refine x_rnd' ?_)
            | (refine xdrw_id ?_; first | (refine x_drw tab_ok (id := 5) [] [] [0, 1, 2, 3, 4, 5, 6] followsMixed (by kernel_rfl) (by rfl) (by rfl) ?_; conv => whnf)))
          all_goals exact fin_pktN tag rfl
        · rw [if_neg h4]
          refine retX_x tab_ok (mem0 := []) Try.func37 rfl Try.ntmps37 (by rfl) (.init w) ?_; simp only [argX, Nat.reduceAdd, Nat.zero_add]; conv => whnf
          repeat' (first
            | (fail)
            | (refine run_c tab_ok ?_; conv => whnf)
            | (refine side_id ?_; refine side_i (by first | rfl | exact ⟨rfl, rfl, rfl, rfl⟩ | trivial | (simp [allOne, partsOne, Value.cells, Value.oneCell']; done) | fail) ?_; conv => whnf)
            | (refine ar_id ?_; first
              | (refine ar_in (by (first | (simp only [Int.reduceAdd, Int.reduceSub, Int.reduceMul, Int.reduceNeg, Int.reduceMod, Int.reduceDiv, Int.reduceTMod, Int.reduceTDiv, Int.zero_add, Int.add_zero]; done) | (simp only [Int.reduceAdd, Int.reduceSub, Int.reduceMul, Int.reduceNeg, Int.reduceMod, Int.reduceDiv, Int.reduceTMod, Int.reduceTDiv, Int.zero_add, Int.add_zero]; rfl) | rfl)) (by (dsimp only [inR]; first | decide | omega)) ?_; conv => whnf)
              | (fail))
            | (refine new_i ?_; intro _; conv => whnf)
            | (refine br_id ?_; first
              | (refine br_t (by first | decide | omega | (with_reducible rfl) | fail | (simp only [cellEq, toB]; omega) | (simp only [cellEq, toB]; simp; done) | fail) ?_; conv => whnf)
              | (refine br_f (by first | decide | omega | (with_reducible exact Bool.false_ne_true) | (with_reducible refine not_not_intro ?_; fail) | (simp only [cellEq, toB]; omega) | (simp only [cellEq, toB]; simp; done) | fail) ?_; conv => whnf)
              | ((refine br_any (fun h => ?_) (fun h => ?_) <;> (try simp only [cellEq, toB, Bool.not_eq_true, Bool.not_eq_false] at h) <;> (try (exfalso; first | omega | contradiction | (simp at h; done) | fail); done) <;> conv => whnf)))
            | (refine ix_id ?_; first
              | (refine ix_lit (by first | decide | omega) (by (first | (simp only [Nat.zero_add, Nat.add_zero, Nat.mul_one, Nat.reduceAdd, Nat.reduceMul, Int.reduceToNat, Int.toNat_natCast, Int.toNat_zero, Int.toNat_one, Nat.zero_mul]; done) | (simp only [Nat.zero_add, Nat.add_zero, Nat.mul_one, Nat.reduceAdd, Nat.reduceMul, Int.reduceToNat, Int.toNat_natCast, Int.toNat_zero, Int.toNat_one, Nat.zero_mul]; rfl) | rfl)) (by rfl) ?_; conv => whnf)
              | (refine ix_sym (by omega) ?_; conv => whnf))
            | (refine lcall_id ?_; first | (refine lcall_ret (fun w' hloc => make_S w') ?_; conv => whnf) | (refine lcall_ret (fun w' hloc => size_S _ _ _ _ _ w' (irow_loc hr hloc) hle (by omega) hu) ?_; conv => whnf) | (refine lcall_ret (fun w' hloc => right_T _ _ _ _ _ w' h2 (irow_loc hr hloc) hle hn0 (by omega) hu) ?_; conv => whnf) | (refine lcall_ret (fun w' hloc => right_F _ _ _ _ _ w' h2 (irow_loc hr hloc) hle hn0 (by omega) hu) ?_; conv => whnf) | (refine lcall_ret (v := u16 (hd1 zs)) (fun w' hloc => pair_S _ _ _ _ zs w' (irow_loc hr hloc) (by omega) hu) ?_; conv => whnf) | (refine lcall_ret (v := u16 (hd2 zs)) (fun w' hloc => by rw [← ehd2]; exact pair_S _ _ _ _ _ w' (hA2 _ _ _ _ (Nat.le_refl _) (irow_loc hr hloc)) (by omega) ((hu.take _).drop _)) ?_; conv => whnf) | (refine lcall_mk (fun w' hloc => clone_X 700 _ _ _ _ _ w' (hA2 _ _ _ _ (by omega) (irow_loc hr hloc)) (hA3 hn0) (by omega)) ?_; (rintro _ _ mm ⟨A', c', rfl, rfl, hf⟩ hmm; simp only [List.cons_append, List.nil_append] at hmm; subst hmm; conv => whnf)))
            | (refine lload_id ?_; first
              | (fail)
              | (refine load_old _ (by with_reducible assumption) (by simp; done) ?_; conv => whnf))
            | (refine lixs_id ?_; fail)
            | (refine ex_id ?_; first
              | (first | (with_reducible refine ex_z (head_bits (by omega)).1 ?_; conv => whnf) | (with_reducible refine ex_z (head_bits (by omega)).2.1 ?_; conv => whnf) | (with_reducible refine ex_z (head_bits (by omega)).2.2.1 ?_; conv => whnf) | (with_reducible refine ex_z (head_bits (by omega)).2.2.2.1 ?_; conv => whnf) | (with_reducible refine ex_z (head_bits (by omega)).2.2.2.2 ?_; conv => whnf))
              | (refine ex_z (by (first | (simp only [Int.reduceAdd, Int.reduceSub, Int.reduceMul, Int.reduceNeg, Int.reduceMod, Int.reduceDiv, Int.reduceTMod, Int.reduceTDiv, Int.zero_add, Int.add_zero]; done) | (simp only [Int.reduceAdd, Int.reduceSub, Int.reduceMul, Int.reduceNeg, Int.reduceMod, Int.reduceDiv, Int.reduceTMod, Int.reduceTDiv, Int.zero_add, Int.add_zero]; rfl) | rfl)) ?_; conv => whnf))
            | (refine sh_id ?_; first
              | (fail)
              | (refine sh_z (by omega) (by (first | (simp only [Int.reduceAdd, Int.reduceSub, Int.reduceMul, Int.reduceNeg, Int.reduceMod, Int.reduceDiv, Int.reduceTMod, Int.reduceTDiv, Int.zero_add, Int.add_zero]; done) | (simp only [Int.reduceAdd, Int.reduceSub, Int.reduceMul, Int.reduceNeg, Int.reduceMod, Int.reduceDiv, Int.reduceTMod, Int.reduceTDiv, Int.zero_add, Int.add_zero]; rfl) | rfl)) ?_; conv => whnf))
            | (refine quo_id ?_; first
              | (refine quo_in (by omega) (by (first | (simp only [Int.reduceAdd, Int.reduceSub, Int.reduceMul, Int.reduceNeg, Int.reduceMod, Int.reduceDiv, Int.reduceTMod, Int.reduceTDiv, Int.zero_add, Int.add_zero]; done) | (simp only [Int.reduceAdd, Int.reduceSub, Int.reduceMul, Int.reduceNeg, Int.reduceMod, Int.reduceDiv, Int.reduceTMod, Int.reduceTDiv, Int.zero_add, Int.add_zero]; rfl) | rfl)) (by (dsimp only [inR]; first | decide | omega)) ?_; conv => whnf)
              | (refine quo_t (by omega) (by (dsimp only [inR]; first | decide | omega)) ?_; conv => whnf))
            | (refine rem_id ?_; first
              | (refine rem_in (by omega) (by (first | (simp only [Int.reduceAdd, Int.reduceSub, Int.reduceMul, Int.reduceNeg, Int.reduceMod, Int.reduceDiv, Int.reduceTMod, Int.reduceTDiv, Int.zero_add, Int.add_zero]; done) | (simp only [Int.reduceAdd, Int.reduceSub, Int.reduceMul, Int.reduceNeg, Int.reduceMod, Int.reduceDiv, Int.reduceTMod, Int.reduceTDiv, Int.zero_add, Int.add_zero]; rfl) | rfl)) ?_; conv => whnf)
              | (refine rem_t (by omega) ?_; conv => whnf))
            | (refine app_id ?_; refine app_i (by (first | (simp only [Nat.zero_add, Nat.add_zero, Nat.mul_one, Nat.reduceAdd, Nat.reduceMul, Int.reduceToNat, Int.toNat_natCast, Int.toNat_zero, Int.toNat_one, Nat.zero_mul]; done) | (simp only [Nat.zero_add, Nat.add_zero, Nat.mul_one, Nat.reduceAdd, Nat.reduceMul, Int.reduceToNat, Int.toNat_natCast, Int.toNat_zero, Int.toNat_one, Nat.zero_mul]; rfl) | rfl)) (by (first | (simp only [List.nil_append, List.cons_append, List.append_nil]; done) | (simp only [List.nil_append, List.cons_append, List.append_nil]; rfl) | rfl)) (by first | omega | (change _ * 1 ≤ _; omega) | (change _ * 8 ≤ _; omega) | (change _ * 2 ≤ _; omega) | (change _ * 4 ≤ _; omega) | (change _ * 16 ≤ _; omega) | (change _ * 24 ≤ _; omega) | (change _ * 32 ≤ _; omega) | (change _ * 40 ≤ _; omega)) (by first | omega | decide) ?_; intro _ _ _; conv => whnf)
            | (refine mk_id ?_; first | (refine mk_lit (by rfl) (by rfl) (by decide) (by rfl) ?_; conv => whnf) | (refine mk_sym _ (by first | rfl | omega) (by first | rfl | omega) (by omega) (by omega) ?_; conv => whnf))
            | (refine sl_id ?_; first | (refine sl_any (lo' := 2) (hi' := zs.length) 701 (by omega) (by rfl) (by omega) ?_; intro A2 hA2 hA3; conv => whnf) | (refine sl_any (lo' := 6) (hi' := zs.length - 2) 702 (by omega) (by rfl) (by omega) ?_; intro A2 hA2 hA3; conv => whnf))
            | (refine eff_id ?_; fail)
            | (refine val_id ?_; fail)
            | (refine x_rnd ?_)
            | (refine x_rnd' ?_)
            | (refine xdrw_id ?_; first | (refine x_drw tab_ok (id := 5) [] [] [0, 1, 2, 3, 4, 5, 6] followsMixed (by kernel_rfl) (by rfl) (by rfl) ?_; conv => whnf)))
          exact fin_pkt (h := 700) (A := A') (c := c') (n := ((zs.take (zs.length - 2)).drop 6).length) (xs := ((zs.take (zs.length - 2)).drop 6).map (Value.int .u8)) tag rfl (by (repeat (first | exact trivial | ((conv => whnf); refine And.intro (by rfl) ?_)))) rfl rfl (by (first | ((repeat (first | (with_reducible exact am_blk) | (with_reducible exact am_row) | (with_reducible exact am_blkV) | (with_reducible exact am_oth) | (with_reducible apply am_tail))); done) | ((repeat (first | exact am_row | exact am_blk | exact am_blkV | apply am_tail)); done)))
    · rw [if_pos h2]
      refine retX_x tab_ok (mem0 := []) Try.func37 rfl Try.ntmps37 (by rfl) (.init w) ?_; simp only [argX, Nat.reduceAdd, Nat.zero_add]; conv => whnf
      repeat' (first
        | (fail)
        | (refine run_c tab_ok ?_; conv => whnf)
        | (refine side_id ?_; refine side_i (by first | rfl | exact ⟨rfl, rfl, rfl, rfl⟩ | trivial | (simp [allOne, partsOne, Value.cells, Value.oneCell']; done) | fail) ?_; conv => whnf)
        | (refine ar_id ?_; first
          | (refine ar_in (by (first | (simp only [Int.reduceAdd, Int.reduceSub, Int.reduceMul, Int.reduceNeg, Int.reduceMod, Int.reduceDiv, Int.reduceTMod, Int.reduceTDiv, Int.zero_add, Int.add_zero]; done) | (simp only [Int.reduceAdd, Int.reduceSub, Int.reduceMul, Int.reduceNeg, Int.reduceMod, Int.reduceDiv, Int.reduceTMod, Int.reduceTDiv, Int.zero_add, Int.add_zero]; rfl) | rfl)) (by (dsimp only [inR]; first | decide | omega)) ?_; conv => whnf)
          | (fail))
        | (refine new_i ?_; intro _; conv => whnf)
        | (refine br_id ?_; first
          | (refine br_t (by first | decide | omega | (with_reducible rfl) | fail | (simp only [cellEq, toB]; omega) | (simp only [cellEq, toB]; simp; done) | fail) ?_; conv => whnf)
          | (refine br_f (by first | decide | omega | (with_reducible exact Bool.false_ne_true) | (with_reducible refine not_not_intro ?_; fail) | (simp only [cellEq, toB]; omega) | (simp only [cellEq, toB]; simp; done) | fail) ?_; conv => whnf)
          | ((refine br_any (fun h => ?_) (fun h => ?_) <;> (try simp only [cellEq, toB, Bool.not_eq_true, Bool.not_eq_false] at h) <;> (try (exfalso; first | omega | contradiction | (simp at h; done) | fail); done) <;> conv => whnf)))
        | (refine ix_id ?_; first
          | (refine ix_lit (by first | decide | omega) (by (first | (simp only [Nat.zero_add, Nat.add_zero, Nat.mul_one, Nat.reduceAdd, Nat.reduceMul, Int.reduceToNat, Int.toNat_natCast, Int.toNat_zero, Int.toNat_one, Nat.zero_mul]; done) | (simp only [Nat.zero_add, Nat.add_zero, Nat.mul_one, Nat.reduceAdd, Nat.reduceMul, Int.reduceToNat, Int.toNat_natCast, Int.toNat_zero, Int.toNat_one, Nat.zero_mul]; rfl) | rfl)) (by rfl) ?_; conv => whnf)
          | (refine ix_sym (by omega) ?_; conv => whnf))
        | (refine lcall_id ?_; first | (refine lcall_ret (fun w' hloc => make_S w') ?_; conv => whnf) | (refine lcall_ret (fun w' hloc => size_S _ _ _ _ _ w' (irow_loc hr hloc) hle (by omega) hu) ?_; conv => whnf) | (refine lcall_ret (fun w' hloc => right_T _ _ _ _ _ w' h2 (irow_loc hr hloc) hle hn0 (by omega) hu) ?_; conv => whnf) | (refine lcall_ret (fun w' hloc => right_F _ _ _ _ _ w' h2 (irow_loc hr hloc) hle hn0 (by omega) hu) ?_; conv => whnf) | (refine lcall_ret (v := u16 (hd1 zs)) (fun w' hloc => pair_S _ _ _ _ zs w' (irow_loc hr hloc) (by omega) hu) ?_; conv => whnf) | (refine lcall_ret (v := u16 (hd2 zs)) (fun w' hloc => by rw [← ehd2]; exact pair_S _ _ _ _ _ w' (hA2 _ _ _ _ (Nat.le_refl _) (irow_loc hr hloc)) (by omega) ((hu.take _).drop _)) ?_; conv => whnf) | (refine lcall_mk (fun w' hloc => clone_X 700 _ _ _ _ _ w' (hA2 _ _ _ _ (by omega) (irow_loc hr hloc)) (hA3 hn0) (by omega)) ?_; (rintro _ _ mm ⟨A', c', rfl, rfl, hf⟩ hmm; simp only [List.cons_append, List.nil_append] at hmm; subst hmm; conv => whnf)))
        | (refine lload_id ?_; first
          | (fail)
          | (refine load_old _ (by with_reducible assumption) (by simp; done) ?_; conv => whnf))
        | (refine lixs_id ?_; fail)
        | (refine ex_id ?_; first
          | (first | (with_reducible refine ex_z (head_bits (by omega)).1 ?_; conv => whnf) | (with_reducible refine ex_z (head_bits (by omega)).2.1 ?_; conv => whnf) | (with_reducible refine ex_z (head_bits (by omega)).2.2.1 ?_; conv => whnf) | (with_reducible refine ex_z (head_bits (by omega)).2.2.2.1 ?_; conv => whnf) | (with_reducible refine ex_z (head_bits (by omega)).2.2.2.2 ?_; conv => whnf))
          | (refine ex_z (by (first | (simp only [Int.reduceAdd, Int.reduceSub, Int.reduceMul, Int.reduceNeg, Int.reduceMod, Int.reduceDiv, Int.reduceTMod, Int.reduceTDiv, Int.zero_add, Int.add_zero]; done) | (simp only [Int.reduceAdd, Int.reduceSub, Int.reduceMul, Int.reduceNeg, Int.reduceMod, Int.reduceDiv, Int.reduceTMod, Int.reduceTDiv, Int.zero_add, Int.add_zero]; rfl) | rfl)) ?_; conv => whnf))
        | (refine sh_id ?_; first
          | (fail)
          | (refine sh_z (by omega) (by (first | (simp only [Int.reduceAdd, Int.reduceSub, Int.reduceMul, Int.reduceNeg, Int.reduceMod, Int.reduceDiv, Int.reduceTMod, Int.reduceTDiv, Int.zero_add, Int.add_zero]; done) | (simp only [Int.reduceAdd, Int.reduceSub, Int.reduceMul, Int.reduceNeg, Int.reduceMod, Int.reduceDiv, Int.reduceTMod, Int.reduceTDiv, Int.zero_add, Int.add_zero]; rfl) | rfl)) ?_; conv => whnf))
        | (refine quo_id ?_; first
          | (refine quo_in (by omega) (by (first | (simp only [Int.reduceAdd, Int.reduceSub, Int.reduceMul, Int.reduceNeg, Int.reduceMod, Int.reduceDiv, Int.reduceTMod, Int.reduceTDiv, Int.zero_add, Int.add_zero]; done) | (simp only [Int.reduceAdd, Int.reduceSub, Int.reduceMul, Int.reduceNeg, Int.reduceMod, Int.reduceDiv, Int.reduceTMod, Int.reduceTDiv, Int.zero_add, Int.add_zero]; rfl) | rfl)) (by (dsimp only [inR]; first | decide | omega)) ?_; conv => whnf)
          | (refine quo_t (by omega) (by (dsimp only [inR]; first | decide | omega)) ?_; conv => whnf))
        | (refine rem_id ?_; first
          | (refine rem_in (by omega) (by (first | (simp only [Int.reduceAdd, Int.reduceSub, Int.reduceMul, Int.reduceNeg, Int.reduceMod, Int.reduceDiv, Int.reduceTMod, Int.reduceTDiv, Int.zero_add, Int.add_zero]; done) | (simp only [Int.reduceAdd, Int.reduceSub, Int.reduceMul, Int.reduceNeg, Int.reduceMod, Int.reduceDiv, Int.reduceTMod, Int.reduceTDiv, Int.zero_add, Int.add_zero]; rfl) | rfl)) ?_; conv => whnf)
          | (refine rem_t (by omega) ?_; conv => whnf))
        | (refine app_id ?_; refine app_i (by (first | (simp only [Nat.zero_add, Nat.add_zero, Nat.mul_one, Nat.reduceAdd, Nat.reduceMul, Int.reduceToNat, Int.toNat_natCast, Int.toNat_zero, Int.toNat_one, Nat.zero_mul]; done) | (simp only [Nat.zero_add, Nat.add_zero, Nat.mul_one, Nat.reduceAdd, Nat.reduceMul, Int.reduceToNat, Int.toNat_natCast, Int.toNat_zero, Int.toNat_one, Nat.zero_mul]; rfl) | rfl)) (by (first | (simp only [List.nil_append, List.cons_append, List.append_nil]; done) | (simp only [List.nil_append, List.cons_append, List.append_nil]; rfl) | rfl)) (by first | omega | (change _ * 1 ≤ _; omega) | (change _ * 8 ≤ _; omega) | (change _ * 2 ≤ _; omega) | (change _ * 4 ≤ _; omega) | (change _ * 16 ≤ _; omega) | (change _ * 24 ≤ _; omega) | (change _ * 32 ≤ _; omega) | (change _ * 40 ≤ _; omega)) (by first | omega | decide) ?_; intro _ _ _; conv => whnf)
        | (refine mk_id ?_; first | (refine mk_lit (by rfl) (by rfl) (by decide) (by rfl) ?_; conv => whnf) | (refine mk_sym _ (by first | rfl | omega) (by first | rfl | omega) (by omega) (by omega) ?_; conv => whnf))
        | (refine sl_id ?_; first | (refine sl_any (lo' := 2) (hi' := zs.length) 701 (by omega) (by rfl) (by omega) ?_; intro A2 hA2 hA3; conv => whnf) | (refine sl_any (lo' := 6) (hi' := zs.length - 2) 702 (by omega) (by rfl) (by omega) ?_; intro A2 hA2 hA3; conv => whnf))
        | (refine eff_id ?_; fail)
        | (refine val_id ?_; fail)
        | (refine x_rnd ?_)
        | (refine x_rnd' ?_)
        | (refine xdrw_id ?_; first | (refine x_drw tab_ok (id := 5) [] [] [0, 1, 2, 3, 4, 5, 6] followsMixed (by kernel_rfl) (by rfl) (by rfl) ?_; conv => whnf)))
      all_goals exact fin_pktN tag rfl
end Go.Proofs.Ytpblllkkcpahgaa
