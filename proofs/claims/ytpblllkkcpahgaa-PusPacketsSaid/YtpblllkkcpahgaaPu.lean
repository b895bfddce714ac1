/- Layer 10 (pus): what is sent is read again from its packet, command and report, with the same parts. -/
import Derived.Test.YtpblllkkcpahgaaPn
import Derived.Test.YtpblllkkcpahgaaPq
namespace Go.Proofs.Ytpblllkkcpahgaa
set_option linter.unusedSimpArgs false
set_option linter.unusedVariables false
set_option linter.unnecessarySimpa false
set_option maxRecDepth 100000
open Go.RowKit

theorem parse_pkt {cmd : Bool} {apid count : Int} {zs : List Int} (ha : 0 ≤ apid ∧ apid < 2048) (hc : 0 ≤ count ∧ count < 16384) (h1 : 1 ≤ zs.length) (h2 : zs.length ≤ 200) (hu : AllU8 zs) :
    parseP (summed (pktH cmd apid count zs)) = ⟨cmd, apid, count, zs, 0⟩ := by
  have hH := pktH_u8 (cmd := cmd) ha hc h2 hu
  have hcl := crc_lt hH
  have hl := pktH_len cmd apid count zs
  have hsl := summed_len (pktH cmd apid count zs)
  have hrg := hdr_rng cmd ha
  have g0 : (summed (pktH cmd apid count zs)).getD 0 0 = hdr cmd apid / 256 := rfl
  have g1 : (summed (pktH cmd apid count zs)).getD 1 0 = hdr cmd apid % 256 := rfl
  have g2 : (summed (pktH cmd apid count zs)).getD 2 0 = (49152 + count) / 256 := rfl
  have g3 : (summed (pktH cmd apid count zs)).getD 3 0 = (49152 + count) % 256 := rfl
  have g4 : (summed (pktH cmd apid count zs)).getD 4 0 = ((zs.length : Int) + 2 - 1) / 256 := rfl
  have g5 : (summed (pktH cmd apid count zs)).getD 5 0 = ((zs.length : Int) + 2 - 1) % 256 := rfl
  have e1 : hd1 (summed (pktH cmd apid count zs)) = hdr cmd apid := by unfold hd1; rw [g0, g1]; omega
  have e2 : hd2 (summed (pktH cmd apid count zs)) = 49152 + count := by unfold hd2; rw [g2, g3]; omega
  have e3 : sizeOfP (summed (pktH cmd apid count zs)) = zs.length + 8 := by unfold sizeOfP; rw [g4, g5]; omega
  have ht : (summed (pktH cmd apid count zs)).take ((summed (pktH cmd apid count zs)).length - 2) = pktH cmd apid count zs := by
    rw [hsl, Nat.add_sub_cancel]
    unfold summed
    rw [List.take_left']
    rfl
  have ga : (summed (pktH cmd apid count zs)).getD ((summed (pktH cmd apid count zs)).length - 2) 0 = (crc (pktH cmd apid count zs) : Int) / 256 := by
    rw [hsl, Nat.add_sub_cancel]
    simp [summed, be2, List.getD]
  have gb : (summed (pktH cmd apid count zs)).getD ((summed (pktH cmd apid count zs)).length - 1) 0 = (crc (pktH cmd apid count zs) : Int) % 256 := by
    rw [hsl, show (pktH cmd apid count zs).length + 2 - 1 = (pktH cmd apid count zs).length + 1 by omega]
    simp [summed, be2, List.getD]
  have hR : rightB (summed (pktH cmd apid count zs)) := by
    unfold rightB
    rw [ht, ga, gb]
    omega
  have hh : hdr cmd apid % 2048 = apid ∧ hdr cmd apid - hdr cmd apid % 2048 - hdr cmd apid / 4096 % 2 * 4096 = 2048 ∧ decide (hdr cmd apid / 4096 % 2 * 4096 ≠ 0) = cmd := by
    cases cmd
    · simp only [hdr]; exact ⟨by omega, by omega, decide_eq_false (by omega)⟩
    · simp only [hdr]; exact ⟨by omega, by omega, decide_eq_true (by omega)⟩
  unfold parseP
  rw [e1, e2, e3, ht]
  rw [if_neg (by omega), if_neg (not_not_intro hR), if_neg (by omega), if_neg (by omega), hh.1]
  have hd : (pktH cmd apid count zs).drop 6 = zs := by
    unfold pktH
    rw [List.drop_left']
    rfl
  rw [hd, show (49152 + count) % 16384 = count by omega, hh.2.2]
theorem parse_cmd {a s b r : Int} {zs : List Int} (ha : 0 ≤ a ∧ a < 16) (hr : U16 r) (h2 : zs.length + 5 ≤ 200) : parseC (cmdB a s b r zs) = ⟨a, s, b, r, zs, 0⟩ := by
  unfold U16 at hr
  unfold cmdB
  rw [if_neg (by omega), if_neg (by omega)]
  have hl : ([32 + a, s, b, r / 256, r % 256] ++ zs).length = zs.length + 5 := by simp
  have g0 : ([32 + a, s, b, r / 256, r % 256] ++ zs).getD 0 0 = 32 + a := rfl
  unfold parseC
  rw [hl, g0, if_neg (by omega), if_neg (by omega)]
  have e1 : (32 + a) % 16 = a := by omega
  have e2 : r / 256 * 256 + r % 256 = r := by omega
  show Cmd.mk ((32 + a) % 16) s b (r / 256 * 256 + r % 256) zs 0 = _
  rw [e1, e2]
theorem parse_rep {s b c t : Int} {zs : List Int} (hc : U16 c) (ht : U32 t) (h2 : zs.length + 11 ≤ 200) : parseR (repB s b c t zs) = ⟨s, b, c, t, zs, 0⟩ := by
  unfold U16 at hc
  unfold U32 at ht
  unfold repB
  rw [if_neg (by omega)]
  have hl : ([32, s, b, c / 256, c % 256, 0, 0, t / 16777216, t / 65536 % 256, t / 256 % 256, t % 256] ++ zs).length = zs.length + 11 := by simp
  have g0 : ([32, s, b, c / 256, c % 256, 0, 0, t / 16777216, t / 65536 % 256, t / 256 % 256, t % 256] ++ zs).getD 0 0 = 32 := rfl
  have g5 : ([32, s, b, c / 256, c % 256, 0, 0, t / 16777216, t / 65536 % 256, t / 256 % 256, t % 256] ++ zs).getD 5 0 = 0 := rfl
  have g6 : ([32, s, b, c / 256, c % 256, 0, 0, t / 16777216, t / 65536 % 256, t / 256 % 256, t % 256] ++ zs).getD 6 0 = 0 := rfl
  unfold parseR
  rw [hl, g0, g5, g6, if_neg (by omega), if_neg (by omega)]
  have e2 : c / 256 * 256 + c % 256 = c := by omega
  have e3 : t / 16777216 * 16777216 + t / 65536 % 256 * 65536 + t / 256 % 256 * 256 + t % 256 = t := by omega
  show Rep.mk s b (c / 256 * 256 + c % 256) (t / 16777216 * 16777216 + t / 65536 % 256 * 65536 + t / 256 % 256 * 256 + t % 256) zs 0 = _
  rw [e2, e3]
theorem r9Parse_E (tag : Nat) (h : Nat) (A : Option Addr) (n cp : Nat) (zs : List Int) (p : Pkt) (w : World) (hp : parseP zs = p) (hr : IRow .u8 w A n zs) (hn0 : A = none → cp = 0) (hle : n ≤ cp) (hn : n ≤ 1000000) (hu : AllU8 zs) :
    RetX Try.prog 38 [.sl h A n cp] w [] (PRes tag p) := by subst hp; exact r9Parse_X tag h A n cp zs w hr hn0 hle hn hu
theorem parseC_E (tag : Nat) (h : Nat) (A : Option Addr) (n cp : Nat) (zs : List Int) (p : Cmd) (w : World) (hp : parseC zs = p) (hr : IRow .u8 w A n zs) (hn0 : A = none → cp = 0) (hle : n ≤ cp) (hn : n ≤ 1000000) (hu : AllU8 zs) :
    RetX Try.prog 19 [.sl h A n cp] w [] (CRes tag p) := by subst hp; exact parseC_X tag h A n cp zs w hr hn0 hle (by omega) hu
theorem parseR_E (tag : Nat) (h : Nat) (A : Option Addr) (n cp : Nat) (zs : List Int) (p : Rep) (w : World) (hp : parseR zs = p) (hr : IRow .u8 w A n zs) (hn0 : A = none → cp = 0) (hle : n ≤ cp) (hn : n ≤ 1000000) (hu : AllU8 zs) :
    RetX Try.prog 20 [.sl h A n cp] w [] (RRes tag p) := by subst hp; exact parseR_X tag h A n cp zs w hr hn0 hle (by omega) hu
theorem sendP_X (tag : Nat) (apid count : Int) (a s b r : Int) (h : Nat) (A : Option Addr) (n cp : Nat) (zs ps ys : List Int) (w : World) (hps : cmdB a s b r zs = ps) (hys : summed (pktH true apid count ps) = ys) (hap : 0 ≤ apid ∧ apid < 2048) (hco : 0 ≤ count ∧ count < 16384) (ha : 0 ≤ a ∧ a < 16) (hz : zs.length ≤ 150) (hs : U8 s) (hb : U8 b) (hrr : U16 r) (hr : IRow .u8 w A n zs) (hn0 : A = none → cp = 0) (hu : AllU8 zs) :
    RetX Try.prog 44 [u16 apid, u16 count, .agg [u8 a, u8 s, u8 b, u16 r, .sl h A n cp]] w [] (BRes tag ys 0) := by
  have key := send_X tag apid count a s b r h A n cp zs w (by unfold U16; omega) (by unfold U16; omega) (by unfold U8; omega) hs hb hrr hr hn0 (by rw [← hr.1]; omega) hu
  have e0 : cmdE a zs = 0 := by unfold cmdE; rw [if_neg (by omega), if_neg (by omega)]
  rw [e0, hps, sendB, if_pos rfl, sendR, if_pos rfl] at key
  have hl := cmdB_len a s b r zs
  rw [hps] at hl
  have ek : pktE apid count ps = 0 := by unfold pktE; rw [if_neg (by omega), if_neg (by omega)]
  rw [ek, (pktB_ok ek).1, hys] at key
  exact key
theorem tellP_X (tag : Nat) (apid count : Int) (s b c t : Int) (h : Nat) (A : Option Addr) (n cp : Nat) (zs ps ys : List Int) (w : World) (hps : repB s b c t zs = ps) (hys : summed (pktH false apid count ps) = ys) (hap : 0 ≤ apid ∧ apid < 2048) (hco : 0 ≤ count ∧ count < 16384) (hz : zs.length ≤ 150) (hs : U8 s) (hb : U8 b) (hc : U16 c) (ht : U32 t) (hr : IRow .u8 w A n zs) (hn0 : A = none → cp = 0) (hu : AllU8 zs) :
    RetX Try.prog 48 [u16 apid, u16 count, .agg [u8 s, u8 b, u16 c, u32 t, .sl h A n cp]] w [] (BRes tag ys 0) := by
  have key := tell_X tag apid count s b c t h A n cp zs w (by unfold U16; omega) (by unfold U16; omega) hs hb hc ht hr hn0 (by rw [← hr.1]; omega) hu
  have e0 : repE zs = 0 := by unfold repE; rw [if_neg (by omega)]
  rw [e0, hps, sendB, if_pos rfl, sendR, if_pos rfl] at key
  have hl := repB_len s b c t zs
  rw [hps] at hl
  have ek : pktE apid count ps = 0 := by unfold pktE; rw [if_neg (by omega), if_neg (by omega)]
  rw [ek, (pktB_ok ek).1, hys] at key
  exact key
set_option maxHeartbeats 2000000 in
theorem pusPackets_ret (a s b r : Int) (h : Nat) (A : Option Addr) (n cp : Nat) (zs0 : List Int) (s2 b2 k2 t2 : Int) (h' : Nat) (A' : Option Addr) (n' cp' : Nat) (rs0 : List Int) (apid count : Int) (w : World) (ha : U8 a) (hs : U8 s) (hb : U8 b) (hrr : U16 r) (hr : IRow .u8 w A n zs0) (hu : AllU8 zs0) (hn : n ≤ 9223372036854775807)
    (hs2 : U8 s2) (hb2 : U8 b2) (hk2 : U16 k2) (ht2 : U32 t2) (hr' : IRow .u8 w A' n' rs0) (hu' : AllU8 rs0) (hn' : n' ≤ 9223372036854775807) (hap : U16 apid) (hco : U16 count) :
    RetS Try.prog 11 [.agg [u8 a, u8 s, u8 b, u16 r, .sl h A n cp], .agg [u8 s2, u8 b2, u16 k2, u32 t2, .sl h' A' n' cp'], u16 apid, u16 count] w (.lit true) := by
  have ha1 := ha
  have hap1 := hap
  have hco1 := hco
  unfold U8 at ha1
  unfold U16 at hap1 hco1
  have ha2 : 0 ≤ a % 16 ∧ a % 16 < 16 := by omega
  have hap2 : 0 ≤ apid % 2048 ∧ apid % 2048 < 2048 := by omega
  have hco2 : 0 ≤ count % 16384 ∧ count % 16384 < 16384 := by omega
  have hl1 : (zs0.take 150).length ≤ 150 := by rw [List.length_take]; exact Nat.min_le_left _ _
  have hl2 : (rs0.take 150).length ≤ 150 := by rw [List.length_take]; exact Nat.min_le_left _ _
  obtain ⟨ps, hps⟩ : ∃ ps, cmdB (a % 16) s b r (zs0.take 150) = ps := ⟨_, rfl⟩
  obtain ⟨qs, hqs⟩ : ∃ qs, repB s2 b2 k2 t2 (rs0.take 150) = qs := ⟨_, rfl⟩
  have hpsu : AllU8 ps := by rw [← hps]; exact cmdB_u8 (by unfold U8; omega) hs hb hrr (hu.take _)
  have hqsu : AllU8 qs := by rw [← hqs]; exact repB_u8 hs2 hb2 hk2 ht2 (hu'.take _)
  have hpl : 1 ≤ ps.length ∧ ps.length ≤ 200 := by
    refine ⟨?_, by rw [← hps]; exact cmdB_len _ _ _ _ _⟩
    rw [← hps, cmdB, if_neg (by omega), if_neg (by omega)]; simp
  have hql : 1 ≤ qs.length ∧ qs.length ≤ 200 := by
    refine ⟨?_, by rw [← hqs]; exact repB_len _ _ _ _ _⟩
    rw [← hqs, repB, if_neg (by omega)]; simp
  have hpc : parseC ps = ⟨a % 16, s, b, r, zs0.take 150, 0⟩ := by rw [← hps]; exact parse_cmd ha2 hrr (by omega)
  have hpr : parseR qs = ⟨s2, b2, k2, t2, rs0.take 150, 0⟩ := by rw [← hqs]; exact parse_rep hk2 ht2 (by omega)
  obtain ⟨ys, hys⟩ : ∃ ys, summed (pktH true (apid % 2048) (count % 16384) ps) = ys := ⟨_, rfl⟩
  obtain ⟨us, hus⟩ : ∃ us, summed (pktH false (apid % 2048) (count % 16384) qs) = us := ⟨_, rfl⟩
  have hpy : parseP ys = ⟨true, apid % 2048, count % 16384, ps, 0⟩ := by rw [← hys]; exact parse_pkt hap2 hco2 hpl.1 hpl.2 hpsu
  have hpu : parseP us = ⟨false, apid % 2048, count % 16384, qs, 0⟩ := by rw [← hus]; exact parse_pkt hap2 hco2 hql.1 hql.2 hqsu
  have hyu : AllU8 ys := by rw [← hys]; exact summed_u8 (pktH_u8 hap2 hco2 hpl.2 hpsu)
  have huu : AllU8 us := by rw [← hus]; exact summed_u8 (pktH_u8 hap2 hco2 hql.2 hqsu)
  have hyl : ys.length ≤ 208 := by rw [← hys, summed_len, pktH_len]; omega
  have hul : us.length ≤ 208 := by rw [← hus, summed_len, pktH_len]; omega
  refine ret_x tab_ok Try.func11 rfl Try.ntmps11 (by rfl) ?_; simp only [argX, Nat.reduceAdd, Nat.zero_add]; conv => whnf
  repeat' (first | (refine run_c tab_ok ?_; conv => whnf) | (refine side_id ?_; refine side_i (by first | rfl | exact ⟨rfl, rfl, rfl, rfl⟩ | trivial | (simp [allOne, partsOne, Value.cells, Value.oneCell']; done) | fail) ?_; conv => whnf) | (refine ar_id ?_; first | (refine ar_in (by (first | (simp only [Int.reduceAdd, Int.reduceSub, Int.reduceMul, Int.reduceNeg, Int.reduceMod, Int.reduceDiv, Int.reduceTMod, Int.reduceTDiv, Int.zero_add, Int.add_zero] <;> rfl) | rfl)) (by (dsimp only [inR]; first | decide | omega)) ?_; conv => whnf)) | (refine new_i ?_; intro _; conv => whnf) | (refine br_id ?_; first | (refine br_t (by first | decide | omega | (with_reducible rfl) | fail | (simp only [cellEq, toB]; omega) | (simp only [cellEq, toB]; simp; done) | fail) ?_; conv => whnf) | (refine br_f (by first | decide | omega | (with_reducible exact Bool.false_ne_true) | (with_reducible refine not_not_intro ?_; fail) | (simp only [cellEq, toB]; omega) | (simp only [cellEq, toB]; simp; done) | fail) ?_; conv => whnf) | ((refine br_any (fun h => ?_) (fun h => ?_) <;> (try simp only [cellEq, toB, Bool.not_eq_true, Bool.not_eq_false] at h) <;> (try (exfalso; first | omega | contradiction | (simp at h; done) | fail); done) <;> conv => whnf))) | (refine ix_id ?_; first | (refine ix_lit (by first | decide | omega) (by (first | (simp only [Nat.zero_add, Nat.add_zero, Nat.mul_one, Nat.reduceAdd, Nat.reduceMul, Int.reduceToNat, Int.toNat_natCast, Int.toNat_zero, Int.toNat_one, Nat.zero_mul] <;> rfl) | rfl)) (by rfl) ?_; conv => whnf) | (refine ix_sym (by omega) ?_; conv => whnf)) | (refine lcall_id ?_; first | (refine lcall_ret (fun w' hloc => awake10_S w') ?_; conv => whnf) | (refine lcall_mk (fun w' hloc => cut_N 901 _ _ _ _ zs0 150 w' (irow_loc hr hloc) (by omega) (by decide)) ?_; (rintro _ _ mm ⟨A1, c1, rfl, rfl, hf1⟩ hmm; simp only [List.cons_append, List.nil_append] at hmm; subst hmm; conv => whnf)) | (refine lcall_mk (fun w' hloc => cut_N 902 _ _ _ _ rs0 150 w' (irow_loc hr' hloc) (by omega) (by decide)) ?_; (rintro _ _ mm ⟨A2, c2, rfl, rfl, hf2⟩ hmm; simp only [List.cons_append, List.nil_append] at hmm; subst hmm; conv => whnf)) | (refine lcall_mk (fun w' hloc => sendP_X 903 _ _ _ s b r _ _ _ _ (zs0.take 150) ps ys w' hps hys hap2 hco2 ha2 hl1 hs hb hrr (row_irow hloc (by (first | ((repeat (first | (with_reducible exact am_blk) | (with_reducible exact am_row) | (with_reducible exact am_blkV) | (with_reducible exact am_oth) | (with_reducible apply am_tail))); done) | ((repeat (first | exact am_row | exact am_blk | exact am_blkV | apply am_tail)); done)))) hf1.2.1 (hu.take _)) ?_; (rintro _ _ mm ⟨A3, c3, rfl, rfl, hf3⟩ hmm; simp only [List.cons_append, List.nil_append] at hmm; subst hmm; conv => whnf)) | (refine lcall_mk (fun w' hloc => tellP_X 904 _ _ s2 b2 k2 t2 _ _ _ _ (rs0.take 150) qs us w' hqs hus hap2 hco2 hl2 hs2 hb2 hk2 ht2 (row_irow hloc (by (first | ((repeat (first | (with_reducible exact am_blk) | (with_reducible exact am_row) | (with_reducible exact am_blkV) | (with_reducible exact am_oth) | (with_reducible apply am_tail))); done) | ((repeat (first | exact am_row | exact am_blk | exact am_blkV | apply am_tail)); done)))) hf2.2.1 (hu'.take _)) ?_; (rintro _ _ mm ⟨A4, c4, rfl, rfl, hf4⟩ hmm; simp only [List.cons_append, List.nil_append] at hmm; subst hmm; conv => whnf)) | (refine lcall_mk (fun w' hloc => r9Parse_E 905 _ _ _ _ ys _ w' hpy (row_irow hloc (by (first | ((repeat (first | (with_reducible exact am_blk) | (with_reducible exact am_row) | (with_reducible exact am_blkV) | (with_reducible exact am_oth) | (with_reducible apply am_tail))); done) | ((repeat (first | exact am_row | exact am_blk | exact am_blkV | apply am_tail)); done)))) hf3.2.1 hf3.1.1 (by omega) hyu) ?_; (rintro _ _ mm ⟨A5, c5, rfl, rfl, hf5⟩ hmm; simp only [List.cons_append, List.nil_append] at hmm; subst hmm; conv => whnf)) | (refine lcall_mk (fun w' hloc => r9Parse_E 906 _ _ _ _ us _ w' hpu (row_irow hloc (by (first | ((repeat (first | (with_reducible exact am_blk) | (with_reducible exact am_row) | (with_reducible exact am_blkV) | (with_reducible exact am_oth) | (with_reducible apply am_tail))); done) | ((repeat (first | exact am_row | exact am_blk | exact am_blkV | apply am_tail)); done)))) hf4.2.1 hf4.1.1 (by omega) huu) ?_; (rintro _ _ mm ⟨A6, c6, rfl, rfl, hf6⟩ hmm; simp only [List.cons_append, List.nil_append] at hmm; subst hmm; conv => whnf)) | (refine lcall_mk (fun w' hloc => parseC_E 907 _ _ _ _ ps _ w' hpc (row_irow hloc (by (first | ((repeat (first | (with_reducible exact am_blk) | (with_reducible exact am_row) | (with_reducible exact am_blkV) | (with_reducible exact am_oth) | (with_reducible apply am_tail))); done) | ((repeat (first | exact am_row | exact am_blk | exact am_blkV | apply am_tail)); done)))) hf5.2.1 hf5.1.1 (by omega) hpsu) ?_; (rintro _ _ mm ⟨A7, c7, rfl, rfl, hf7⟩ hmm; simp only [List.cons_append, List.nil_append] at hmm; subst hmm; conv => whnf)) | (refine lcall_mk (fun w' hloc => parseR_E 908 _ _ _ _ qs _ w' hpr (row_irow hloc (by (first | ((repeat (first | (with_reducible exact am_blk) | (with_reducible exact am_row) | (with_reducible exact am_blkV) | (with_reducible exact am_oth) | (with_reducible apply am_tail))); done) | ((repeat (first | exact am_row | exact am_blk | exact am_blkV | apply am_tail)); done)))) hf6.2.1 hf6.1.1 (by omega) hqsu) ?_; (rintro _ _ mm ⟨A8, c8, rfl, rfl, hf8⟩ hmm; simp only [List.cons_append, List.nil_append] at hmm; subst hmm; conv => whnf)) | (refine lcall_ret (fun w' hloc => own10_S _ _ _ _ _ _ _ _ w') ?_; conv => whnf) | (refine lcall_ret (fun w' hloc => like_E _ _ _ _ _ _ _ _ _ _ _ _ (zs0.take 150) w' (row_irow hloc (by (first | ((repeat (first | (with_reducible exact am_blk) | (with_reducible exact am_row) | (with_reducible exact am_blkV) | (with_reducible exact am_oth) | (with_reducible apply am_tail))); done) | ((repeat (first | exact am_row | exact am_blk | exact am_blkV | apply am_tail)); done)))) (row_irow hloc (by (first | ((repeat (first | (with_reducible exact am_blk) | (with_reducible exact am_row) | (with_reducible exact am_blkV) | (with_reducible exact am_oth) | (with_reducible apply am_tail))); done) | ((repeat (first | exact am_row | exact am_blk | exact am_blkV | apply am_tail)); done)))) (by omega) (by omega)) ?_; conv => whnf) | (refine lcall_ret (fun w' hloc => same_E _ _ _ _ _ _ _ _ (rs0.take 150) w' (row_irow hloc (by (first | ((repeat (first | (with_reducible exact am_blk) | (with_reducible exact am_row) | (with_reducible exact am_blkV) | (with_reducible exact am_oth) | (with_reducible apply am_tail))); done) | ((repeat (first | exact am_row | exact am_blk | exact am_blkV | apply am_tail)); done)))) (row_irow hloc (by (first | ((repeat (first | (with_reducible exact am_blk) | (with_reducible exact am_row) | (with_reducible exact am_blkV) | (with_reducible exact am_oth) | (with_reducible apply am_tail))); done) | ((repeat (first | exact am_row | exact am_blk | exact am_blkV | apply am_tail)); done)))) (by first | omega | (dsimp only; omega)) (by first | omega | (dsimp only; omega))) ?_; conv => whnf)) | (refine lload_id ?_; first | (refine load_old _ (by with_reducible assumption) (by simp; done) ?_; conv => whnf)) | (refine ex_id ?_; first | (refine ex_z (by (first | (simp only [Int.reduceAdd, Int.reduceSub, Int.reduceMul, Int.reduceNeg, Int.reduceMod, Int.reduceDiv, Int.reduceTMod, Int.reduceTDiv, Int.zero_add, Int.add_zero] <;> rfl) | rfl)) ?_; conv => whnf)) | (refine sh_id ?_; first | (refine sh_z (by omega) (by (first | (simp only [Int.reduceAdd, Int.reduceSub, Int.reduceMul, Int.reduceNeg, Int.reduceMod, Int.reduceDiv, Int.reduceTMod, Int.reduceTDiv, Int.zero_add, Int.add_zero] <;> rfl) | rfl)) ?_; conv => whnf)) | (refine quo_id ?_; first | (refine quo_in (by omega) (by (first | (simp only [Int.reduceAdd, Int.reduceSub, Int.reduceMul, Int.reduceNeg, Int.reduceMod, Int.reduceDiv, Int.reduceTMod, Int.reduceTDiv, Int.zero_add, Int.add_zero] <;> rfl) | rfl)) (by (dsimp only [inR]; first | decide | omega)) ?_; conv => whnf) | (refine quo_t (by omega) (by (dsimp only [inR]; first | decide | omega)) ?_; conv => whnf)) | (refine rem_id ?_; first | (refine rem_in (by omega) (by (first | (simp only [Int.reduceAdd, Int.reduceSub, Int.reduceMul, Int.reduceNeg, Int.reduceMod, Int.reduceDiv, Int.reduceTMod, Int.reduceTDiv, Int.zero_add, Int.add_zero] <;> rfl) | rfl)) ?_; conv => whnf) | (refine rem_t (by omega) ?_; conv => whnf)) | (refine app_id ?_; refine app_i (by (first | (simp only [Nat.zero_add, Nat.add_zero, Nat.mul_one, Nat.reduceAdd, Nat.reduceMul, Int.reduceToNat, Int.toNat_natCast, Int.toNat_zero, Int.toNat_one, Nat.zero_mul] <;> rfl) | rfl)) (by (first | (simp only [List.nil_append, List.cons_append, List.append_nil] <;> rfl) | rfl)) (by first | omega | (change _ * 1 ≤ _; omega) | (change _ * 8 ≤ _; omega) | (change _ * 2 ≤ _; omega) | (change _ * 4 ≤ _; omega) | (change _ * 16 ≤ _; omega) | (change _ * 24 ≤ _; omega) | (change _ * 32 ≤ _; omega) | (change _ * 40 ≤ _; omega)) (by first | omega | decide) ?_; intro _ _ _; conv => whnf) | (refine mk_id ?_; first | (refine mk_lit (by rfl) (by rfl) (by decide) (by rfl) ?_; conv => whnf) | (refine mk_sym _ (by first | rfl | omega) (by first | rfl | omega) (by omega) (by omega) ?_; conv => whnf)) | (refine x_rnd ?_) | (refine x_rnd' ?_) | (refine xdrw_id ?_; first | (refine x_drw2 tab_ok (id := 3) 10 [] [] [0, 1, 2, 3, 4, 5, 6, 7, 8, 9] [] [4, 5] [10, 11, 12, 13, 14] followsMixed (by kernel_rfl) (by rfl) ?_; conv => whnf) | (refine x_drw tab_ok (id := 12) [] [] [0, 1, 2, 3, 4, 5, 6, 7, 8, 9, 10, 11, 12, 13, 14, 15, 16, 17, 18, 19, 20, 21, 22, 23, 24, 25, 26, 27, 28, 29, 30, 31, 32, 33, 34, 35, 36, 37, 38, 39, 40, 41, 42, 43, 44, 45, 46, 47] followsMixed (by kernel_rfl) (by rfl) (by rfl) ?_; conv => whnf)))
  all_goals (
    (refine fin_ret ?_)
    first | rfl | exact congrArg Value.bool (decide_eq_true (by omega)) | (trace_state; sorry))
theorem pusPackets_walk (cs ds : List Value) (apid count : Int) (w : World) (hc : okDs w [.i .u8, .i .u8, .i .u8, .i .u16, .s [.i .u8]] cs) (hd : okDs w [.i .u8, .i .u8, .i .u16, .i .u32, .s [.i .u8]] ds) (hap : inR .u16 apid) (hco : inR .u16 count) :
    Calls Try.prog 11 #[.agg cs.toArray, .agg ds.toArray, .int .u16 apid, .int .u16 count] w fun e w' => e = .returned (.bool true) ∧ Below w.heap.size w w' := by
  obtain ⟨a, s, b, r, A, n, cp, zs, rfl, h1, h2, h3, h4, h5, h6, h7, h8, h9⟩ := cmd_of hc
  obtain ⟨s2, b2, k2, t2, A2, n2, cp2, zs2, rfl, i1, i2, i3, i4, i5, i6, i7, i8, i9⟩ := rep_of hd
  dsimp only [inR] at hap hco
  unfold maxLen at h7 i7
  exact (pusPackets_ret a s b r 0 A n cp zs s2 b2 k2 t2 0 A2 n2 cp2 zs2 apid count w h1 h2 h3 h4 h5 h8 (by omega) i1 i2 i3 i4 i5 i8 (by omega) (by unfold U16; omega) (by unfold U16; omega)).below
end Go.Proofs.Ytpblllkkcpahgaa
