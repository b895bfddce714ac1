/- Layer 12 (verify): what is sent, judged; the example; the reports. -/
import Derived.Test.YtpblllkkcpahgaaVb
import Derived.Test.YtpblllkkcpahgaaPn
namespace Go.Proofs.Ytpblllkkcpahgaa
set_option linter.unusedSimpArgs false
set_option linter.unusedVariables false
set_option linter.unnecessarySimpa false
set_option maxRecDepth 100000
set_option maxHeartbeats 2000000
open Go.RowKit

theorem parse_pkt {cmd : Bool} {apid count : Int} {zs : List Int} (ha : 0 ≤ apid ∧ apid < 2048) (hc : 0 ≤ count ∧ count < 16384) (h1 : 1 ≤ zs.length) (h2 : zs.length ≤ 200) (hu : AllU8 zs) :
    parseP (summed (pktH cmd apid count zs)) = ⟨cmd, apid, count, zs, 0⟩ := by
  have hH := pktH_u8 (cmd := cmd) ha hc h2 hu
  have hcl := crc_lt hH
  have hl := pktH_len cmd apid count zs
  have hsl := summed_len (pktH cmd apid count zs)
  have hrg := hdr_rng cmd ha
  have g0 : (summed (pktH cmd apid count zs)).getD 0 0 = hdr cmd apid / 256 := rfl
  have g1 : (summed (pktH cmd apid count zs)).getD 1 0 = hdr cmd apid % 256 := rfl
  have g2 : (summed (pktH cmd apid count zs)).getD 2 0 = (49152 + count) / 256 := rfl
  have g3 : (summed (pktH cmd apid count zs)).getD 3 0 = (49152 + count) % 256 := rfl
  have g4 : (summed (pktH cmd apid count zs)).getD 4 0 = ((zs.length : Int) + 2 - 1) / 256 := rfl
  have g5 : (summed (pktH cmd apid count zs)).getD 5 0 = ((zs.length : Int) + 2 - 1) % 256 := rfl
  have e1 : hd1 (summed (pktH cmd apid count zs)) = hdr cmd apid := by unfold hd1; rw [g0, g1]; omega
  have e2 : hd2 (summed (pktH cmd apid count zs)) = 49152 + count := by unfold hd2; rw [g2, g3]; omega
  have e3 : sizeOfP (summed (pktH cmd apid count zs)) = zs.length + 8 := by unfold sizeOfP; rw [g4, g5]; omega
  have ht : (summed (pktH cmd apid count zs)).take ((summed (pktH cmd apid count zs)).length - 2) = pktH cmd apid count zs := by
    rw [hsl, Nat.add_sub_cancel]
    unfold summed
    rw [List.take_left']
    rfl
  have ga : (summed (pktH cmd apid count zs)).getD ((summed (pktH cmd apid count zs)).length - 2) 0 = (crc (pktH cmd apid count zs) : Int) / 256 := by
    rw [hsl, Nat.add_sub_cancel]
    simp [summed, be2, List.getD]
  have gb : (summed (pktH cmd apid count zs)).getD ((summed (pktH cmd apid count zs)).length - 1) 0 = (crc (pktH cmd apid count zs) : Int) % 256 := by
    rw [hsl, show (pktH cmd apid count zs).length + 2 - 1 = (pktH cmd apid count zs).length + 1 by omega]
    simp [summed, be2, List.getD]
  have hR : rightB (summed (pktH cmd apid count zs)) := by
    unfold rightB
    rw [ht, ga, gb]
    omega
  have hh : hdr cmd apid % 2048 = apid ∧ hdr cmd apid - hdr cmd apid % 2048 - hdr cmd apid / 4096 % 2 * 4096 = 2048 ∧ decide (hdr cmd apid / 4096 % 2 * 4096 ≠ 0) = cmd := by
    cases cmd
    · simp only [hdr]; exact ⟨by omega, by omega, decide_eq_false (by omega)⟩
    · simp only [hdr]; exact ⟨by omega, by omega, decide_eq_true (by omega)⟩
  unfold parseP
  rw [e1, e2, e3, ht]
  rw [if_neg (by omega), if_neg (not_not_intro hR), if_neg (by omega), if_neg (by omega), hh.1]
  have hd : (pktH cmd apid count zs).drop 6 = zs := by
    unfold pktH
    rw [List.drop_left']
    rfl
  rw [hd, show (49152 + count) % 16384 = count by omega, hh.2.2]
theorem parse_cmd {a s b r : Int} {zs : List Int} (ha : 0 ≤ a ∧ a < 16) (hr : U16 r) (h2 : zs.length + 5 ≤ 200) : parseC (cmdB a s b r zs) = ⟨a, s, b, r, zs, 0⟩ := by
  unfold U16 at hr
  unfold cmdB
  rw [if_neg (by omega), if_neg (by omega)]
  have hl : ([32 + a, s, b, r / 256, r % 256] ++ zs).length = zs.length + 5 := by simp
  have g0 : ([32 + a, s, b, r / 256, r % 256] ++ zs).getD 0 0 = 32 + a := rfl
  unfold parseC
  rw [hl, g0, if_neg (by omega), if_neg (by omega)]
  have e1 : (32 + a) % 16 = a := by omega
  have e2 : r / 256 * 256 + r % 256 = r := by omega
  show Cmd.mk ((32 + a) % 16) s b (r / 256 * 256 + r % 256) zs 0 = _
  rw [e1, e2]
theorem sendP_X (tag : Nat) (apid count : Int) (a s b r : Int) (h : Nat) (A : Option Addr) (n cp : Nat) (zs ps ys : List Int) (w : World) (hps : cmdB a s b r zs = ps) (hys : summed (pktH true apid count ps) = ys) (hap : 0 ≤ apid ∧ apid < 2048) (hco : 0 ≤ count ∧ count < 16384) (ha : 0 ≤ a ∧ a < 16) (hz : zs.length ≤ 150) (hs : U8 s) (hb : U8 b) (hrr : U16 r) (hr : IRow .u8 w A n zs) (hn0 : A = none → cp = 0) (hu : AllU8 zs) :
    RetX Try.prog 44 [u16 apid, u16 count, .agg [u8 a, u8 s, u8 b, u16 r, .sl h A n cp]] w [] (BRes tag ys 0) := by
  have key := send_X tag apid count a s b r h A n cp zs w (by unfold U16; omega) (by unfold U16; omega) (by unfold U8; omega) hs hb hrr hr hn0 (by rw [← hr.1]; omega) hu
  have e0 : cmdE a zs = 0 := by unfold cmdE; rw [if_neg (by omega), if_neg (by omega)]
  rw [e0, hps, sendB, if_pos rfl, sendR, if_pos rfl] at key
  have hl := cmdB_len a s b r zs
  rw [hps] at hl
  have ek : pktE apid count ps = 0 := by unfold pktE; rw [if_neg (by omega), if_neg (by omega)]
  rw [ek, (pktB_ok ek).1, hys] at key
  exact key
theorem set_u8 {zs : List Int} (hu : AllU8 zs) (i : Nat) {x : Int} (hx : U8 x) : AllU8 (zs.set i x) := by
  intro y hy
  rcases List.mem_or_eq_of_mem_set hy with h | rfl
  · exact hu y h
  · exact hx
theorem xor_8 {x y : Int} (hx : U8 x) (hy : U8 y) : ∃ z, bits .xor .u8 x y = z ∧ U8 z := by
  unfold U8 at hx hy
  obtain ⟨a, rfl⟩ : ∃ a : Nat, x = a := ⟨x.toNat, by omega⟩
  obtain ⟨b, rfl⟩ : ∃ b : Nat, y = b := ⟨y.toNat, by omega⟩
  refine ⟨_, xor_u8 (by omega) (by omega), ?_⟩
  have := Nat.xor_lt_two_pow (n := 8) (x := a) (y := b) (by omega) (by omega)
  unfold U8
  omega

/-- What is sent. -/
def sentB (apid count a s b r : Int) (zs : List Int) : List Int := summed (pktH true apid count (cmdB a s b r zs))
structure SentOk (apid count a s b r : Int) (zs : List Int) : Prop where
  ap : 0 ≤ apid ∧ apid < 2048
  co : 0 ≤ count ∧ count < 16384
  a : 0 ≤ a ∧ a < 16
  s : U8 s
  b : U8 b
  r : U16 r
  z : zs.length ≤ 150
  u : AllU8 zs
section
variable {apid count a s b r : Int} {zs : List Int} (h : SentOk apid count a s b r zs)
include h
theorem sent_cmd : (cmdB a s b r zs).length = zs.length + 5 ∧ AllU8 (cmdB a s b r zs) := by
  have ha := h.a
  have hz := h.z
  refine ⟨?_, cmdB_u8 (by unfold U8; omega) h.s h.b h.r h.u⟩
  unfold cmdB
  rw [if_neg (by omega), if_neg (by omega)]
  simp
theorem sent_parse : parseP (sentB apid count a s b r zs) = ⟨true, apid, count, cmdB a s b r zs, 0⟩ := by
  have h1 := sent_cmd h
  have hz := h.z
  exact parse_pkt h.ap h.co (by omega) (by omega) h1.2
theorem sent_len : (sentB apid count a s b r zs).length = zs.length + 13 := by
  have h1 := sent_cmd h
  unfold sentB
  rw [summed_len, pktH_len, h1.1]
theorem sent_u8 : AllU8 (sentB apid count a s b r zs) := by
  have h1 := sent_cmd h
  have hz := h.z
  exact summed_u8 (pktH_u8 (cmd := true) h.ap h.co (by omega) h1.2)
theorem sent_read (ap2 : Int) : readC (sentB apid count a s b r zs) ap2 = (if ap2 = apid then 0 else 1) ∧ readK (sentB apid count a s b r zs) ap2 = (if ap2 = apid then ⟨a, s, b, r, zs, 0⟩ else noCmd) := by
  have h1 := sent_parse h
  have h2 := sent_len h
  have hz := h.z
  have h3 := parse_cmd (b := b) (s := s) h.a h.r (show zs.length + 5 ≤ 200 by omega)
  unfold readK readC
  rw [h1]
  dsimp only
  rw [h3, if_neg (by omega), if_neg (by decide), if_neg (by decide)]
  dsimp only
  by_cases he : ap2 = apid
  · subst he
    rw [if_neg (by simp), if_neg (by simp), if_pos rfl, if_pos rfl, if_pos rfl]
    exact ⟨rfl, rfl⟩
  · rw [if_pos (.inr (fun e => he e.symm)), if_neg he, if_neg he, if_neg (by decide)]
    exact ⟨rfl, rfl⟩
theorem sent_long (x : Int) (ap2 : Int) : readC (sentB apid count a s b r zs ++ [x]) ap2 = 2 := by
  have h2 := sent_len h
  have h1 := sent_parse h
  have hs : sizeOfP (sentB apid count a s b r zs) = (sentB apid count a s b r zs).length := by
    unfold parseP at h1
    by_cases h4 : (sentB apid count a s b r zs).length < 9 ∨ sizeOfP (sentB apid count a s b r zs) ≠ (sentB apid count a s b r zs).length
    · rw [if_pos h4] at h1
      exact absurd (congrArg Pkt.e h1) (by show ¬ (_ : Int) = 0; decide)
    · exact Decidable.byContradiction fun e => h4 (.inr e)
  have hs2 : sizeOfP (sentB apid count a s b r zs ++ [x]) = sizeOfP (sentB apid count a s b r zs) := by
    unfold sizeOfP
    simp only [List.getD]
    rw [List.getElem?_append_left (by omega), List.getElem?_append_left (by omega)]
  have hp : parseP (sentB apid count a s b r zs ++ [x]) = ⟨false, 0, 0, [], 2⟩ := by
    unfold parseP
    rw [if_pos]
    right
    rw [hs2, hs, List.length_append, List.length_singleton]
    omega
  have hz := h.z
  unfold readC
  rw [hp, List.length_append, List.length_singleton, if_neg (by omega), if_neg (by decide), if_pos (by decide)]
/-- The last byte is another one. -/
theorem sent_bent (x : Int) (hx : x ≠ (sentB apid count a s b r zs).getD (zs.length + 12) 0) (ap2 : Int) : readC ((sentB apid count a s b r zs).set (zs.length + 12) x) ap2 = 3 := by
  have h2 := sent_len h
  have hz := h.z
  have h1 := sent_parse h
  have hs : sizeOfP (sentB apid count a s b r zs) = (sentB apid count a s b r zs).length ∧ rightB (sentB apid count a s b r zs) := by
    unfold parseP at h1
    by_cases h4 : (sentB apid count a s b r zs).length < 9 ∨ sizeOfP (sentB apid count a s b r zs) ≠ (sentB apid count a s b r zs).length
    · rw [if_pos h4] at h1
      exact absurd (congrArg Pkt.e h1) (by show ¬ (_ : Int) = 0; decide)
    · rw [if_neg h4] at h1
      by_cases h5 : rightB (sentB apid count a s b r zs)
      · exact ⟨Decidable.byContradiction fun e => h4 (.inr e), h5⟩
      · rw [if_pos h5] at h1
        exact absurd (congrArg Pkt.e h1) (by show ¬ (_ : Int) = 0; decide)
  generalize hps : sentB apid count a s b r zs = ps at *
  have hl : (ps.set (zs.length + 12) x).length = ps.length := by simp
  have hs2 : sizeOfP (ps.set (zs.length + 12) x) = sizeOfP ps := by
    unfold sizeOfP
    simp only [List.getD]
    rw [List.getElem?_set_ne (by omega), List.getElem?_set_ne (by omega)]
  have hR : ¬ rightB (ps.set (zs.length + 12) x) := by
    obtain ⟨_, hr1⟩ := hs.2
    rintro ⟨_, hr2⟩
    rw [hl, h2] at hr2
    rw [h2] at hr1
    rw [show zs.length + 13 - 2 = zs.length + 11 by omega, show zs.length + 13 - 1 = zs.length + 12 by omega] at hr1 hr2
    have e1 : (ps.set (zs.length + 12) x).take (zs.length + 11) = ps.take (zs.length + 11) := by
      rw [List.take_set_of_le (by omega)]
    have e2 : (ps.set (zs.length + 12) x).getD (zs.length + 11) 0 = ps.getD (zs.length + 11) 0 := by
      simp only [List.getD]
      rw [List.getElem?_set_ne (by omega)]
    have e3 : (ps.set (zs.length + 12) x).getD (zs.length + 12) 0 = x := by
      simp only [List.getD]
      rw [List.getElem?_set_self (by omega)]
      rfl
    rw [e1, e2, e3] at hr2
    omega
  have hp : parseP (ps.set (zs.length + 12) x) = ⟨false, 0, 0, [], 5⟩ := by
    unfold parseP
    rw [if_neg (by rw [hl, hs2]; omega), if_pos hR]
  unfold readC
  rw [hp, hl, if_neg (by omega), if_pos rfl]
end
theorem judge_E (tag : Nat) (h : Nat) (A : Option Addr) (n cp : Nat) (zs : List Int) (apid : Int) (mv : SV) (E : PE) (c i : Int) (k : Cmd) (w : World) (hc : judC E zs apid = c) (hi : idv zs = i) (hk : judK E zs apid = k) (hm : MapA w mv E) (hr : IRow .u8 w A n zs) (hn0 : A = none → cp = 0) (hle : n ≤ cp) (hn : n ≤ 1000000) (hu : AllU8 zs) :
    RetX Try.prog 51 [.sl h A n cp, u16 apid, mv] w [] (VRes tag c i k) := by subst hc hi hk; exact judge_X tag h A n cp zs apid mv E w hm hr hn0 hle hn hu
theorem mapA_at {w0 w : World} {S : List Nat} {mem : Mem} {b : Nat} {E : PE} (hl : Loc w0 S (denM mem) w) (hat : At (denM mem) (mapV b E)) : MapA w (.val (.map (some b))) E := .inl ⟨b, rfl, hl.holds _ hat.mem⟩
theorem jud_bad {E : PE} {zs : List Int} {apid c : Int} (h : readC zs apid = c) (hc : c ≠ 0) : judC E zs apid = c ∧ judK E zs apid = noCmd := by
  unfold judK judC
  rw [h, if_neg hc, if_neg hc]
  exact ⟨rfl, rfl⟩
theorem jud_good {E : PE} {zs : List Int} {apid c : Int} {k : Cmd} (h : readC zs apid = 0) (hk : readK zs apid = k) (hf : judF E k = c) : judC E zs apid = c ∧ judK E zs apid = if c = 0 then k else noCmd := by
  unfold judK judC
  rw [h, if_pos rfl, hk, hf]
  exact ⟨rfl, rfl⟩
/-! the example -/
def smp : List Int := sentB 3 1 0 17 1 0 []
theorem smp_ok : SentOk 3 1 0 17 1 0 [] := ⟨by decide, by decide, by decide, by decide, by decide, by decide, by decide, AllU8.nil⟩
theorem send_smp (tag : Nat) (w : World) : RetX Try.prog 44 [u16 3, u16 1, .agg [u8 0, u8 17, u8 1, u16 0, .sl 0 none 0 0]] w [] (BRes tag smp 0) :=
  sendP_X tag 3 1 0 17 1 0 0 none 0 0 [] _ smp w rfl rfl (by decide) (by decide) (by decide) (by decide) (by decide) (by decide) (by decide) (IRow.nil _ _ _) (fun _ => rfl) AllU8.nil
def smpE : PE := [((17, 1), (0, 0))]
theorem smp_good : judC smpE smp 3 = 0 ∧ judK smpE smp 3 = ⟨0, 17, 1, 0, [], 0⟩ := by
  have h := sent_read smp_ok 3
  exact jud_good (E := smpE) (c := 0) h.1 h.2 (by decide)
theorem smp_len : smp.length = 13 := rfl
theorem awake12_S (w : World) : RetS Try.prog 49 [] w (.lit true) := by
  obtain ⟨x, hx, hxu⟩ := xor_8 ((sent_u8 smp_ok).get 12) (show U8 1 by decide)
  have hx : bits .xor .u8 (smp.getD 12 0) 1 = x := hx
  have hxn : x ≠ smp.getD 12 0 := by
    rw [← hx]
    decide +kernel
  obtain ⟨U, hU⟩ : ∃ U, smp.set 12 x = U := ⟨_, rfl⟩
  have hUu : AllU8 U := by rw [← hU]; exact set_u8 (sent_u8 smp_ok) 12 hxu
  have hU1 : readC U 3 = 3 := by rw [← hU]; exact sent_bent smp_ok x hxn 3
  have hU2 := jud_bad (E := smpE) hU1 (by decide)
  have hU3 : idv U = idv smp := by rw [← hU]; rfl
  refine ret_x tab_ok Try.func49 rfl Try.ntmps49 (by rfl) ?_; simp only [argX, Nat.reduceAdd, Nat.zero_add]; conv => whnf
  repeat' (first | (refine run_c tab_ok ?_; conv => whnf) | (refine side_id ?_; refine side_i (by first | rfl | exact ⟨rfl, rfl, rfl, rfl⟩ | trivial | (simp [allOne, partsOne, Value.cells, Value.oneCell']; done) | fail) ?_; conv => whnf) | (refine ar_id ?_; first | (refine ar_in (by (first | (simp only [Int.reduceAdd, Int.reduceSub, Int.reduceMul, Int.reduceNeg, Int.reduceMod, Int.reduceDiv, Int.reduceTMod, Int.reduceTDiv, Int.zero_add, Int.add_zero] <;> rfl) | rfl)) (by (dsimp only [inR]; first | decide | omega)) ?_; conv => whnf)) | (refine new_i ?_; intro _; conv => whnf) | (refine br_id ?_; first | (refine br_t (by first | decide | omega | (with_reducible rfl) | fail | (simp only [cellEq, toB]; omega) | (simp only [cellEq, toB]; simp; done) | fail) ?_; conv => whnf) | (refine br_f (by first | decide | omega | (with_reducible exact Bool.false_ne_true) | (with_reducible refine not_not_intro ?_; fail) | (simp only [cellEq, toB]; omega) | (simp only [cellEq, toB]; simp; done) | fail) ?_; conv => whnf) | ((refine br_any (fun h => ?_) (fun h => ?_) <;> (try simp only [cellEq, toB, Bool.not_eq_true, Bool.not_eq_false] at h) <;> (try (exfalso; first | omega | contradiction | (simp at h; done) | fail); done) <;> conv => whnf))) | (refine ix_id ?_; first | (refine ix_lit (by first | decide | omega) (by (first | (simp only [Nat.zero_add, Nat.add_zero, Nat.mul_one, Nat.reduceAdd, Nat.reduceMul, Int.reduceToNat, Int.toNat_natCast, Int.toNat_zero, Int.toNat_one, Nat.zero_mul] <;> rfl) | rfl)) (by rfl) ?_; conv => whnf) | (refine ix_sym (by omega) ?_; conv => whnf)) | (refine lcall_id ?_; first | (refine lcall_mk (fun w' hloc => send_smp 801 w') ?_; (rintro _ _ mm ⟨A1, c1, rfl, rfl, hf1⟩ hmm; simp only [List.cons_append, List.nil_append] at hmm; subst hmm; conv => whnf)) | (refine lcall_mk (fun w' hloc => judge_E 802 _ _ _ _ smp 3 _ smpE 0 (idv smp) ⟨0, 17, 1, 0, [], 0⟩ w' smp_good.1 rfl smp_good.2 (mapA_at hloc (by (first | ((repeat (first | (with_reducible exact am_blk) | (with_reducible exact am_row) | (with_reducible exact am_blkV) | (with_reducible exact am_oth) | (with_reducible apply am_tail))); done) | ((repeat (first | exact am_row | exact am_blk | exact am_blkV | exact am_oth | apply am_tail)); done) | fail))) (row_irow hloc (by (first | ((repeat (first | (with_reducible exact am_blk) | (with_reducible exact am_row) | (with_reducible exact am_blkV) | (with_reducible exact am_oth) | (with_reducible apply am_tail))); done) | ((repeat (first | exact am_row | exact am_blk | exact am_blkV | exact am_oth | apply am_tail)); done) | fail))) hf1.2.1 hf1.1.1 (by decide) (sent_u8 smp_ok)) ?_; (rintro _ _ mm ⟨A2, c2, rfl, rfl, hf2⟩ hmm; simp only [List.cons_append, List.nil_append] at hmm; subst hmm; conv => whnf)) | (refine lcall_mk (fun w' hloc => judge_E 803 _ _ _ _ U 3 _ smpE 3 (idv smp) noCmd w' hU2.1 hU3 hU2.2 (mapA_at hloc (by (first | ((repeat (first | (with_reducible exact am_blk) | (with_reducible exact am_row) | (with_reducible exact am_blkV) | (with_reducible exact am_oth) | (with_reducible apply am_tail))); done) | ((repeat (first | exact am_row | exact am_blk | exact am_blkV | exact am_oth | apply am_tail)); done) | fail))) (row_irow hloc (by (first | ((repeat (first | (with_reducible exact am_blk) | (with_reducible exact am_row) | (with_reducible exact am_blkV) | (with_reducible exact am_oth) | (with_reducible apply am_tail))); done) | ((repeat (first | exact am_row | exact am_blk | exact am_blkV | exact am_oth | apply am_tail)); done) | fail))) hf1.2.1 hf1.1.1 (by decide) hUu) ?_; (rintro _ _ mm ⟨A3, c3, rfl, rfl, hf3⟩ hmm; simp only [List.cons_append, List.nil_append] at hmm; subst hmm; conv => whnf))) | (refine lload_id ?_; first | ((refine load_rowI hAb (by (first | ((repeat (first | (with_reducible exact am_blk) | (with_reducible exact am_row) | (with_reducible exact am_blkV) | (with_reducible exact am_oth) | (with_reducible apply am_tail))); done) | ((repeat (first | exact am_row | exact am_blk | exact am_blkV | exact am_oth | apply am_tail)); done) | fail)) (show ((smp.length : Int) - 1).toNat = 12 from rfl) (by decide) ?_; conv => whnf)) | (refine load_old _ (by with_reducible assumption) (by simp; done) ?_; conv => whnf)) | (refine lixs_id ?_; (refine ixs_row (fun _ => hf1.2.2 (by decide)) (by decide) ?_; intro bb hAb; conv => whnf)) | (refine ex_id ?_; first | ((with_reducible refine ex_z hx ?_; conv => whnf)) | (refine ex_z (by (first | (simp only [Int.reduceAdd, Int.reduceSub, Int.reduceMul, Int.reduceNeg, Int.reduceMod, Int.reduceDiv, Int.reduceTMod, Int.reduceTDiv, Int.zero_add, Int.add_zero] <;> rfl) | rfl)) ?_; conv => whnf)) | (refine sh_id ?_; first | (refine sh_z (by omega) (by (first | (simp only [Int.reduceAdd, Int.reduceSub, Int.reduceMul, Int.reduceNeg, Int.reduceMod, Int.reduceDiv, Int.reduceTMod, Int.reduceTDiv, Int.zero_add, Int.add_zero] <;> rfl) | rfl)) ?_; conv => whnf)) | (refine quo_id ?_; first | (refine quo_in (by omega) (by (first | (simp only [Int.reduceAdd, Int.reduceSub, Int.reduceMul, Int.reduceNeg, Int.reduceMod, Int.reduceDiv, Int.reduceTMod, Int.reduceTDiv, Int.zero_add, Int.add_zero] <;> rfl) | rfl)) (by (dsimp only [inR]; first | decide | omega)) ?_; conv => whnf) | (refine quo_t (by omega) (by (dsimp only [inR]; first | decide | omega)) ?_; conv => whnf)) | (refine rem_id ?_; first | (refine rem_in (by omega) (by (first | (simp only [Int.reduceAdd, Int.reduceSub, Int.reduceMul, Int.reduceNeg, Int.reduceMod, Int.reduceDiv, Int.reduceTMod, Int.reduceTDiv, Int.zero_add, Int.add_zero] <;> rfl) | rfl)) ?_; conv => whnf) | (refine rem_t (by omega) ?_; conv => whnf)) | (refine app_id ?_; refine app_i (by (first | (simp only [Nat.zero_add, Nat.add_zero, Nat.mul_one, Nat.reduceAdd, Nat.reduceMul, Int.reduceToNat, Int.toNat_natCast, Int.toNat_zero, Int.toNat_one, Nat.zero_mul] <;> rfl) | rfl)) (by (first | (simp only [List.nil_append, List.cons_append, List.append_nil] <;> rfl) | rfl)) (by first | omega | (change _ * 1 ≤ _; omega) | (change _ * 8 ≤ _; omega) | (change _ * 2 ≤ _; omega) | (change _ * 4 ≤ _; omega) | (change _ * 16 ≤ _; omega) | (change _ * 24 ≤ _; omega) | (change _ * 32 ≤ _; omega) | (change _ * 40 ≤ _; omega)) (by first | omega | decide) ?_; intro _ _ _; conv => whnf) | (refine mk_id ?_; first | (refine mk_lit (by rfl) (by rfl) (by decide) (by rfl) ?_; conv => whnf) | (refine mk_sym _ (by first | rfl | omega) (by first | rfl | omega) (by omega) (by omega) ?_; conv => whnf)) | (refine eff_id ?_; first | (refine eff_makeMap (ik := .u8) (k1 := .i64) (k2 := .i64) ?_; intro bm; conv => whnf) | (refine eff_ins (h := 11) mapT (17, 1) (0, 0) (by rfl) (by rfl) (by rfl) (by rfl) (by rfl) (by rfl) (by rfl) (by rfl) (by rfl) ?_; conv => whnf) | (refine eff_stI (h := 801) (j := 12) (z := x) (by rfl) hAb (by rfl) (by rfl) (by rfl) (by rfl) (by decide) hU (by rfl) (by rfl) ?_; conv => whnf)) | (refine x_rnd ?_) | (refine x_rnd' ?_))
  all_goals (
    (refine fin_ret ?_)
    first | rfl | (trace_state; sorry))
end Go.Proofs.Ytpblllkkcpahgaa
