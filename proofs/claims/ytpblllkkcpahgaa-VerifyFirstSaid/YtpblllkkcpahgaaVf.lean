/- Layer 12 (verify): of a packet with several faults the one that stands first is told. -/
import Derived.Test.YtpblllkkcpahgaaVc
import Derived.Test.YtpblllkkcpahgaaGv
namespace Go.Proofs.Ytpblllkkcpahgaa
set_option linter.unusedSimpArgs false
set_option linter.unusedVariables false
set_option linter.unnecessarySimpa false
set_option maxRecDepth 100000
set_option maxHeartbeats 16000000
open Go.RowKit

theorem long_read {ps : List Int} (hs : sizeOfP ps = ps.length) (h6 : 6 ≤ ps.length) (hl : ps.length + 1 ≤ 208) (x ap2 : Int) : readC (ps ++ [x]) ap2 = 2 := by
  have hs2 : sizeOfP (ps ++ [x]) = sizeOfP ps := by
    unfold sizeOfP
    simp only [List.getD]
    rw [List.getElem?_append_left (by omega), List.getElem?_append_left (by omega)]
  have hp : parseP (ps ++ [x]) = ⟨false, 0, 0, [], 2⟩ := by
    unfold parseP
    rw [if_pos]
    right
    rw [hs2, hs, List.length_append, List.length_singleton]
    omega
  unfold readC
  rw [hp, List.length_append, List.length_singleton, if_neg (by omega), if_neg (by decide), if_pos (by decide)]
theorem sent_size {apid count a s b r : Int} {zs : List Int} (h : SentOk apid count a s b r zs) : sizeOfP (sentB apid count a s b r zs) = (sentB apid count a s b r zs).length := by
  have h1 := sent_parse h
  unfold parseP at h1
  by_cases h4 : (sentB apid count a s b r zs).length < 9 ∨ sizeOfP (sentB apid count a s b r zs) ≠ (sentB apid count a s b r zs).length
  · rw [if_pos h4] at h1
    exact absurd (congrArg Pkt.e h1) (by show ¬ (_ : Int) = 0; decide)
  · exact Decidable.byContradiction fun e => h4 (.inr e)
theorem size_set {ps : List Int} {i : Nat} (x : Int) (h : 6 ≤ i) : sizeOfP (ps.set i x) = sizeOfP ps := by
  unfold sizeOfP
  simp only [List.getD]
  rw [List.getElem?_set_ne (by omega), List.getElem?_set_ne (by omega)]
theorem xor_ne {x : Int} (hx : 0 ≤ x ∧ x < 256) : bits .xor .u8 x 1 ≠ x := by
  have key : ∀ n : Fin 256, bits .xor .u8 (n.val : Int) 1 ≠ (n.val : Int) := by decide +kernel
  have := key ⟨x.toNat, by omega⟩
  rw [show ((⟨x.toNat, by omega⟩ : Fin 256).val : Int) = x by show (x.toNat : Int) = x; omega] at this
  exact this
/-- The tables. -/
def eOne (p v : Int × Int) : PE := [(p, v)]
theorem one_get (p v q : Int × Int) : getE (eOne p v) q = if q = p then some v else none := by
  unfold getE eOne
  by_cases h : q = p
  · simp [h]
  · simp [h]
theorem one_known (p v : Int × Int) (t : Int) : knownE (eOne p v) t = decide (p.1 = t) := by simp [knownE, eOne]
theorem f_0 (a s b r : Int) (zs : List Int) : judF (eOne (s, b) ((zs.length : Int), (zs.length : Int))) ⟨a, s, b, r, zs, 0⟩ = 0 := by
  unfold judF
  dsimp only
  rw [one_get, if_pos rfl]
  dsimp only
  rw [if_neg (by omega)]
theorem f_6 (a s b r : Int) (zs : List Int) : judF (eOne (s, b) ((zs.length : Int) + 1, (zs.length : Int) + 2)) ⟨a, s, b, r, zs, 0⟩ = 6 := by
  unfold judF
  dsimp only
  rw [one_get, if_pos rfl]
  dsimp only
  rw [if_pos (by omega)]
theorem f_5 (a s b r : Int) (zs : List Int) (hb : 0 ≤ b ∧ b < 256) : judF (eOne (s, (b + 1) % 256) (0, 0)) ⟨a, s, b, r, zs, 0⟩ = 5 := by
  unfold judF
  dsimp only
  rw [one_get, if_neg (fun e => by have : b = (b + 1) % 256 := congrArg Prod.snd e; omega)]
  dsimp only
  rw [one_known, if_pos (by simp)]
theorem f_4 (a s b r : Int) (zs : List Int) (hs : 0 ≤ s ∧ s < 256) : judF (eOne ((s + 1) % 256, b) (0, 0)) ⟨a, s, b, r, zs, 0⟩ = 4 := by
  unfold judF
  dsimp only
  rw [one_get, if_neg (fun e => by have : s = (s + 1) % 256 := congrArg Prod.fst e; omega)]
  dsimp only
  rw [one_known, if_neg (by simp; omega)]
section
variable {P : Program} {N : FN} {w0 : World} {S : List Nat} {km mem : Mem} {fs : Fr} {t k e : TypeId} {ik k1 k2 : IntKind} {m x y : Operand} {ty : TypeId} {pos : String} {aft : Array Edge} {gd : Option (Nat × Bool)} {X : SV → Mem → Prop} {b h : Nat} {E E' : PE} {mv : SV}
theorem eff_insW {mem' : Mem} (H : MapT P t k e ik k1 k2) (key v : Int × Int) (hE : putE E key v = E') (hm : opx fs m = some mv) (hmd : mv.den = .map (some b)) {xv yv : SV} (hx : opx fs x = some xv) (hxd : xv.den = pV ik ik key) (hy : opx fs y = some yv) (hyd : yv.den = pV k1 k2 v)
    (hf : findB mem h = some (.oth h (mapI ik k1 k2 b E))) (hu : updB mem h (.oth h (mapI ik k1 k2 b E')) = some mem') (hn : noTag km h = true) (nx : X (.val undef) mem') : LEff P N w0 S km ⟨none, .insert t m x y, ty, pos, aft, gd⟩ fs mem X := by subst hE; exact eff_ins H key v hm hmd hx hxd hy hyd hf hu hn nx
theorem eff_updW {mem' : Mem} (H : MapT P t k e ik k1 k2) (key v : Int × Int) (hE : putE E key v = E') (hm : opx fs m = some mv) (hmd : mv.den = .map (some b)) {xv yv : SV} (hx : opx fs x = some xv) (hxd : xv.den = pV ik ik key) (hy : opx fs y = some yv) (hyd : yv.den = pV k1 k2 v)
    (hf : findB mem h = some (.oth h (mapI ik k1 k2 b E))) (hu : updB mem h (.oth h (mapI ik k1 k2 b E')) = some mem') (hn : noTag km h = true) (nx : X (.val undef) mem') : LEff P N w0 S km ⟨none, .mapUpdate t m x y, ty, pos, aft, gd⟩ fs mem X := by subst hE; exact eff_upd H key v hm hmd hx hxd hy hyd hf hu hn nx
end
theorem verifyFirst_ret (a s b r : Int) (h : Nat) (A : Option Addr) (n cp : Nat) (zs0 : List Int) (apid faults : Int) (w : World) (ha : U8 a) (hs : U8 s) (hb : U8 b) (hrr : U16 r) (hr : IRow .u8 w A n zs0) (hu : AllU8 zs0) (hn : n ≤ 9223372036854775807) (hap : U16 apid) (hfa : U8 faults) :
    RetS Try.prog 13 [.agg [u8 a, u8 s, u8 b, u16 r, .sl h A n cp], u16 apid, u8 faults] w (.lit true) := by
  have hl1 : (zs0.take 20).length ≤ 20 := by rw [List.length_take]; exact Nat.min_le_left _ _
  have ha1 := ha
  have hb1 := hb
  have hap1 := hap
  have hs1 := hs
  have hf0 := hfa
  unfold U8 at ha1 hb1 hs1 hf0
  unfold U16 at hap1
  have hok : SentOk (apid % 1000) 0 (a % 16) s b r (zs0.take 20) := ⟨by omega, by decide, by omega, hs, hb, hrr, by omega, hu.take _⟩
  obtain ⟨ps, hps⟩ : ∃ ps, sentB (apid % 1000) 0 (a % 16) s b r (zs0.take 20) = ps := ⟨_, rfl⟩
  have hpl := sent_len hok
  have hpu := sent_u8 hok
  have hrd := sent_read hok (apid % 1000)
  have hap2 := (sent_read hok (apid % 1000 + 1)).1
  have hsz := sent_size hok
  have hbt := fun x hx ap2 => sent_bent hok x hx ap2
  rw [hps] at hpl hpu hrd hap2 hsz hbt
  rw [if_pos rfl, if_pos rfl] at hrd
  rw [if_neg (by omega)] at hap2
  obtain ⟨x, hx, hxu⟩ := xor_8 (hpu.get ((zs0.take 20).length + 12)) (show U8 1 by decide)
  have hxn : x ≠ ps.getD ((zs0.take 20).length + 12) 0 := by
    rw [← hx]
    exact xor_ne (hpu.get _)
  obtain ⟨U, hU⟩ : ∃ U, ps.set ((zs0.take 20).length + 12) x = U := ⟨_, rfl⟩
  have hUl : U.length = ps.length := by rw [← hU]; simp
  have hUu : AllU8 U := by rw [← hU]; exact set_u8 hpu _ hxu
  have hbU := fun ap2 => hbt x hxn ap2
  rw [hU] at hbU
  have hUs : sizeOfP U = U.length := by rw [hUl, ← hsz, ← hU]; exact size_set x (by omega)
  have h0u : AllU8 [0] := AllU8.cons (by decide) AllU8.nil
  have hlp := fun ap2 => long_read hsz (by omega) (by omega) 0 ap2
  have hlU := fun ap2 => long_read hUs (by omega) (by omega) 0 ap2
  obtain ⟨E0, hE0⟩ : ∃ E, putE [] (s, b) (((zs0.take 20).length : Int), ((zs0.take 20).length : Int)) = E := ⟨_, rfl⟩
  obtain ⟨E6, hE6⟩ : ∃ E, putE E0 (s, b) (((zs0.take 20).length : Int) + 1, ((zs0.take 20).length : Int) + 2) = E := ⟨_, rfl⟩
  obtain ⟨E5, hE5⟩ : ∃ E, putE [] (s, (b + 1) % 256) (0, 0) = E := ⟨_, rfl⟩
  obtain ⟨E4, hE4⟩ : ∃ E, putE [] ((s + 1) % 256, b) (0, 0) = E := ⟨_, rfl⟩
  have hj0 : judC E0 ps (apid % 1000) = 0 ∧ judK E0 ps (apid % 1000) = ⟨a % 16, s, b, r, zs0.take 20, 0⟩ := by rw [← hE0]; exact jud_good hrd.1 hrd.2 (f_0 _ _ _ _ _)
  have hj6 : judC E6 ps (apid % 1000) = 6 ∧ judK E6 ps (apid % 1000) = noCmd := by
    have e : E6 = eOne (s, b) (((zs0.take 20).length : Int) + 1, ((zs0.take 20).length : Int) + 2) := by rw [← hE6, ← hE0]; simp [putE, eOne]
    rw [e]; exact jud_good hrd.1 hrd.2 (f_6 _ _ _ _ _)
  have hj5 : judC E5 ps (apid % 1000) = 5 ∧ judK E5 ps (apid % 1000) = noCmd := by rw [← hE5]; exact jud_good hrd.1 hrd.2 (f_5 _ _ _ _ _ hb1)
  have hj4 : judC E4 ps (apid % 1000) = 4 ∧ judK E4 ps (apid % 1000) = noCmd := by rw [← hE4]; exact jud_good hrd.1 hrd.2 (f_4 _ _ _ _ _ hs1)
  refine ret_x tab_ok Try.func13 rfl Try.ntmps13 (by rfl) ?_; simp only [argX, Nat.reduceAdd, Nat.zero_add]; conv => whnf
  repeat' (first | ((refine app_id ?_; first | (refine app_i (nm := ps.length + 1) (zs := (ps ++ [0]).map (Value.int .u8)) (by omega) (by first | (simp [dens, SV.den]; done) | fail) (by first | omega | (change _ * 1 ≤ _; omega) | (change _ * 8 ≤ _; omega) | (change _ * 2 ≤ _; omega) | (change _ * 4 ≤ _; omega) | (change _ * 16 ≤ _; omega) | (change _ * 24 ≤ _; omega) | (change _ * 32 ≤ _; omega) | (change _ * 40 ≤ _; omega)) (by decide) ?_; intro A7 c7 hf7; conv => whnf) | (refine app_i (nm := ps.length + 1) (zs := (U ++ [0]).map (Value.int .u8)) (by omega) (by first | (simp [dens, SV.den]; done) | fail) (by first | omega | (change _ * 1 ≤ _; omega) | (change _ * 8 ≤ _; omega) | (change _ * 2 ≤ _; omega) | (change _ * 4 ≤ _; omega) | (change _ * 16 ≤ _; omega) | (change _ * 24 ≤ _; omega) | (change _ * 32 ≤ _; omega) | (change _ * 40 ≤ _; omega)) (by decide) ?_; intro A7 c7 hf7; conv => whnf))) | (refine run_c tab_ok ?_; conv => whnf) | (refine side_id ?_; refine side_i (by first | rfl | exact ⟨rfl, rfl, rfl, rfl⟩ | trivial | (simp [allOne, partsOne, Value.cells, Value.oneCell']; done) | fail) ?_; conv => whnf) | (refine ar_id ?_; first | (refine ar_in (by (first | (simp only [Int.reduceAdd, Int.reduceSub, Int.reduceMul, Int.reduceNeg, Int.reduceMod, Int.reduceDiv, Int.reduceTMod, Int.reduceTDiv, Int.zero_add, Int.add_zero] <;> rfl) | rfl)) (by (dsimp only [inR]; first | decide | omega)) ?_; conv => whnf) | ((refine ar_u8 ?_; conv => whnf))) | (refine new_i ?_; intro _; conv => whnf) | (refine br_id ?_; first | (refine br_t (by first | decide | omega | (with_reducible rfl) | fail | (simp only [cellEq, toB]; omega) | (simp only [cellEq, toB]; simp; done) | fail) ?_; conv => whnf) | (refine br_f (by first | decide | omega | (with_reducible exact Bool.false_ne_true) | (with_reducible refine not_not_intro ?_; fail) | (simp only [cellEq, toB]; omega) | (simp only [cellEq, toB]; simp; done) | fail) ?_; conv => whnf) | ((refine br_any (fun h => ?_) (fun h => ?_) <;> (try simp only [cellEq, toB, Bool.not_eq_true, Bool.not_eq_false] at h) <;> (try (exfalso; first | omega | contradiction | (simp at h; done) | fail); done) <;> conv => whnf))) | (refine ix_id ?_; first | (refine ix_lit (by first | decide | omega) (by (first | (simp only [Nat.zero_add, Nat.add_zero, Nat.mul_one, Nat.reduceAdd, Nat.reduceMul, Int.reduceToNat, Int.toNat_natCast, Int.toNat_zero, Int.toNat_one, Nat.zero_mul] <;> rfl) | rfl)) (by rfl) ?_; conv => whnf) | (refine ix_sym (by omega) ?_; conv => whnf)) | (refine lcall_id ?_; first | (refine lcall_ret (fun w' hloc => awake12_S w') ?_; conv => whnf) | (refine lcall_mk (fun w' hloc => cut_N 901 _ _ _ _ zs0 20 w' (irow_loc hr hloc) hn (by decide)) ?_; (rintro _ _ mm ⟨A1, c1, rfl, rfl, hf1⟩ hmm; simp only [List.cons_append, List.nil_append] at hmm; subst hmm; conv => whnf)) | (refine lcall_mk (fun w' hloc => sendP_X 902 (apid % 1000) 0 (a % 16) s b r _ _ _ _ (zs0.take 20) _ ps w' rfl hps hok.ap hok.co hok.a (by omega) hs hb hrr (row_irow hloc (by (first | ((repeat (first | (with_reducible exact am_blk) | (with_reducible exact am_row) | (with_reducible exact am_blkV) | (with_reducible exact am_oth) | (with_reducible apply am_tail))); done) | ((repeat (first | exact am_row | exact am_blk | exact am_blkV | exact am_oth | apply am_tail)); done) | fail))) hf1.2.1 (hu.take _)) ?_; (rintro _ _ mm ⟨A2, c2, rfl, rfl, hf2⟩ hmm; simp only [List.cons_append, List.nil_append] at hmm; subst hmm; conv => whnf)) | (refine lcall_ret (fun w' hloc => same_E _ _ _ _ _ _ _ _ (zs0.take 20) w' (row_irow hloc (by (first | ((repeat (first | (with_reducible exact am_blk) | (with_reducible exact am_row) | (with_reducible exact am_blkV) | (with_reducible exact am_oth) | (with_reducible apply am_tail))); done) | ((repeat (first | exact am_row | exact am_blk | exact am_blkV | exact am_oth | apply am_tail)); done) | fail))) (row_irow hloc (by (first | ((repeat (first | (with_reducible exact am_blk) | (with_reducible exact am_row) | (with_reducible exact am_blkV) | (with_reducible exact am_oth) | (with_reducible apply am_tail))); done) | ((repeat (first | exact am_row | exact am_blk | exact am_blkV | exact am_oth | apply am_tail)); done) | fail))) (by show (zs0.take 20).length ≤ _; omega) (by first | omega | (show (zs0.take 20).length ≤ _; omega))) ?_; conv => whnf) | (refine lcall_mk (fun w' hloc => judge_E 905 _ _ _ _ (U ++ [0]) _ _ _ 2 _ noCmd w' (jud_bad (hlU _) (by decide)).1 rfl (jud_bad (hlU _) (by decide)).2 (mapA_at hloc (by (first | ((repeat (first | (with_reducible exact am_blk) | (with_reducible exact am_row) | (with_reducible exact am_blkV) | (with_reducible exact am_oth) | (with_reducible apply am_tail))); done) | ((repeat (first | exact am_row | exact am_blk | exact am_blkV | exact am_oth | apply am_tail)); done) | fail))) (row_irow hloc (by (first | ((repeat (first | (with_reducible exact am_blk) | (with_reducible exact am_row) | (with_reducible exact am_blkV) | (with_reducible exact am_oth) | (with_reducible apply am_tail))); done) | ((repeat (first | exact am_row | exact am_blk | exact am_blkV | exact am_oth | apply am_tail)); done) | fail))) hf7.2.1 hf7.1.1 (by omega) (hUu.append h0u)) ?_; (rintro _ _ mm ⟨A5, c5, rfl, rfl, hf5⟩ hmm; simp only [List.cons_append, List.nil_append] at hmm; subst hmm; conv => whnf)) | (refine lcall_mk (fun w' hloc => judge_E 905 _ _ _ _ (ps ++ [0]) _ _ _ 2 _ noCmd w' (jud_bad (hlp _) (by decide)).1 rfl (jud_bad (hlp _) (by decide)).2 (mapA_at hloc (by (first | ((repeat (first | (with_reducible exact am_blk) | (with_reducible exact am_row) | (with_reducible exact am_blkV) | (with_reducible exact am_oth) | (with_reducible apply am_tail))); done) | ((repeat (first | exact am_row | exact am_blk | exact am_blkV | exact am_oth | apply am_tail)); done) | fail))) (row_irow hloc (by (first | ((repeat (first | (with_reducible exact am_blk) | (with_reducible exact am_row) | (with_reducible exact am_blkV) | (with_reducible exact am_oth) | (with_reducible apply am_tail))); done) | ((repeat (first | exact am_row | exact am_blk | exact am_blkV | exact am_oth | apply am_tail)); done) | fail))) hf7.2.1 hf7.1.1 (by omega) (hpu.append h0u)) ?_; (rintro _ _ mm ⟨A5, c5, rfl, rfl, hf5⟩ hmm; simp only [List.cons_append, List.nil_append] at hmm; subst hmm; conv => whnf)) | (refine lcall_mk (fun w' hloc => judge_E 905 _ _ _ _ U _ _ _ 3 _ noCmd w' (jud_bad (hbU _) (by decide)).1 rfl (jud_bad (hbU _) (by decide)).2 (mapA_at hloc (by (first | ((repeat (first | (with_reducible exact am_blk) | (with_reducible exact am_row) | (with_reducible exact am_blkV) | (with_reducible exact am_oth) | (with_reducible apply am_tail))); done) | ((repeat (first | exact am_row | exact am_blk | exact am_blkV | exact am_oth | apply am_tail)); done) | fail))) (row_irow hloc (by (first | ((repeat (first | (with_reducible exact am_blk) | (with_reducible exact am_row) | (with_reducible exact am_blkV) | (with_reducible exact am_oth) | (with_reducible apply am_tail))); done) | ((repeat (first | exact am_row | exact am_blk | exact am_blkV | exact am_oth | apply am_tail)); done) | fail))) hf2.2.1 (by have := hf2.1.1; omega) (by omega) hUu) ?_; (rintro _ _ mm ⟨A5, c5, rfl, rfl, hf5⟩ hmm; simp only [List.cons_append, List.nil_append] at hmm; subst hmm; conv => whnf)) | (refine lcall_mk (fun w' hloc => judge_E 905 _ _ _ _ ps (apid % 1000 + 1) _ _ 1 _ noCmd w' (jud_bad hap2 (by decide)).1 rfl (jud_bad hap2 (by decide)).2 (mapA_at hloc (by (first | ((repeat (first | (with_reducible exact am_blk) | (with_reducible exact am_row) | (with_reducible exact am_blkV) | (with_reducible exact am_oth) | (with_reducible apply am_tail))); done) | ((repeat (first | exact am_row | exact am_blk | exact am_blkV | exact am_oth | apply am_tail)); done) | fail))) (row_irow hloc (by (first | ((repeat (first | (with_reducible exact am_blk) | (with_reducible exact am_row) | (with_reducible exact am_blkV) | (with_reducible exact am_oth) | (with_reducible apply am_tail))); done) | ((repeat (first | exact am_row | exact am_blk | exact am_blkV | exact am_oth | apply am_tail)); done) | fail))) hf2.2.1 (by have := hf2.1.1; omega) (by omega) hpu) ?_; (rintro _ _ mm ⟨A5, c5, rfl, rfl, hf5⟩ hmm; simp only [List.cons_append, List.nil_append] at hmm; subst hmm; conv => whnf)) | (refine lcall_mk (fun w' hloc => judge_E 905 _ _ _ _ ps (apid % 1000) _ E0 0 _ ⟨a % 16, s, b, r, zs0.take 20, 0⟩ w' hj0.1 rfl hj0.2 (mapA_at hloc (by (first | ((repeat (first | (with_reducible exact am_blk) | (with_reducible exact am_row) | (with_reducible exact am_blkV) | (with_reducible exact am_oth) | (with_reducible apply am_tail))); done) | ((repeat (first | exact am_row | exact am_blk | exact am_blkV | exact am_oth | apply am_tail)); done) | fail))) (row_irow hloc (by (first | ((repeat (first | (with_reducible exact am_blk) | (with_reducible exact am_row) | (with_reducible exact am_blkV) | (with_reducible exact am_oth) | (with_reducible apply am_tail))); done) | ((repeat (first | exact am_row | exact am_blk | exact am_blkV | exact am_oth | apply am_tail)); done) | fail))) hf2.2.1 (by have := hf2.1.1; omega) (by omega) hpu) ?_; (rintro _ _ mm ⟨A5, c5, rfl, rfl, hf5⟩ hmm; simp only [List.cons_append, List.nil_append] at hmm; subst hmm; conv => whnf)) | (refine lcall_mk (fun w' hloc => judge_E 905 _ _ _ _ ps (apid % 1000) _ E6 6 _ noCmd w' hj6.1 rfl hj6.2 (mapA_at hloc (by (first | ((repeat (first | (with_reducible exact am_blk) | (with_reducible exact am_row) | (with_reducible exact am_blkV) | (with_reducible exact am_oth) | (with_reducible apply am_tail))); done) | ((repeat (first | exact am_row | exact am_blk | exact am_blkV | exact am_oth | apply am_tail)); done) | fail))) (row_irow hloc (by (first | ((repeat (first | (with_reducible exact am_blk) | (with_reducible exact am_row) | (with_reducible exact am_blkV) | (with_reducible exact am_oth) | (with_reducible apply am_tail))); done) | ((repeat (first | exact am_row | exact am_blk | exact am_blkV | exact am_oth | apply am_tail)); done) | fail))) hf2.2.1 (by have := hf2.1.1; omega) (by omega) hpu) ?_; (rintro _ _ mm ⟨A5, c5, rfl, rfl, hf5⟩ hmm; simp only [List.cons_append, List.nil_append] at hmm; subst hmm; conv => whnf)) | (refine lcall_mk (fun w' hloc => judge_E 905 _ _ _ _ ps (apid % 1000) _ E5 5 _ noCmd w' hj5.1 rfl hj5.2 (mapA_at hloc (by (first | ((repeat (first | (with_reducible exact am_blk) | (with_reducible exact am_row) | (with_reducible exact am_blkV) | (with_reducible exact am_oth) | (with_reducible apply am_tail))); done) | ((repeat (first | exact am_row | exact am_blk | exact am_blkV | exact am_oth | apply am_tail)); done) | fail))) (row_irow hloc (by (first | ((repeat (first | (with_reducible exact am_blk) | (with_reducible exact am_row) | (with_reducible exact am_blkV) | (with_reducible exact am_oth) | (with_reducible apply am_tail))); done) | ((repeat (first | exact am_row | exact am_blk | exact am_blkV | exact am_oth | apply am_tail)); done) | fail))) hf2.2.1 (by have := hf2.1.1; omega) (by omega) hpu) ?_; (rintro _ _ mm ⟨A5, c5, rfl, rfl, hf5⟩ hmm; simp only [List.cons_append, List.nil_append] at hmm; subst hmm; conv => whnf)) | (refine lcall_mk (fun w' hloc => judge_E 905 _ _ _ _ ps (apid % 1000) _ E4 4 _ noCmd w' hj4.1 rfl hj4.2 (mapA_at hloc (by (first | ((repeat (first | (with_reducible exact am_blk) | (with_reducible exact am_row) | (with_reducible exact am_blkV) | (with_reducible exact am_oth) | (with_reducible apply am_tail))); done) | ((repeat (first | exact am_row | exact am_blk | exact am_blkV | exact am_oth | apply am_tail)); done) | fail))) (row_irow hloc (by (first | ((repeat (first | (with_reducible exact am_blk) | (with_reducible exact am_row) | (with_reducible exact am_blkV) | (with_reducible exact am_oth) | (with_reducible apply am_tail))); done) | ((repeat (first | exact am_row | exact am_blk | exact am_blkV | exact am_oth | apply am_tail)); done) | fail))) hf2.2.1 (by have := hf2.1.1; omega) (by omega) hpu) ?_; (rintro _ _ mm ⟨A5, c5, rfl, rfl, hf5⟩ hmm; simp only [List.cons_append, List.nil_append] at hmm; subst hmm; conv => whnf))) | (refine lload_id ?_; first | ((refine load_rowI hAb (by (first | ((repeat (first | (with_reducible exact am_blk) | (with_reducible exact am_row) | (with_reducible exact am_blkV) | (with_reducible exact am_oth) | (with_reducible apply am_tail))); done) | ((repeat (first | exact am_row | exact am_blk | exact am_blkV | exact am_oth | apply am_tail)); done) | fail)) (show ((ps.length : Int) - 1).toNat = (zs0.take 20).length + 12 by omega) (by omega) ?_; conv => whnf)) | (refine load_old _ (by with_reducible assumption) (by simp; done) ?_; conv => whnf)) | (refine lixs_id ?_; (refine ixs_row (fun _ => hf2.2.2 (by omega)) (by omega) ?_; intro bb hAb; conv => whnf)) | (refine ex_id ?_; first | ((with_reducible refine ex_z hx ?_; conv => whnf)) | (refine ex_z (by (first | (simp only [Int.reduceAdd, Int.reduceSub, Int.reduceMul, Int.reduceNeg, Int.reduceMod, Int.reduceDiv, Int.reduceTMod, Int.reduceTDiv, Int.zero_add, Int.add_zero] <;> rfl) | rfl)) ?_; conv => whnf)) | (refine sh_id ?_; first | (refine sh_z (by omega) (by (first | (simp only [Int.reduceAdd, Int.reduceSub, Int.reduceMul, Int.reduceNeg, Int.reduceMod, Int.reduceDiv, Int.reduceTMod, Int.reduceTDiv, Int.zero_add, Int.add_zero] <;> rfl) | rfl)) ?_; conv => whnf)) | (refine quo_id ?_; first | (refine quo_in (by omega) (by (first | (simp only [Int.reduceAdd, Int.reduceSub, Int.reduceMul, Int.reduceNeg, Int.reduceMod, Int.reduceDiv, Int.reduceTMod, Int.reduceTDiv, Int.zero_add, Int.add_zero] <;> rfl) | rfl)) (by (dsimp only [inR]; first | decide | omega)) ?_; conv => whnf) | (refine quo_t (by omega) (by (dsimp only [inR]; first | decide | omega)) ?_; conv => whnf)) | (refine rem_id ?_; first | (refine rem_in (by omega) (by (first | (simp only [Int.reduceAdd, Int.reduceSub, Int.reduceMul, Int.reduceNeg, Int.reduceMod, Int.reduceDiv, Int.reduceTMod, Int.reduceTDiv, Int.zero_add, Int.add_zero] <;> rfl) | rfl)) ?_; conv => whnf) | (refine rem_t (by omega) ?_; conv => whnf)) | (refine app_id ?_; refine app_i (by (first | (simp only [Nat.zero_add, Nat.add_zero, Nat.mul_one, Nat.reduceAdd, Nat.reduceMul, Int.reduceToNat, Int.toNat_natCast, Int.toNat_zero, Int.toNat_one, Nat.zero_mul] <;> rfl) | rfl)) (by (first | (simp only [List.nil_append, List.cons_append, List.append_nil] <;> rfl) | rfl)) (by first | omega | (change _ * 1 ≤ _; omega) | (change _ * 8 ≤ _; omega) | (change _ * 2 ≤ _; omega) | (change _ * 4 ≤ _; omega) | (change _ * 16 ≤ _; omega) | (change _ * 24 ≤ _; omega) | (change _ * 32 ≤ _; omega) | (change _ * 40 ≤ _; omega)) (by first | omega | decide) ?_; intro _ _ _; conv => whnf) | (refine mk_id ?_; first | (refine mk_lit (by rfl) (by rfl) (by decide) (by rfl) ?_; conv => whnf) | (refine mk_sym _ (by first | rfl | omega) (by first | rfl | omega) (by omega) (by omega) ?_; conv => whnf)) | (refine eff_id ?_; first | (refine eff_makeMap (ik := .u8) (k1 := .i64) (k2 := .i64) ?_; intro bm; conv => whnf) | (refine eff_insW (h := 29) (E' := E0) mapT (s, b) (_, _) hE0 (by rfl) (by rfl) (by rfl) (by rfl) (by rfl) (by rfl) (by rfl) (by rfl) (by rfl) ?_; conv => whnf) | (refine eff_updW (h := 29) (E' := E6) mapT (s, b) (_, _) hE6 (by rfl) (by rfl) (by rfl) (by rfl) (by rfl) (by rfl) (by rfl) (by rfl) (by rfl) ?_; conv => whnf) | (refine eff_insW (h := 58) (E' := E5) mapT (s, _) (0, 0) hE5 (by rfl) (by rfl) (by rfl) (by rfl) (by rfl) (by rfl) (by rfl) (by rfl) (by rfl) ?_; conv => whnf) | (refine eff_insW (h := 71) (E' := E4) mapT (_, b) (0, 0) hE4 (by rfl) (by rfl) (by rfl) (by rfl) (by rfl) (by rfl) (by rfl) (by rfl) (by rfl) ?_; conv => whnf) | (refine eff_stI (h := 902) (j := (zs0.take 20).length + 12) (z := x) (by rfl) hAb (by exact congrArg (fun o => Value.pointer (some ⟨_, o, none⟩)) (show 0 + ((ps.length : Int) - 1).toNat * 1 = (zs0.take 20).length + 12 by omega)) (by rfl) (by rfl) (by rfl) (by omega) hU (by rfl) (by rfl) ?_; conv => whnf)) | (refine x_rnd ?_) | (refine x_rnd' ?_) | (refine xdrw_id ?_; first | (refine x_drw3 tab_ok (id := 3) 7 5 20 21 [] [] [0, 1, 2, 3, 4, 5, 6] [] [3] [7, 8, 9] followsMixed (by kernel_rfl) (by rfl) (by rfl) (by decide) (by rfl) (by rfl) ?_; conv => whnf)))
  all_goals (
    (refine fin_ret ?_)
    first | rfl | exact congrArg Value.bool (by simp) | (trace_state; sorry))
theorem verifyFirst_walk (cs : List Value) (apid faults : Int) (w : World) (hc : okDs w [.i .u8, .i .u8, .i .u8, .i .u16, .s [.i .u8]] cs) (hap : inR .u16 apid) (hsv : inR .u8 faults) :
    Calls Try.prog 13 #[.agg cs.toArray, .int .u16 apid, .int .u8 faults] w fun e w' => e = .returned (.bool true) ∧ Below w.heap.size w w' := by
  obtain ⟨a, s, b, r, A, n, cp, zs, rfl, h1, h2, h3, h4, h5, h6, h7, h8, h9⟩ := cmd_of hc
  dsimp only [inR] at hap hsv
  unfold maxLen at h7
  exact (verifyFirst_ret a s b r 0 A n cp zs apid faults w h1 h2 h3 h4 h5 h8 (by omega) (by unfold U16; omega) (by unfold U8; omega)).below
end Go.Proofs.Ytpblllkkcpahgaa
