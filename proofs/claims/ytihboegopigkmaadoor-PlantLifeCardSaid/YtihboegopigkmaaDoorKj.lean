/- Plants: units that are ordered on work from then on, till they are ordered off. -/
import Derived.Test.YtihboegopigkmaaDoorKi
namespace Go.Proofs.YtihboegopigkmaaDoor
set_option linter.unusedSimpArgs false
set_option linter.unusedVariables false
set_option linter.unnecessarySimpa false
set_option maxRecDepth 100000
set_option maxHeartbeats 4000000
open Go.RowKit

theorem evN_bit (f : Nat → Bool) : ∀ n k, n ≤ 16 → k < 16 → (evN f n).testBit k = (decide (k < n) && f k)
  | 0, k, _, _ => by simp [evN]
  | n + 1, k, hn, hk => by
    have ih := evN_bit f n k (by omega) hk
    by_cases h : f n = true
    · rw [evN_t h]
      show (evN f n ||| oneN n).testBit k = _
      rw [Nat.testBit_or, ih, oneN_bit]
      by_cases e : n = k
      · subst e; simp [h]; omega
      · have e1 : (k < n + 1) ↔ k < n := by omega
        simp [e1, e]
    · rw [evN_f h, ih]
      by_cases e : n = k
      · subst e; simp [h]
      · have e1 : (k < n + 1) ↔ k < n := by omega
        simp [e1]
theorem evN_eq {f : Nat → Bool} {n W : Nat} (hn : n ≤ 16) (hW : W < 65536) (h : ∀ k, k < 16 → W.testBit k = (decide (k < n) && f k)) : evN f n = W :=
  set_ext (evN_lt f n) hW fun k hk => by rw [evN_bit f n k hn hk, h k hk]
/-- Of m units those of a set are in a state, the others off. -/
structure St (p : Pl) (m W : Nat) (v : Int) : Prop where
  ok : p.ok
  n : p.n = m
  u : ∀ j, j < m → (p.u j).s = if W.testBit j = true then v else 0
theorem St.pow {p : Pl} {m W : Nat} {v : Int} (h : St p m W v) (hm : m ≤ 16) (hW : W < 65536) (hb : ∀ k, W.testBit k = true → k < m) (hv : v = 1 ∨ v = 2) : evN (isPow p) p.n.toNat = W := by
  rw [h.n, Int.toNat_natCast]
  refine evN_eq hm hW fun k hk => ?_
  unfold isPow
  by_cases hkm : k < m
  · rw [h.u k hkm]
    cases hw : W.testBit k with
    | true => simp [hkm, hv]
    | false => simp
  · cases hw : W.testBit k with
    | true => exact absurd (hb k hw) hkm
    | false => simp [hkm]
theorem St.on {p : Pl} {m W : Nat} (h : St p m W 2) (hm : m ≤ 16) (hW : W < 65536) (hb : ∀ k, W.testBit k = true → k < m) : evN (isOn p) p.n.toNat = W := by
  rw [h.n, Int.toNat_natCast]
  refine evN_eq hm hW fun k hk => ?_
  unfold isOn
  by_cases hkm : k < m
  · rw [h.u k hkm]
    cases hw : W.testBit k <;> simp [hkm]
  · cases hw : W.testBit k with
    | true => exact absurd (hb k hw) hkm
    | false => simp [hkm]
theorem St.none {p : Pl} {m W : Nat} {v : Int} (h : St p m W v) (hm : m ≤ 16) (t : Int) (ht : t ≠ v) (ht0 : t ≠ 0) : evN (fun j => decide ((p.u j).s = t)) p.n.toNat = 0 := by
  rw [h.n, Int.toNat_natCast]
  refine evN_eq hm (by decide) fun k hk => ?_
  by_cases hkm : k < m
  · have := h.u k hkm
    rw [this]
    cases W.testBit k <;> simp [hkm, ht, ht0, Ne.symm ht, Ne.symm ht0]
  · simp [hkm]
theorem hasAll {j : Nat} (h : j < 16) : hasN 65535 (j : Int) = true := by
  rw [hasN_nat _ _ h]
  rcases (by omega : j = 0 ∨ j = 1 ∨ j = 2 ∨ j = 3 ∨ j = 4 ∨ j = 5 ∨ j = 6 ∨ j = 7 ∨ j = 8 ∨ j = 9 ∨ j = 10 ∨ j = 11 ∨ j = 12 ∨ j = 13 ∨ j = 14 ∨ j = 15) with h | h | h | h | h | h | h | h | h | h | h | h | h | h | h | h <;> subst h <;> rfl
theorem St.step {p : Pl} {m W : Nat} {v : Int} (h : St p m W v) (hm : m ≤ 16) (hv : v = 1 ∨ v = 2) : St (stepN 65535 65535 p p.n.toNat) m W 2 := by
  refine ⟨stepN_ok h.ok _, h.n, fun j hj => ?_⟩
  unfold stepN; dsimp only
  rw [h.n, Int.toNat_natCast, if_pos hj]
  unfold stU uStep
  rw [hasAll (by omega)]
  have hu := h.u j hj
  cases hw : W.testBit j with
  | true =>
    rw [hw, if_pos rfl] at hu
    rcases hv with rfl | rfl
    · rw [if_pos hu]; rfl
    · rw [if_neg (by omega), if_pos hu]; simp [hu]
  | false =>
    rw [hw, if_neg Bool.false_ne_true] at hu
    rw [if_neg (by omega), if_neg (by omega)]
    simp [hu]
theorem St.start {rs : Nat → Rl} {m : Nat} (hm : m ≤ 16) (hr : ∀ j, (rs j).ok) (ys : List Int) : St (ordN true (newN rs m m) ys).1 m (withN 0 ys &&& (2 ^ m - 1)) 1 := by
  have ho := ordN_oi true (newN rs m m) ys
  refine ⟨(ordN_ok (newN_ok hr hm m) ys).1, ho.n, fun j hj => ?_⟩
  rw [ho.u, Nat.testBit_and, Nat.testBit_two_pow_sub_one, withN_bit ys j (by omega)]
  unfold qU
  have e : ((j : Int) < (newN rs m m).n) := by unfold newN; dsimp only; omega
  by_cases h : (j : Int) ∈ ys
  · rw [if_pos ⟨h, e⟩]
    have : (ys.any fun i => decide (i = (j : Int))) = true := List.any_eq_true.2 ⟨_, h, by simp⟩
    rw [this]
    simp [hj, uOrd, newN, un0]
  · rw [if_neg (fun hh => h hh.1)]
    have : (ys.any fun i => decide (i = (j : Int))) = false := by
      rw [Bool.eq_false_iff]
      intro ha
      obtain ⟨i, hi, he⟩ := List.any_eq_true.1 ha
      exact h (by rw [← of_decide_eq_true he]; exact hi)
    rw [this]
    simp [newN, un0]
theorem uI_mem (W : Nat) (i : Int) : i ∈ uI W ↔ ∃ k : Nat, i = k ∧ k < 16 ∧ W.testBit k = true := by
  unfold uI units
  rw [List.mem_map]
  constructor
  · rintro ⟨k, hk, rfl⟩
    have := (unitsFrom_mem W 16 0 k).1 hk
    exact ⟨k, rfl, by omega, this.2.2⟩
  · rintro ⟨k, rfl, h1, h2⟩
    exact ⟨k, (unitsFrom_mem W 16 0 k).2 ⟨by omega, by omega, h2⟩, rfl⟩
theorem unitsFrom_nodup (s : Nat) : ∀ n j, (unitsFrom s n j).Nodup
  | 0, _ => List.nodup_nil
  | n + 1, j => by
    rw [unitsFrom_succ]
    split
    · refine List.nodup_cons.2 ⟨fun h => ?_, unitsFrom_nodup s n (j + 1)⟩
      have := (unitsFrom_mem s n (j + 1) j).1 h
      omega
    · exact unitsFrom_nodup s n (j + 1)
theorem uI_nodup (W : Nat) : (uI W).Nodup := by
  unfold uI
  exact List.Pairwise.map _ (fun a b h e => h (by omega)) (unitsFrom_nodup W 16 0)
/-- Orders that all tell something. -/
theorem fold_all {on : Bool} {p : Pl} : ∀ {l done : List Int} {x : Pl × List Int}, OI on p done x → x.2 = done → (done ++ l).Nodup → (∀ i ∈ l, 0 ≤ i ∧ i < p.n ∧ (uOrd on (p.u i.toNat) (p.r i.toNat)).2 = true) → (l.foldl (ordF on) x).2 = done ++ l
  | [], done, x, h, hx, _, _ => by simpa using hx
  | i :: l, done, x, h, hx, hn, ha => by
    have hi := ha i (by simp)
    have hnd : i ∉ done := fun hd => by
      rw [List.nodup_append] at hn
      exact hn.2.2 i hd i (by simp) rfl
    have e : (ordF on x i).2 = done ++ [i] := by
      unfold ordF
      rw [if_pos ⟨hi.1, by rw [h.n]; exact hi.2.1⟩]
      have e1 : x.1.u i.toNat = p.u i.toNat := by
        rw [h.u]; unfold qU
        rw [if_neg (fun hh => hnd (by have := hh.1; rwa [Int.toNat_of_nonneg hi.1] at this))]
      rw [e1, h.r]
      dsimp only
      rw [if_pos hi.2.2, hx]
    have := fold_all (l := l) (ordF_oi h i) e (by rw [List.append_assoc]; exact hn) fun k hk => ha k (by simp [hk])
    rw [List.foldl_cons, this, List.append_assoc]; rfl
theorem St.off {p : Pl} {m W : Nat} (h : St p m W 2) (hm : m ≤ 16) (hb : ∀ k, W.testBit k = true → k < m) :
    (ordN false p (uI W)).2.length = (uI W).length ∧ St (ordN false p (uI W)).1 m 0 0 := by
  have hi : ∀ i ∈ uI W, 0 ≤ i ∧ i < p.n ∧ (uOrd false (p.u i.toNat) (p.r i.toNat)).2 = true := fun i hi => by
    obtain ⟨k, rfl, h1, h2⟩ := (uI_mem W i).1 hi
    have hk := hb k h2
    refine ⟨by omega, by rw [h.n]; omega, ?_⟩
    have := h.u k hk
    rw [h2, if_pos rfl] at this
    rw [Int.toNat_natCast]
    unfold uOrd
    rw [if_neg Bool.false_ne_true, if_neg (by omega)]
  constructor
  · have h0 : OI false p [] (p, []) := ⟨rfl, rfl, fun j => by unfold qU; simp, fun o ho => by simp at ho, List.nodup_nil⟩
    have := fold_all (l := uI W) h0 rfl (by simpa using uI_nodup W) hi
    unfold ordN
    rw [this]; rfl
  · have ho := ordN_oi false p (uI W)
    refine ⟨(ordN_ok h.ok _).1, by rw [ho.n]; exact h.n, fun j hj => ?_⟩
    rw [ho.u]
    unfold qU
    have hu := h.u j hj
    cases hw : W.testBit j with
    | true =>
      rw [if_pos ⟨(uI_mem W _).2 ⟨j, rfl, by omega, hw⟩, by rw [h.n]; omega⟩]
      rw [hw, if_pos rfl] at hu
      unfold uOrd
      rw [if_neg Bool.false_ne_true, if_neg (by omega)]
      simp [un0]
    | false =>
      rw [if_neg (fun hh => by
        obtain ⟨k, hk, _, h2⟩ := (uI_mem W _).1 hh.1
        obtain rfl : k = j := by omega
        rw [hw] at h2; cases h2)]
      rw [hw, if_neg Bool.false_ne_true] at hu
      simp [hu]
theorem plantLife_ret (h1 : Nat) (A1 : Option Addr) (n1 cp1 : Nat) (rs : Nat → Rl) (h2 : Nat) (A2 : Option Addr) (n2 cp2 : Nat) (zs : List Int) (nn : Int) (w : World) (ht : Tz w)
    (hrr0 : RRow w A1 n1 rs) (hle1 : n1 ≤ cp1) (hmx1 : cp1 ≤ 9223372036854775807) (hrk : ∀ j, (rs j).ok) (hr : IRow .i64 w A2 n2 zs) (hle2 : n2 ≤ cp2) (hmx2 : cp2 ≤ 9223372036854775807) (hnn : 0 ≤ nn ∧ nn ≤ 255) :
    RetS Tryd.prog 10 [.sl h1 A1 n1 cp1, .sl h2 A2 n2 cp2, u8 nn] w (.lit true) := by
  have hlen := hr.1
  obtain ⟨m1, hm1⟩ : ∃ m, (min (n1 : Int) 16).toNat = m := ⟨_, rfl⟩
  obtain ⟨m2, hm2⟩ : ∃ m, (min (n2 : Int) 20).toNat = m := ⟨_, rfl⟩
  obtain ⟨kk, hk⟩ : ∃ k : Nat, nn % 20 = (k : Int) := ⟨(nn % 20).toNat, by omega⟩
  have hkk : kk < 20 := by omega
  have hm16 : m1 ≤ 16 := by omega
  have hrr : RRow w A1 m1 rs := hrr0.pre (by omega)
  obtain ⟨ys, hys⟩ : ∃ ys, zs.take m2 = ys := ⟨_, rfl⟩
  have hrs : IRow .i64 w A2 m2 ys := by rw [← hys]; exact hr.take (by omega)
  have hly : ys.length = m2 := hrs.1
  clear hys
  obtain ⟨Z, eZ⟩ : ∃ Z : Int, IntKind.u16.wrap (1 * 2 ^ (min (m1 : Int).toNat IntKind.u16.bits)) = Z := ⟨_, rfl⟩
  obtain ⟨M, hM⟩ : ∃ M : Nat, 2 ^ m1 - 1 = M := ⟨_, rfl⟩
  have hML : M < 65536 := by
    rw [← hM]
    have := Nat.pow_le_pow_right (show 0 < 2 by decide) hm16
    have e : 2 ^ 16 = 65536 := rfl
    omega
  have eM : IntKind.u16.wrap (Z - 1) = (M : Int) := by
    rw [← eZ, ← hM]
    rcases (by omega : m1 = 0 ∨ m1 = 1 ∨ m1 = 2 ∨ m1 = 3 ∨ m1 = 4 ∨ m1 = 5 ∨ m1 = 6 ∨ m1 = 7 ∨ m1 = 8 ∨ m1 = 9 ∨ m1 = 10 ∨ m1 = 11 ∨ m1 = 12 ∨ m1 = 13 ∨ m1 = 14 ∨ m1 = 15 ∨ m1 = 16) with h | h | h | h | h | h | h | h | h | h | h | h | h | h | h | h | h <;> rw [h] <;> decide
  obtain ⟨W, hWe⟩ : ∃ W, withN 0 ys &&& M = W := ⟨_, rfl⟩
  have hW : W < 65536 := by rw [← hWe]; exact and16 hML
  have hWb : ∀ k, W.testBit k = true → k < m1 := fun k h => by
    rw [← hWe, ← hM, Nat.testBit_and, Nat.testBit_two_pow_sub_one] at h
    simp at h
    exact h.2
  have and1 : ∀ w', RetS Tryd.prog 20 [setV (withN 0 ys), setV M] w' (setV W) := fun w' => by
    rw [← hWe]; exact and_S _ M w' (withN_lt (by decide) _) hML
  have hp0 := newN_ok hrk hm16 m1
  have hst := St.start (rs := rs) hm16 hrk ys
  rw [hM, hWe] at hst
  obtain ⟨p1, hp1⟩ : ∃ p1, (ordN true (newN rs m1 m1) ys).1 = p1 := ⟨_, rfl⟩
  obtain ⟨os1, hos1⟩ : ∃ os, (ordN true (newN rs m1 m1) ys).2 = os := ⟨_, rfl⟩
  have ord1 : ∀ w', IRow .i64 w' A2 m2 ys → RetX Tryd.prog 48 [(newN rs m1 m1).sv, .lit true, .sl 92 A2 m2 cp2] w' [] (OrdR 100 true p1 os1) := fun w' hr => by
    have := order_X 100 true (newN rs m1 m1) 92 A2 m2 cp2 ys w' hp0 hr (by omega)
    rw [hp1, hos1] at this
    exact this
  rw [hp1] at hst
  clear hp1 hos1
  have pw0 : ∀ w', RetS Tryd.prog 50 [p1.sv] w' (setV W) := fun w' => by
    have := ppow_S p1 w' hst.ok
    rw [hst.pow hm16 hW hWb (.inl rfl)] at this
    exact this
  have wk0 : ∀ w', RetS Tryd.prog 51 [p1.sv] w' (.int .u16 0) := fun w' => by
    have := pworks_S p1 w' hst.ok
    rw [show evN (isOn p1) p1.n.toNat = 0 from hst.none hm16 2 (by decide) (by decide)] at this
    exact ⟨this.go⟩
  have stp : True := trivial
  have wk1 : True := trivial
  have ls1 : True := trivial
  have onl : True := trivial
  have pw2 : True := trivial
  have wk2 : True := trivial
  refine ret_x tab_ok Tryd.func10 rfl Tryd.ntmps10 (by rfl) ?_; simp only [argX, Nat.reduceAdd, Nat.zero_add]; conv => whnf
  repeat' (first | ((refine rem_id ?_; refine rem_in (by omega) hk ?_; conv => whnf)) | (refine run_c tab_ok ?_; conv => whnf) | (refine side_id ?_; refine side_i (by first | rfl | exact ⟨rfl, rfl, rfl, rfl⟩ | trivial | (simp [allOne, partsOne, Value.cells, Value.oneCell']; done) | fail) ?_; conv => whnf) | (refine ar_id ?_; first | (refine ar_in (by (first | (simp only [Int.reduceAdd, Int.reduceSub, Int.reduceMul, Int.reduceNeg, Int.reduceMod, Int.reduceDiv, Int.reduceTMod, Int.reduceTDiv, Int.zero_add, Int.add_zero] <;> rfl) | rfl)) (by (dsimp only [inR]; first | decide | omega)) ?_; conv => whnf) | ((refine ⟨(M : Int), eM, ?_⟩; conv => whnf))) | (refine new_i ?_; intro _; conv => whnf) | (refine br_id ?_; first | (refine br_t (by first | decide | omega | (with_reducible rfl) | fail | (simp only [cellEq, toB]; omega) | (simp only [cellEq, toB]; simp; done) | fail) ?_; conv => whnf) | (refine br_f (by first | decide | omega | (with_reducible exact Bool.false_ne_true) | (with_reducible refine not_not_intro ?_; fail) | (simp only [cellEq, toB]; omega) | (simp only [cellEq, toB]; simp; done) | fail) ?_; conv => whnf) | ((refine br_any (fun h => ?_) (fun h => ?_) <;> (try simp only [cellEq, toB, Bool.not_eq_true, Bool.not_eq_false] at h) <;> (try (exfalso; first | omega | contradiction | (simp at h; done) | fail); done) <;> conv => whnf))) | (refine ix_id ?_; first | (refine ix_lit (by first | decide | omega) (by (first | (simp only [Nat.zero_add, Nat.add_zero, Nat.mul_one, Nat.reduceAdd, Nat.reduceMul, Int.reduceToNat, Int.toNat_natCast, Int.toNat_zero, Int.toNat_one, Nat.zero_mul] <;> rfl) | rfl)) (by rfl) ?_; conv => whnf) | (refine ix_sym (by omega) ?_; conv => whnf)) | (refine lcall_id ?_; first | (refine lcall_ret (fun w' hl => awake14_S w') ?_; conv => whnf) | (refine lcall_ret (fun w' hl => new_S 91 A1 m1 _ rs w' (hrr.loc hl) (by omega)) ?_; conv => whnf) | (refine lcall_mk (fun w' hl => ord1 w' (irow_loc hrs hl)) ?_; (rintro _ _ mm ⟨A11, c11, rfl, rfl, hf11⟩ hmm; simp only [List.cons_append, List.nil_append] at hmm; subst hmm; conv => whnf)) | (refine lcall_ret (fun w' hl => of_S 92 A2 m2 _ ys w' (irow_loc hrs hl) (by omega)) ?_; conv => whnf) | (refine lcall_ret (fun w' hl => and1 w') ?_; conv => whnf) | (refine lcall_ret (fun w' hl => pw0 w') ?_; conv => whnf) | (refine lcall_ret (fun w' hl => wk0 w') ?_; conv => whnf) | (refine lcall_ret (fun w' hl => stp w') ?_; conv => whnf) | (refine lcall_ret (fun w' hl => wk1 w') ?_; conv => whnf) | (refine lcall_ret (fun w' hl => ls1 w') ?_; conv => whnf) | (refine lcall_mk (fun w' hl => onl w' (ht.loc hl)) ?_; (rintro _ _ mm ⟨A13, c13, rfl, rfl, hf13⟩ hmm; simp only [List.cons_append, List.nil_append] at hmm; subst hmm; conv => whnf)) | (refine lcall_ret (fun w' hl => count_S W w' hW) ?_; conv => whnf) | (refine lcall_ret (fun w' hl => pw2 w') ?_; conv => whnf) | (refine lcall_ret (fun w' hl => wk2 w') ?_; conv => whnf)) | (refine lload_id ?_; first | (refine load_old _ (by with_reducible assumption) (by simp; done) ?_; conv => whnf)) | (refine ex_id ?_; first | (refine ex_z (by (first | (simp only [Int.reduceAdd, Int.reduceSub, Int.reduceMul, Int.reduceNeg, Int.reduceMod, Int.reduceDiv, Int.reduceTMod, Int.reduceTDiv, Int.zero_add, Int.add_zero] <;> rfl) | rfl)) ?_; conv => whnf)) | (refine sh_id ?_; first | ((refine ⟨by omega, Z, eZ, ?_⟩; conv => whnf)) | (refine sh_z (by omega) (by (first | (simp only [Int.reduceAdd, Int.reduceSub, Int.reduceMul, Int.reduceNeg, Int.reduceMod, Int.reduceDiv, Int.reduceTMod, Int.reduceTDiv, Int.zero_add, Int.add_zero] <;> rfl) | rfl)) ?_; conv => whnf)) | (refine quo_id ?_; first | (refine quo_in (by omega) (by (first | (simp only [Int.reduceAdd, Int.reduceSub, Int.reduceMul, Int.reduceNeg, Int.reduceMod, Int.reduceDiv, Int.reduceTMod, Int.reduceTDiv, Int.zero_add, Int.add_zero] <;> rfl) | rfl)) (by (dsimp only [inR]; first | decide | omega)) ?_; conv => whnf) | (refine quo_t (by omega) (by (dsimp only [inR]; first | decide | omega)) ?_; conv => whnf)) | (refine rem_id ?_; first | (refine rem_in (by omega) (by (first | (simp only [Int.reduceAdd, Int.reduceSub, Int.reduceMul, Int.reduceNeg, Int.reduceMod, Int.reduceDiv, Int.reduceTMod, Int.reduceTDiv, Int.zero_add, Int.add_zero] <;> rfl) | rfl)) ?_; conv => whnf) | (refine rem_t (by omega) ?_; conv => whnf)) | (refine app_id ?_; refine app_i (by (first | (simp only [Nat.zero_add, Nat.add_zero, Nat.mul_one, Nat.reduceAdd, Nat.reduceMul, Int.reduceToNat, Int.toNat_natCast, Int.toNat_zero, Int.toNat_one, Nat.zero_mul] <;> rfl) | rfl)) (by (first | (simp only [List.nil_append, List.cons_append, List.append_nil] <;> rfl) | rfl)) (by first | omega | (change _ * 1 ≤ _; omega) | (change _ * 8 ≤ _; omega) | (change _ * 2 ≤ _; omega) | (change _ * 4 ≤ _; omega) | (change _ * 16 ≤ _; omega) | (change _ * 24 ≤ _; omega) | (change _ * 32 ≤ _; omega) | (change _ * 40 ≤ _; omega)) (by first | omega | decide) ?_; intro _ _ _; conv => whnf) | (refine mk_id ?_; first | (refine mk_lit (by rfl) (by rfl) (by decide) (by rfl) ?_; conv => whnf) | (refine mk_sym _ (by first | rfl | omega) (by first | rfl | omega) (by omega) (by omega) ?_; conv => whnf)) | (refine sl_id ?_; first | (refine sl_preS 91 (by omega) hm1 ?_; conv => whnf) | (refine sl_preS 92 (by omega) hm2 ?_; conv => whnf)) | (refine x_rnd ?_) | (refine x_rnd' ?_) | (refine xdrw_id ?_; first | (refine x_drw tab_ok (id := 9) [] [] [0, 1, 2, 3, 4, 5, 6, 7] followsMixed (by kernel_rfl) (by rfl) (by rfl) ?_; conv => whnf)))
  rename_i b7
  refine x_loopA [7, 100] (fun x : Nat × Pl => [(57, i64 x.1)]) (fun x => [.blk 7 100 b7 x.2.cells]) (fun x => x.1 ≤ 1 + kk ∧ St x.2 m1 W (if x.1 = 0 then 1 else 2)) (fun x => 1 + kk - x.1) (0, p1) (by rfl) (by rfl) (by rfl) ⟨by dsimp only; omega, hst⟩ (by (repeat (first | exact trivial | ((conv => whnf); refine And.intro (by first | rfl | exact congrArg (Value.int _) (by omega)) ?_)))) (by (repeat (first | exact trivial | ((conv => whnf); refine And.intro (by rfl) ?_)))) ?_
  clear hst pw0 wk0 stp wk1 ls1 onl pw2 wk2
  rintro ⟨j, p⟩ ⟨hj, hs⟩
  dsimp only [appF, appM] at hj hs ⊢
  have pw0 : True := trivial
  have wk0 : True := trivial
  by_cases hjk : j < 1 + kk
  · have hs2 := hs.step hm16 (by split; exact .inl rfl; exact .inr rfl)
    obtain ⟨p2, hp2⟩ : ∃ p2, stepN 65535 65535 p p.n.toNat = p2 := ⟨_, rfl⟩
    rw [hp2] at hs2
    have stp : ∀ w', RetS Tryd.prog 52 [p.sv, .int .u16 65535, .int .u16 65535] w' (.tup [p2.sv, setV (evK 65535 65535 p 1 p.n.toNat), setV (evK 65535 65535 p 2 p.n.toNat)]) := fun w' => by
      have := (step_S 65535 65535 p w' hs.ok (by decide) (by decide)).go
      rw [hp2] at this
      exact ⟨this⟩
    have wk1 : ∀ w', RetS Tryd.prog 51 [p2.sv] w' (setV W) := fun w' => by
      have := pworks_S p2 w' hs2.ok
      rw [hs2.on hm16 hW hWb] at this
      exact this
    have ls1 : ∀ w', RetS Tryd.prog 53 [p2.sv] w' (.int .u16 0) := fun w' => by
      have := plost_S p2 w' hs2.ok
      rw [show evN (isLost p2) p2.n.toNat = 0 from hs2.none hm16 3 (by decide) (by decide)] at this
      exact ⟨this.go⟩
    have onl : True := trivial
    have pw2 : True := trivial
    have wk2 : True := trivial
    repeat' (first | ((refine rem_id ?_; refine rem_in (by omega) hk ?_; conv => whnf)) | (refine run_c tab_ok ?_; conv => whnf) | (refine side_id ?_; refine side_i (by first | rfl | exact ⟨rfl, rfl, rfl, rfl⟩ | trivial | (simp [allOne, partsOne, Value.cells, Value.oneCell']; done) | fail) ?_; conv => whnf) | (refine ar_id ?_; first | (refine ar_in (by (first | (simp only [Int.reduceAdd, Int.reduceSub, Int.reduceMul, Int.reduceNeg, Int.reduceMod, Int.reduceDiv, Int.reduceTMod, Int.reduceTDiv, Int.zero_add, Int.add_zero] <;> rfl) | rfl)) (by (dsimp only [inR]; first | decide | omega)) ?_; conv => whnf) | ((refine ⟨(M : Int), eM, ?_⟩; conv => whnf))) | (refine new_i ?_; intro _; conv => whnf) | (refine br_id ?_; first | (refine br_t (by first | decide | omega | (with_reducible rfl) | fail | (simp only [cellEq, toB]; omega) | (simp only [cellEq, toB]; simp; done) | fail) ?_; conv => whnf) | (refine br_f (by first | decide | omega | (with_reducible exact Bool.false_ne_true) | (with_reducible refine not_not_intro ?_; fail) | (simp only [cellEq, toB]; omega) | (simp only [cellEq, toB]; simp; done) | fail) ?_; conv => whnf) | ((refine br_any (fun h => ?_) (fun h => ?_) <;> (try simp only [cellEq, toB, Bool.not_eq_true, Bool.not_eq_false] at h) <;> (try (exfalso; first | omega | contradiction | (simp at h; done) | fail); done) <;> conv => whnf))) | (refine ix_id ?_; first | (refine ix_lit (by first | decide | omega) (by (first | (simp only [Nat.zero_add, Nat.add_zero, Nat.mul_one, Nat.reduceAdd, Nat.reduceMul, Int.reduceToNat, Int.toNat_natCast, Int.toNat_zero, Int.toNat_one, Nat.zero_mul] <;> rfl) | rfl)) (by rfl) ?_; conv => whnf) | (refine ix_sym (by omega) ?_; conv => whnf)) | (refine lcall_id ?_; first | (refine lcall_ret (fun w' hl => awake14_S w') ?_; conv => whnf) | (refine lcall_ret (fun w' hl => new_S 91 A1 m1 _ rs w' (hrr.loc hl) (by omega)) ?_; conv => whnf) | (refine lcall_mk (fun w' hl => ord1 w' (irow_loc hrs hl)) ?_; (rintro _ _ mm ⟨A11, c11, rfl, rfl, hf11⟩ hmm; simp only [List.cons_append, List.nil_append] at hmm; subst hmm; conv => whnf)) | (refine lcall_ret (fun w' hl => of_S 92 A2 m2 _ ys w' (irow_loc hrs hl) (by omega)) ?_; conv => whnf) | (refine lcall_ret (fun w' hl => and1 w') ?_; conv => whnf) | (refine lcall_ret (fun w' hl => pw0 w') ?_; conv => whnf) | (refine lcall_ret (fun w' hl => wk0 w') ?_; conv => whnf) | (refine lcall_ret (fun w' hl => stp w') ?_; conv => whnf) | (refine lcall_ret (fun w' hl => wk1 w') ?_; conv => whnf) | (refine lcall_ret (fun w' hl => ls1 w') ?_; conv => whnf) | (refine lcall_mk (fun w' hl => onl w' (ht.loc hl)) ?_; (rintro _ _ mm ⟨A13, c13, rfl, rfl, hf13⟩ hmm; simp only [List.cons_append, List.nil_append] at hmm; subst hmm; conv => whnf)) | (refine lcall_ret (fun w' hl => count_S W w' hW) ?_; conv => whnf) | (refine lcall_ret (fun w' hl => pw2 w') ?_; conv => whnf) | (refine lcall_ret (fun w' hl => wk2 w') ?_; conv => whnf)) | (refine lload_id ?_; first | (refine load_old _ (by with_reducible assumption) (by simp; done) ?_; conv => whnf)) | (refine ex_id ?_; first | (refine ex_z (by (first | (simp only [Int.reduceAdd, Int.reduceSub, Int.reduceMul, Int.reduceNeg, Int.reduceMod, Int.reduceDiv, Int.reduceTMod, Int.reduceTDiv, Int.zero_add, Int.add_zero] <;> rfl) | rfl)) ?_; conv => whnf)) | (refine sh_id ?_; first | ((refine ⟨by omega, Z, eZ, ?_⟩; conv => whnf)) | (refine sh_z (by omega) (by (first | (simp only [Int.reduceAdd, Int.reduceSub, Int.reduceMul, Int.reduceNeg, Int.reduceMod, Int.reduceDiv, Int.reduceTMod, Int.reduceTDiv, Int.zero_add, Int.add_zero] <;> rfl) | rfl)) ?_; conv => whnf)) | (refine quo_id ?_; first | (refine quo_in (by omega) (by (first | (simp only [Int.reduceAdd, Int.reduceSub, Int.reduceMul, Int.reduceNeg, Int.reduceMod, Int.reduceDiv, Int.reduceTMod, Int.reduceTDiv, Int.zero_add, Int.add_zero] <;> rfl) | rfl)) (by (dsimp only [inR]; first | decide | omega)) ?_; conv => whnf) | (refine quo_t (by omega) (by (dsimp only [inR]; first | decide | omega)) ?_; conv => whnf)) | (refine rem_id ?_; first | (refine rem_in (by omega) (by (first | (simp only [Int.reduceAdd, Int.reduceSub, Int.reduceMul, Int.reduceNeg, Int.reduceMod, Int.reduceDiv, Int.reduceTMod, Int.reduceTDiv, Int.zero_add, Int.add_zero] <;> rfl) | rfl)) ?_; conv => whnf) | (refine rem_t (by omega) ?_; conv => whnf)) | (refine app_id ?_; refine app_i (by (first | (simp only [Nat.zero_add, Nat.add_zero, Nat.mul_one, Nat.reduceAdd, Nat.reduceMul, Int.reduceToNat, Int.toNat_natCast, Int.toNat_zero, Int.toNat_one, Nat.zero_mul] <;> rfl) | rfl)) (by (first | (simp only [List.nil_append, List.cons_append, List.append_nil] <;> rfl) | rfl)) (by first | omega | (change _ * 1 ≤ _; omega) | (change _ * 8 ≤ _; omega) | (change _ * 2 ≤ _; omega) | (change _ * 4 ≤ _; omega) | (change _ * 16 ≤ _; omega) | (change _ * 24 ≤ _; omega) | (change _ * 32 ≤ _; omega) | (change _ * 40 ≤ _; omega)) (by first | omega | decide) ?_; intro _ _ _; conv => whnf) | (refine mk_id ?_; first | (refine mk_lit (by rfl) (by rfl) (by decide) (by rfl) ?_; conv => whnf) | (refine mk_sym _ (by first | rfl | omega) (by first | rfl | omega) (by omega) (by omega) ?_; conv => whnf)) | (refine sl_id ?_; first | (refine sl_preS 91 (by omega) hm1 ?_; conv => whnf) | (refine sl_preS 92 (by omega) hm2 ?_; conv => whnf)) | (refine x_rnd ?_) | (refine x_rnd' ?_) | (refine xdrw_id ?_; first | (refine x_drw tab_ok (id := 9) [] [] [0, 1, 2, 3, 4, 5, 6, 7] followsMixed (by kernel_rfl) (by rfl) (by rfl) ?_; conv => whnf)))
    refine x_roundA (j + 1, p2) ⟨by dsimp only; omega, by dsimp only; rw [if_neg (by omega)]; exact hs2⟩ (by dsimp only; omega) (by (repeat (first | exact trivial | ((conv => whnf); refine And.intro (by first | rfl | exact congrArg (Value.int _) (by omega)) ?_)))) (by (repeat (first | exact trivial | ((conv => whnf); refine And.intro rfl ?_)))) (by (repeat (first | exact trivial | ((conv => whnf); refine And.intro (by rfl) ?_))))
  · obtain rfl : j = 1 + kk := by omega
    rw [if_neg (by omega)] at hs
    have hof := hs.off hm16 hWb
    obtain ⟨q, hq⟩ : ∃ q, (ordN false p (uI W)).1 = q := ⟨_, rfl⟩
    obtain ⟨os, hos⟩ : ∃ os, (ordN false p (uI W)).2 = os := ⟨_, rfl⟩
    rw [hq, hos] at hof
    have onl : ∀ w', Tz w' → RetX Tryd.prog 54 [p.sv, .int .u16 0] w' [] (OrdR 110 false q os) := fun w' h => by
      have := (only_X 110 0 p w' h hs.ok (by decide)).go
      have e0 : lessN W 0 = W := set_ext (lessN_lt hW) hW fun j hj => by rw [lessN_bit hW]; simp
      rw [hs.pow hm16 hW hWb (.inr rfl), e0, hq, hos] at this
      exact ⟨this⟩
    have hcnt := cntN_units hW
    have hosl : os.length = cntN W := by rw [hof.1, hcnt]
    have pw2 : ∀ w', RetS Tryd.prog 50 [q.sv] w' (.int .u16 0) := fun w' => by
      have := ppow_S q w' hof.2.ok
      rw [show evN (isPow q) q.n.toNat = 0 from by
        rw [hof.2.n, Int.toNat_natCast]
        refine evN_eq hm16 (by decide) fun k hk => ?_
        by_cases hkm : k < m1
        · have := hof.2.u k hkm
          simp at this
          simp [isPow, this]
        · simp [hkm]] at this
      exact ⟨this.go⟩
    have wk2 : ∀ w', RetS Tryd.prog 51 [q.sv] w' (.int .u16 0) := fun w' => by
      have := pworks_S q w' hof.2.ok
      rw [show evN (isOn q) q.n.toNat = 0 from hof.2.none hm16 2 (by decide) (by decide)] at this
      exact ⟨this.go⟩
    have stp : True := trivial
    have wk1 : True := trivial
    have ls1 : True := trivial
    repeat' (first | ((refine rem_id ?_; refine rem_in (by omega) hk ?_; conv => whnf)) | (refine run_c tab_ok ?_; conv => whnf) | (refine side_id ?_; refine side_i (by first | rfl | exact ⟨rfl, rfl, rfl, rfl⟩ | trivial | (simp [allOne, partsOne, Value.cells, Value.oneCell']; done) | fail) ?_; conv => whnf) | (refine ar_id ?_; first | (refine ar_in (by (first | (simp only [Int.reduceAdd, Int.reduceSub, Int.reduceMul, Int.reduceNeg, Int.reduceMod, Int.reduceDiv, Int.reduceTMod, Int.reduceTDiv, Int.zero_add, Int.add_zero] <;> rfl) | rfl)) (by (dsimp only [inR]; first | decide | omega)) ?_; conv => whnf) | ((refine ⟨(M : Int), eM, ?_⟩; conv => whnf))) | (refine new_i ?_; intro _; conv => whnf) | (refine br_id ?_; first | (refine br_t (by first | decide | omega | (with_reducible rfl) | fail | (simp only [cellEq, toB]; omega) | (simp only [cellEq, toB]; simp; done) | fail) ?_; conv => whnf) | (refine br_f (by first | decide | omega | (with_reducible exact Bool.false_ne_true) | (with_reducible refine not_not_intro ?_; fail) | (simp only [cellEq, toB]; omega) | (simp only [cellEq, toB]; simp; done) | fail) ?_; conv => whnf) | ((refine br_any (fun h => ?_) (fun h => ?_) <;> (try simp only [cellEq, toB, Bool.not_eq_true, Bool.not_eq_false] at h) <;> (try (exfalso; first | omega | contradiction | (simp at h; done) | fail); done) <;> conv => whnf))) | (refine ix_id ?_; first | (refine ix_lit (by first | decide | omega) (by (first | (simp only [Nat.zero_add, Nat.add_zero, Nat.mul_one, Nat.reduceAdd, Nat.reduceMul, Int.reduceToNat, Int.toNat_natCast, Int.toNat_zero, Int.toNat_one, Nat.zero_mul] <;> rfl) | rfl)) (by rfl) ?_; conv => whnf) | (refine ix_sym (by omega) ?_; conv => whnf)) | (refine lcall_id ?_; first | (refine lcall_ret (fun w' hl => awake14_S w') ?_; conv => whnf) | (refine lcall_ret (fun w' hl => new_S 91 A1 m1 _ rs w' (hrr.loc hl) (by omega)) ?_; conv => whnf) | (refine lcall_mk (fun w' hl => ord1 w' (irow_loc hrs hl)) ?_; (rintro _ _ mm ⟨A11, c11, rfl, rfl, hf11⟩ hmm; simp only [List.cons_append, List.nil_append] at hmm; subst hmm; conv => whnf)) | (refine lcall_ret (fun w' hl => of_S 92 A2 m2 _ ys w' (irow_loc hrs hl) (by omega)) ?_; conv => whnf) | (refine lcall_ret (fun w' hl => and1 w') ?_; conv => whnf) | (refine lcall_ret (fun w' hl => pw0 w') ?_; conv => whnf) | (refine lcall_ret (fun w' hl => wk0 w') ?_; conv => whnf) | (refine lcall_ret (fun w' hl => stp w') ?_; conv => whnf) | (refine lcall_ret (fun w' hl => wk1 w') ?_; conv => whnf) | (refine lcall_ret (fun w' hl => ls1 w') ?_; conv => whnf) | (refine lcall_mk (fun w' hl => onl w' (ht.loc hl)) ?_; (rintro _ _ mm ⟨A13, c13, rfl, rfl, hf13⟩ hmm; simp only [List.cons_append, List.nil_append] at hmm; subst hmm; conv => whnf)) | (refine lcall_ret (fun w' hl => count_S W w' hW) ?_; conv => whnf) | (refine lcall_ret (fun w' hl => pw2 w') ?_; conv => whnf) | (refine lcall_ret (fun w' hl => wk2 w') ?_; conv => whnf)) | (refine lload_id ?_; first | (refine load_old _ (by with_reducible assumption) (by simp; done) ?_; conv => whnf)) | (refine ex_id ?_; first | (refine ex_z (by (first | (simp only [Int.reduceAdd, Int.reduceSub, Int.reduceMul, Int.reduceNeg, Int.reduceMod, Int.reduceDiv, Int.reduceTMod, Int.reduceTDiv, Int.zero_add, Int.add_zero] <;> rfl) | rfl)) ?_; conv => whnf)) | (refine sh_id ?_; first | ((refine ⟨by omega, Z, eZ, ?_⟩; conv => whnf)) | (refine sh_z (by omega) (by (first | (simp only [Int.reduceAdd, Int.reduceSub, Int.reduceMul, Int.reduceNeg, Int.reduceMod, Int.reduceDiv, Int.reduceTMod, Int.reduceTDiv, Int.zero_add, Int.add_zero] <;> rfl) | rfl)) ?_; conv => whnf)) | (refine quo_id ?_; first | (refine quo_in (by omega) (by (first | (simp only [Int.reduceAdd, Int.reduceSub, Int.reduceMul, Int.reduceNeg, Int.reduceMod, Int.reduceDiv, Int.reduceTMod, Int.reduceTDiv, Int.zero_add, Int.add_zero] <;> rfl) | rfl)) (by (dsimp only [inR]; first | decide | omega)) ?_; conv => whnf) | (refine quo_t (by omega) (by (dsimp only [inR]; first | decide | omega)) ?_; conv => whnf)) | (refine rem_id ?_; first | (refine rem_in (by omega) (by (first | (simp only [Int.reduceAdd, Int.reduceSub, Int.reduceMul, Int.reduceNeg, Int.reduceMod, Int.reduceDiv, Int.reduceTMod, Int.reduceTDiv, Int.zero_add, Int.add_zero] <;> rfl) | rfl)) ?_; conv => whnf) | (refine rem_t (by omega) ?_; conv => whnf)) | (refine app_id ?_; refine app_i (by (first | (simp only [Nat.zero_add, Nat.add_zero, Nat.mul_one, Nat.reduceAdd, Nat.reduceMul, Int.reduceToNat, Int.toNat_natCast, Int.toNat_zero, Int.toNat_one, Nat.zero_mul] <;> rfl) | rfl)) (by (first | (simp only [List.nil_append, List.cons_append, List.append_nil] <;> rfl) | rfl)) (by first | omega | (change _ * 1 ≤ _; omega) | (change _ * 8 ≤ _; omega) | (change _ * 2 ≤ _; omega) | (change _ * 4 ≤ _; omega) | (change _ * 16 ≤ _; omega) | (change _ * 24 ≤ _; omega) | (change _ * 32 ≤ _; omega) | (change _ * 40 ≤ _; omega)) (by first | omega | decide) ?_; intro _ _ _; conv => whnf) | (refine mk_id ?_; first | (refine mk_lit (by rfl) (by rfl) (by decide) (by rfl) ?_; conv => whnf) | (refine mk_sym _ (by first | rfl | omega) (by first | rfl | omega) (by omega) (by omega) ?_; conv => whnf)) | (refine sl_id ?_; first | (refine sl_preS 91 (by omega) hm1 ?_; conv => whnf) | (refine sl_preS 92 (by omega) hm2 ?_; conv => whnf)) | (refine x_rnd ?_) | (refine x_rnd' ?_) | (refine xdrw_id ?_; first | (refine x_drw tab_ok (id := 9) [] [] [0, 1, 2, 3, 4, 5, 6, 7] followsMixed (by kernel_rfl) (by rfl) (by rfl) ?_; conv => whnf)))
    (refine fin_ret ?_)
    first | rfl | exact congrArg Value.bool (@decide_eq_true _ (_) (by simp [cellEq]))
theorem plantLife_walk (v : Value) (A2 : Option Addr) (n2 cp2 : Nat) (zs : List Int) (a : Int) (w : World) (ht : Tz w)
    (hv : okD w (.s [.i .u8, .i .u8]) v) (hr : IRow .i64 w A2 n2 zs) (hle : n2 ≤ cp2) (hmx : cp2 ≤ maxLen) (hz : ∀ z ∈ zs, inR .i64 z) (hnl : A2 = none → n2 = 0 ∧ cp2 = 0) (ha : inR .u8 a) :
    Calls Tryd.prog 10 #[v, .slice A2 n2 cp2, .int .u8 a] w fun e w' => e = .returned (.bool true) ∧ Below w.heap.size w w' := by
  obtain ⟨A1, n1, c1, rs, rfl, h1, h2, hrr, hrk⟩ := rrow_of hv
  have e : maxLen = 9223372036854775807 := rfl
  exact (plantLife_ret 0 A1 n1 c1 rs 0 A2 n2 cp2 zs a w ht hrr h1 (by omega) hrk hr hle (by omega) (by dsimp only [inR] at ha; omega)).below
end Go.Proofs.YtihboegopigkmaaDoor
