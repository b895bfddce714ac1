/- Journals: the journal holds just the last entries. -/
import Derived.Test.YtjbjnkjilgndmaaEr
import Derived.Test.YtjbjnkjilgndmaaDp
namespace Go.Proofs.Ytjbjnkjilgndmaa.RE
set_option linter.unusedSimpArgs false
set_option linter.unusedVariables false
set_option linter.unnecessarySimpa false
set_option maxRecDepth 100000
set_option maxHeartbeats 4000000
open Go.RowKit

def shift (A : Option Addr) (k : Nat) : Option Addr := A.map (·.add k)
theorem ERow.drop {w : World} {A : Option Addr} {n : Nat} {zs : List En} (h : ERow w A n zs) (k : Nat) (hk : k ≤ n) : ERow w (shift A (k * 5)) (n - k) (zs.drop k) := by
  obtain ⟨hl, h2⟩ := h
  refine ⟨by rw [List.length_drop, hl], fun h0 => ?_⟩
  obtain ⟨b, off, rfl, hc⟩ := h2 (by omega)
  refine ⟨b, off + k * 5, by simp [shift, Addr.add], fun j hj i u hu => ?_⟩
  have e : (zs.drop k).getD j e0 = zs.getD (k + j) e0 := by simp [List.getD]
  rw [e] at hu
  have := hc (k + j) (by omega) i u hu
  rwa [show off + (k + j) * 5 + i = off + k * 5 + j * 5 + i by omega] at this
theorem erow_own {w0 w : World} {S : List Nat} {mem : Mem} {e : TypeId} {A : Option Addr} {n c : Nat} {zs : List En} (hz : zs.length = n) (hl : Loc w0 S (denM mem) w) (hat : At (denM mem) (own e 5 (.slice A n c) n (valsE zs))) : ERow w A n zs := by
  refine ⟨hz, fun h0 => ?_⟩
  obtain ⟨b, hA⟩ := row_some hl hat h0
  refine ⟨b, 0, hA, fun j hj i u hu => ?_⟩
  have hi : i < 5 := (List.getElem?_eq_some_iff.1 hu).1
  exact own_cellS (hl.holds _ hat.mem) hA (by omega) (by rw [Nat.zero_add]; exact drop_get (valsE_sub (by omega)) i u hu)
theorem ERow.loc {w0 w : World} {is : List Itm} {A : Option Addr} {n : Nat} {zs : List En} (h : ERow w0 A n zs) (hl : Loc w0 [] is w) : ERow w A n zs := ⟨h.1, fun h0 => by
  obtain ⟨b, off, hA, hc⟩ := h.2 h0
  exact ⟨b, off, hA, fun j hj i u hu => hl.old (hc j hj i u hu) (by simp)⟩⟩
theorem ixs_E {w : World} {A : Option Addr} {n j : Nat} {zs : List En} {X : Nat → Nat → Prop} (hr : ERow w A n zs) (h : j < n)
    (nx : ∀ b o, (∀ i u, (dens (zs.getD j e0).svs)[i]? = some u → w.cell? ⟨b, o + (j : Int).toNat * 5 + i, none⟩ = some u) → X b (o + (j : Int).toNat * 5)) : LIxS A (j : Int) n 5 X := by
  obtain ⟨b, o, hA, hc⟩ := hr.2 (by omega)
  exact ⟨by omega, by omega, b, o, hA, nx b o (by rw [Int.toNat_natCast]; exact hc j h)⟩
theorem cellE_refl (x : En) : cellEq x.svs x.svs := by simp [cellEq, En.svs]
theorem sameE_T (h h' : Nat) (A A' : Option Addr) (n n' cp cp' : Nat) (zs ys : List En) (w : World) (hr : ERow w A n zs) (hr' : ERow w A' n' ys) (hn : n ≤ 1000000) (he : zs = ys) :
    RetS Try.prog 59 [.sl h A n cp, .sl h' A' n' cp'] w (.lit true) := by
  subst he
  have hlen := hr.1
  have hlen' := hr'.1
  obtain rfl : n = n' := by omega
  refine ret_x tab_ok Try.func59 rfl Try.ntmps59 (by rfl) ?_; simp only [argX, Nat.reduceAdd, Nat.zero_add]; conv => whnf
  repeat' (first | (refine run_c tab_ok ?_; conv => whnf) | (refine side_id ?_; refine side_i (by first | rfl | exact ⟨rfl, rfl, rfl, rfl⟩ | trivial | (simp [allOne, partsOne, Value.cells, Value.oneCell']; done) | fail) ?_; conv => whnf) | (refine ar_id ?_; first | (refine ar_in (by (first | (simp only [Int.reduceAdd, Int.reduceSub, Int.reduceMul, Int.reduceNeg, Int.reduceMod, Int.reduceDiv, Int.reduceTMod, Int.reduceTDiv, Int.zero_add, Int.add_zero] <;> rfl) | rfl)) (by (dsimp only [inR]; first | decide | omega)) ?_; conv => whnf)) | (refine new_i ?_; intro _; conv => whnf) | (refine br_id ?_; first | (refine br_t (by first | decide | omega | (with_reducible rfl) | fail | (simp only [cellEq, toB]; omega) | (simp only [cellEq, toB]; simp; done) | fail) ?_; conv => whnf) | (refine br_f (by first | decide | omega | (with_reducible exact Bool.false_ne_true) | (with_reducible refine not_not_intro ?_; fail) | (simp only [cellEq, toB]; omega) | (simp only [cellEq, toB]; simp; done) | fail) ?_; conv => whnf) | ((refine br_any (fun h => ?_) (fun h => ?_) <;> (try simp only [cellEq, toB, Bool.not_eq_true, Bool.not_eq_false] at h) <;> (try (exfalso; first | omega | contradiction | (simp at h; done) | fail); done) <;> conv => whnf))) | (refine ix_id ?_; first | (refine ix_lit (by first | decide | omega) (by (first | (simp only [Nat.zero_add, Nat.add_zero, Nat.mul_one, Nat.reduceAdd, Nat.reduceMul, Int.reduceToNat, Int.toNat_natCast, Int.toNat_zero, Int.toNat_one, Nat.zero_mul] <;> rfl) | rfl)) (by rfl) ?_; conv => whnf) | (refine ix_sym (by omega) ?_; conv => whnf)) | (refine lload_id ?_; first | (first | (refine load_oldS (zs.getD j e0).svs rfl (by exact hc1) (by simp) ?_; conv => whnf) | (refine load_oldS (zs.getD j e0).svs rfl (by exact hc2) (by simp) ?_; conv => whnf)) | (refine load_old _ (by with_reducible assumption) (by simp; done) ?_; conv => whnf)) | (refine lixs_id ?_; first | (refine ixs_E hr (by omega) ?_; intro _ _ hc1; conv => whnf) | (refine ixs_E hr' (by omega) ?_; intro _ _ hc2; conv => whnf)) | (refine ex_id ?_; first | (refine ex_z (by (first | (simp only [Int.reduceAdd, Int.reduceSub, Int.reduceMul, Int.reduceNeg, Int.reduceMod, Int.reduceDiv, Int.reduceTMod, Int.reduceTDiv, Int.zero_add, Int.add_zero] <;> rfl) | rfl)) ?_; conv => whnf)) | (refine sh_id ?_; first | (refine sh_z (by omega) (by (first | (simp only [Int.reduceAdd, Int.reduceSub, Int.reduceMul, Int.reduceNeg, Int.reduceMod, Int.reduceDiv, Int.reduceTMod, Int.reduceTDiv, Int.zero_add, Int.add_zero] <;> rfl) | rfl)) ?_; conv => whnf)) | (refine quo_id ?_; first | (refine quo_in (by omega) (by (first | (simp only [Int.reduceAdd, Int.reduceSub, Int.reduceMul, Int.reduceNeg, Int.reduceMod, Int.reduceDiv, Int.reduceTMod, Int.reduceTDiv, Int.zero_add, Int.add_zero] <;> rfl) | rfl)) (by (dsimp only [inR]; first | decide | omega)) ?_; conv => whnf) | (refine quo_t (by omega) (by (dsimp only [inR]; first | decide | omega)) ?_; conv => whnf)) | (refine rem_id ?_; first | (refine rem_in (by omega) (by (first | (simp only [Int.reduceAdd, Int.reduceSub, Int.reduceMul, Int.reduceNeg, Int.reduceMod, Int.reduceDiv, Int.reduceTMod, Int.reduceTDiv, Int.zero_add, Int.add_zero] <;> rfl) | rfl)) ?_; conv => whnf) | (refine rem_t (by omega) ?_; conv => whnf)) | (refine app_id ?_; refine app_i (by (first | (simp only [Nat.zero_add, Nat.add_zero, Nat.mul_one, Nat.reduceAdd, Nat.reduceMul, Int.reduceToNat, Int.toNat_natCast, Int.toNat_zero, Int.toNat_one, Nat.zero_mul] <;> rfl) | rfl)) (by (first | (simp only [List.nil_append, List.cons_append, List.append_nil] <;> rfl) | rfl)) (by first | omega | (change _ * 1 ≤ _; omega) | (change _ * 8 ≤ _; omega) | (change _ * 2 ≤ _; omega) | (change _ * 4 ≤ _; omega) | (change _ * 16 ≤ _; omega) | (change _ * 24 ≤ _; omega) | (change _ * 32 ≤ _; omega) | (change _ * 40 ≤ _; omega)) (by first | omega | decide) ?_; intro _ _ _; conv => whnf) | (refine mk_id ?_; first | (refine mk_lit (by rfl) (by rfl) (by decide) (by rfl) ?_; conv => whnf) | (refine mk_sym _ (by first | rfl | omega) (by first | rfl | omega) (by omega) (by omega) ?_; conv => whnf)) | (refine x_rnd ?_) | (refine x_rnd' ?_) | (refine xdrw_id ?_; first | (refine x_drw tab_ok (id := 6) [] [] [0, 1, 2, 3, 4, 5, 6, 7, 8] followsMixed (by kernel_rfl) (by rfl) (by rfl) ?_; conv => whnf)))
  refine x_loopA [] (fun j : Nat => [(13, .int .i64 j)]) (fun _ => []) (fun j => j ≤ n) (fun j => n - j) 0 (by rfl) (by rfl) (by rfl) (by omega) (by (repeat (first | exact trivial | ((conv => whnf); refine And.intro (by first | rfl | exact congrArg (Value.int _) (by omega)) ?_)))) (by (repeat (first | exact trivial | ((conv => whnf); refine And.intro (by rfl) ?_)))) ?_
  rintro j hj
  dsimp only [appF, appM]
  repeat' (first | (refine run_c tab_ok ?_; conv => whnf) | (refine side_id ?_; refine side_i (by first | rfl | exact ⟨rfl, rfl, rfl, rfl⟩ | trivial | (simp [allOne, partsOne, Value.cells, Value.oneCell']; done) | fail) ?_; conv => whnf) | (refine ar_id ?_; first | (refine ar_in (by (first | (simp only [Int.reduceAdd, Int.reduceSub, Int.reduceMul, Int.reduceNeg, Int.reduceMod, Int.reduceDiv, Int.reduceTMod, Int.reduceTDiv, Int.zero_add, Int.add_zero] <;> rfl) | rfl)) (by (dsimp only [inR]; first | decide | omega)) ?_; conv => whnf)) | (refine new_i ?_; intro _; conv => whnf) | (refine br_id ?_; first | (refine br_t (by first | decide | omega | (with_reducible rfl) | fail | (simp only [cellEq, toB]; omega) | (simp only [cellEq, toB]; simp; done) | fail) ?_; conv => whnf) | (refine br_f (by first | decide | omega | (with_reducible exact Bool.false_ne_true) | (with_reducible refine not_not_intro ?_; fail) | (simp only [cellEq, toB]; omega) | (simp only [cellEq, toB]; simp; done) | fail) ?_; conv => whnf) | ((refine br_any (fun h => ?_) (fun h => ?_) <;> (try simp only [cellEq, toB, Bool.not_eq_true, Bool.not_eq_false] at h) <;> (try (exfalso; first | omega | contradiction | (simp at h; done) | fail); done) <;> conv => whnf))) | (refine ix_id ?_; first | (refine ix_lit (by first | decide | omega) (by (first | (simp only [Nat.zero_add, Nat.add_zero, Nat.mul_one, Nat.reduceAdd, Nat.reduceMul, Int.reduceToNat, Int.toNat_natCast, Int.toNat_zero, Int.toNat_one, Nat.zero_mul] <;> rfl) | rfl)) (by rfl) ?_; conv => whnf) | (refine ix_sym (by omega) ?_; conv => whnf)) | (refine lload_id ?_; first | (first | (refine load_oldS (zs.getD j e0).svs rfl (by exact hc1) (by simp) ?_; conv => whnf) | (refine load_oldS (zs.getD j e0).svs rfl (by exact hc2) (by simp) ?_; conv => whnf)) | (refine load_old _ (by with_reducible assumption) (by simp; done) ?_; conv => whnf)) | (refine lixs_id ?_; first | (refine ixs_E hr (by omega) ?_; intro _ _ hc1; conv => whnf) | (refine ixs_E hr' (by omega) ?_; intro _ _ hc2; conv => whnf)) | (refine ex_id ?_; first | (refine ex_z (by (first | (simp only [Int.reduceAdd, Int.reduceSub, Int.reduceMul, Int.reduceNeg, Int.reduceMod, Int.reduceDiv, Int.reduceTMod, Int.reduceTDiv, Int.zero_add, Int.add_zero] <;> rfl) | rfl)) ?_; conv => whnf)) | (refine sh_id ?_; first | (refine sh_z (by omega) (by (first | (simp only [Int.reduceAdd, Int.reduceSub, Int.reduceMul, Int.reduceNeg, Int.reduceMod, Int.reduceDiv, Int.reduceTMod, Int.reduceTDiv, Int.zero_add, Int.add_zero] <;> rfl) | rfl)) ?_; conv => whnf)) | (refine quo_id ?_; first | (refine quo_in (by omega) (by (first | (simp only [Int.reduceAdd, Int.reduceSub, Int.reduceMul, Int.reduceNeg, Int.reduceMod, Int.reduceDiv, Int.reduceTMod, Int.reduceTDiv, Int.zero_add, Int.add_zero] <;> rfl) | rfl)) (by (dsimp only [inR]; first | decide | omega)) ?_; conv => whnf) | (refine quo_t (by omega) (by (dsimp only [inR]; first | decide | omega)) ?_; conv => whnf)) | (refine rem_id ?_; first | (refine rem_in (by omega) (by (first | (simp only [Int.reduceAdd, Int.reduceSub, Int.reduceMul, Int.reduceNeg, Int.reduceMod, Int.reduceDiv, Int.reduceTMod, Int.reduceTDiv, Int.zero_add, Int.add_zero] <;> rfl) | rfl)) ?_; conv => whnf) | (refine rem_t (by omega) ?_; conv => whnf)) | (refine app_id ?_; refine app_i (by (first | (simp only [Nat.zero_add, Nat.add_zero, Nat.mul_one, Nat.reduceAdd, Nat.reduceMul, Int.reduceToNat, Int.toNat_natCast, Int.toNat_zero, Int.toNat_one, Nat.zero_mul] <;> rfl) | rfl)) (by (first | (simp only [List.nil_append, List.cons_append, List.append_nil] <;> rfl) | rfl)) (by first | omega | (change _ * 1 ≤ _; omega) | (change _ * 8 ≤ _; omega) | (change _ * 2 ≤ _; omega) | (change _ * 4 ≤ _; omega) | (change _ * 16 ≤ _; omega) | (change _ * 24 ≤ _; omega) | (change _ * 32 ≤ _; omega) | (change _ * 40 ≤ _; omega)) (by first | omega | decide) ?_; intro _ _ _; conv => whnf) | (refine mk_id ?_; first | (refine mk_lit (by rfl) (by rfl) (by decide) (by rfl) ?_; conv => whnf) | (refine mk_sym _ (by first | rfl | omega) (by first | rfl | omega) (by omega) (by omega) ?_; conv => whnf)) | (refine x_rnd ?_) | (refine x_rnd' ?_) | (refine xdrw_id ?_; first | (refine x_drw tab_ok (id := 6) [] [] [0, 1, 2, 3, 4, 5, 6, 7, 8] followsMixed (by kernel_rfl) (by rfl) (by rfl) ?_; conv => whnf)))
  · exact absurd (cellE_refl _) h
  · refine x_roundA (j + 1) (by omega) (by omega) (by (repeat (first | exact trivial | ((conv => whnf); refine And.intro (by first | rfl | exact congrArg (Value.int _) (by omega)) ?_)))) (by (repeat (first | exact trivial | ((conv => whnf); refine And.intro rfl ?_)))) (by (repeat (first | exact trivial | ((conv => whnf); refine And.intro (by rfl) ?_))))
  · (refine fin_ret ?_)
    rfl
theorem shift_zero (A : Option Addr) : shift A (0 * 5) = A := by
  cases A with
  | none => rfl
  | some a => simp [shift, Addr.add]
theorem sl_suf {A : Option Addr} {c lo' n2 c2 : Nat} {lo hi : Int} {X : SV → Prop} (tag : Nat) (h : 0 ≤ lo ∧ lo ≤ hi ∧ hi ≤ c ∧ lo < c) (hlo : lo.toNat = lo') (hn : hi.toNat - lo.toNat = n2) (hc : c - lo.toNat = c2) (nx : X (.sl tag (shift A (lo' * 5)) n2 c2)) : LSl A c 5 lo hi X := by
  subst hlo hn hc
  refine ⟨h.1, h.2.1, h.2.2.1, .sl tag (shift A (lo.toNat * 5)) (hi.toNat - lo.toNat) (c - lo.toNat), ?_, nx⟩
  rw [if_neg (by omega)]; rfl
theorem last_S (h : Nat) (A : Option Addr) (n c room : Nat) (w : World) (hr : 1 ≤ room ∧ room ≤ 16) (hn : n ≤ c) (hc : c ≤ 9223372036854775807) :
    RetS Try.prog 60 [.sl h A n c, i64 room] w (.sl 73 (shift A ((n - room) * 5)) (min n room) (c - (n - room))) := by
  refine ret_x tab_ok Try.func60 rfl Try.ntmps60 (by rfl) ?_; simp only [argX, Nat.reduceAdd, Nat.zero_add]; conv => whnf
  repeat' (first | (refine run_c tab_ok ?_; conv => whnf) | (refine side_id ?_; refine side_i (by first | rfl | exact ⟨rfl, rfl, rfl, rfl⟩ | trivial | (simp [allOne, partsOne, Value.cells, Value.oneCell']; done) | fail) ?_; conv => whnf) | (refine ar_id ?_; first | (refine ar_in (by (first | (simp only [Int.reduceAdd, Int.reduceSub, Int.reduceMul, Int.reduceNeg, Int.reduceMod, Int.reduceDiv, Int.reduceTMod, Int.reduceTDiv, Int.zero_add, Int.add_zero] <;> rfl) | rfl)) (by (dsimp only [inR]; first | decide | omega)) ?_; conv => whnf)) | (refine new_i ?_; intro _; conv => whnf) | (refine br_id ?_; first | (refine br_t (by first | decide | omega | (with_reducible rfl) | fail | (simp only [cellEq, toB]; omega) | (simp only [cellEq, toB]; simp; done) | fail) ?_; conv => whnf) | (refine br_f (by first | decide | omega | (with_reducible exact Bool.false_ne_true) | (with_reducible refine not_not_intro ?_; fail) | (simp only [cellEq, toB]; omega) | (simp only [cellEq, toB]; simp; done) | fail) ?_; conv => whnf) | ((refine br_any (fun h => ?_) (fun h => ?_) <;> (try simp only [cellEq, toB, Bool.not_eq_true, Bool.not_eq_false] at h) <;> (try (exfalso; first | omega | contradiction | (simp at h; done) | fail); done) <;> conv => whnf))) | (refine ix_id ?_; first | (refine ix_lit (by first | decide | omega) (by (first | (simp only [Nat.zero_add, Nat.add_zero, Nat.mul_one, Nat.reduceAdd, Nat.reduceMul, Int.reduceToNat, Int.toNat_natCast, Int.toNat_zero, Int.toNat_one, Nat.zero_mul] <;> rfl) | rfl)) (by rfl) ?_; conv => whnf) | (refine ix_sym (by omega) ?_; conv => whnf)) | (refine lload_id ?_; first | (refine load_old _ (by with_reducible assumption) (by simp; done) ?_; conv => whnf)) | (refine ex_id ?_; first | (refine ex_z (by (first | (simp only [Int.reduceAdd, Int.reduceSub, Int.reduceMul, Int.reduceNeg, Int.reduceMod, Int.reduceDiv, Int.reduceTMod, Int.reduceTDiv, Int.zero_add, Int.add_zero] <;> rfl) | rfl)) ?_; conv => whnf)) | (refine sh_id ?_; first | (refine sh_z (by omega) (by (first | (simp only [Int.reduceAdd, Int.reduceSub, Int.reduceMul, Int.reduceNeg, Int.reduceMod, Int.reduceDiv, Int.reduceTMod, Int.reduceTDiv, Int.zero_add, Int.add_zero] <;> rfl) | rfl)) ?_; conv => whnf)) | (refine quo_id ?_; first | (refine quo_in (by omega) (by (first | (simp only [Int.reduceAdd, Int.reduceSub, Int.reduceMul, Int.reduceNeg, Int.reduceMod, Int.reduceDiv, Int.reduceTMod, Int.reduceTDiv, Int.zero_add, Int.add_zero] <;> rfl) | rfl)) (by (dsimp only [inR]; first | decide | omega)) ?_; conv => whnf) | (refine quo_t (by omega) (by (dsimp only [inR]; first | decide | omega)) ?_; conv => whnf)) | (refine rem_id ?_; first | (refine rem_in (by omega) (by (first | (simp only [Int.reduceAdd, Int.reduceSub, Int.reduceMul, Int.reduceNeg, Int.reduceMod, Int.reduceDiv, Int.reduceTMod, Int.reduceTDiv, Int.zero_add, Int.add_zero] <;> rfl) | rfl)) ?_; conv => whnf) | (refine rem_t (by omega) ?_; conv => whnf)) | (refine app_id ?_; refine app_i (by (first | (simp only [Nat.zero_add, Nat.add_zero, Nat.mul_one, Nat.reduceAdd, Nat.reduceMul, Int.reduceToNat, Int.toNat_natCast, Int.toNat_zero, Int.toNat_one, Nat.zero_mul] <;> rfl) | rfl)) (by (first | (simp only [List.nil_append, List.cons_append, List.append_nil] <;> rfl) | rfl)) (by first | omega | (change _ * 1 ≤ _; omega) | (change _ * 8 ≤ _; omega) | (change _ * 2 ≤ _; omega) | (change _ * 4 ≤ _; omega) | (change _ * 16 ≤ _; omega) | (change _ * 24 ≤ _; omega) | (change _ * 32 ≤ _; omega) | (change _ * 40 ≤ _; omega)) (by first | omega | decide) ?_; intro _ _ _; conv => whnf) | (refine mk_id ?_; first | (refine mk_lit (by rfl) (by rfl) (by decide) (by rfl) ?_; conv => whnf) | (refine mk_sym _ (by first | rfl | omega) (by first | rfl | omega) (by omega) (by omega) ?_; conv => whnf)) | (refine sl_id ?_; (refine sl_suf 73 (by omega) (show _ = n - room by omega) (show _ = min n room by omega) (show _ = c - (n - room) by omega) ?_; conv => whnf)) | (refine x_rnd ?_) | (refine x_rnd' ?_))
  · (refine fin_ret ?_)
    rfl
  · rw [show n - room = 0 by omega, shift_zero, show min n room = n by omega]
    (refine fin_ret ?_)
    rfl
theorem erow_of {w : World} {v : Value} (h : okD w (.s [.i .u32, .i .u32, .i .u8, .i .u8, .i .u32]) v) : ∃ A n c zs, v = .slice A n c ∧ n ≤ c ∧ c ≤ maxLen ∧ ERow w A n zs ∧ ∀ x ∈ zs, x.ok := by
  rw [okD] at h
  obtain ⟨A, n, c, rfl, h1, h2, _, h4⟩ := h
  by_cases hn : 0 < n
  · obtain ⟨b, o, hA, hc⟩ := h4 hn
    have hx : ∀ j, ∃ r : En, r.ok ∧ (j < n → ∀ i u, (dens r.svs)[i]? = some u → w.cell? ⟨b, o + j * 5 + i, none⟩ = some u) := fun j => by
      by_cases hj : j < n
      · obtain ⟨cs, hcs, hok⟩ := hc j hj
        simp only [okDs] at hok
        obtain ⟨v1, r1, rfl, ⟨x1, rfl, i1⟩, v2, r2, rfl, ⟨x2, rfl, i2⟩, v3, r3, rfl, ⟨x3, rfl, i3⟩, v4, r4, rfl, ⟨x4, rfl, i4⟩, v5, r5, rfl, ⟨x5, rfl, i5⟩, rfl⟩ := hok
        simp only [inR] at i1 i2 i3 i4 i5
        exact ⟨⟨x1, x2, x3, x4, x5⟩, by simp only [En.ok]; omega, fun _ i u hu => hcs i u hu⟩
      · exact ⟨e0, by simp [En.ok, e0], fun h => absurd h hj⟩
    refine ⟨A, n, c, (List.range n).map fun j => (hx j).choose, rfl, h1, h2, ⟨by simp, fun _ => ⟨b, o, hA, fun j hj => ?_⟩⟩, fun x hm => ?_⟩
    · rw [List.getD_eq_getElem?_getD, List.getElem?_map, List.getElem?_range hj]
      exact (hx j).choose_spec.2 hj
    · simp only [List.mem_map, List.mem_range] at hm
      obtain ⟨j, _, rfl⟩ := hm
      exact (hx j).choose_spec.1
  · obtain rfl : n = 0 := by omega
    exact ⟨A, 0, c, [], rfl, h1, h2, ⟨rfl, fun h => absurd h hn⟩, fun x hm => by cases hm⟩
/-- What is noted of a list. -/
def noted (zs : List En) (n : Nat) : List En := (List.range n).map fun i => noteE i (zs.getD i e0).t (zs.getD i e0).e (zs.getD i e0).g (zs.getD i e0).d
theorem noted_len (zs : List En) (n : Nat) : (noted zs n).length = n := by simp [noted]
theorem noted_succ (zs : List En) (n : Nat) : noted zs (n + 1) = noted zs n ++ [noteE n (zs.getD n e0).t (zs.getD n e0).e (zs.getD n e0).g (zs.getD n e0).d] := by simp [noted, List.range_succ]
theorem note_N (zs : List En) (K N bj b bL : Nat) (hK : 1 ≤ K ∧ K ≤ 16) (hN : N ≤ 255) (w : World) (H : JW w bj b bL N (JN K (noted zs N))) :
    RetX Try.prog 50 [.ptr 61 bj 0, u32 (zs.getD N e0).t, u8 (zs.getD N e0).e, u8 (zs.getD N e0).g, u32 (zs.getD N e0).d] w [bj, b, bL] (JR1 61 62 63 bj b bL (N + 1) (JN K (noted zs (N + 1))) (noteE N (zs.getD N e0).t (zs.getD N e0).e (zs.getD N e0).g (zs.getD N e0).d).sv) := by
  have := note_X 61 62 63 bj b bL N _ (zs.getD N e0).t (zs.getD N e0).e (zs.getD N e0).g (zs.getD N e0).d w H (JN_f hK _).ok (by omega)
  rw [JN_snoc, ← noted_succ zs N] at this
  exact this
theorem last_N (K bj b bL N : Nat) (L : List En) (x : En) (hK : 1 ≤ K ∧ K ≤ 16) (w : World) (H : JW w bj b bL N (JN K (L ++ [x]))) :
    RetS Try.prog 58 [.ptr 61 bj 0] w (.tup [x.sv, .lit true]) := by
  have hF := JN_f hK (L ++ [x])
  have hn := hF.n
  rw [List.length_append, List.length_singleton] at hn
  have := jlast_S 61 bj b bL N (JN K (L ++ [x])) w H hF.ok
  rw [if_pos (by omega)] at this
  have h1 := (JN K (L ++ [x])).list_get (i := (JN K (L ++ [x])).n - 1) (by omega)
  rw [hF.list] at h1
  rw [← h1] at this
  have h2 : (lastN K (L ++ [x])).getD ((JN K (L ++ [x])).n - 1) e0 = x := by
    unfold lastN
    rw [List.getD_eq_getElem?_getD, List.getElem?_drop, List.length_append, List.length_singleton, show L.length + 1 - K + ((JN K (L ++ [x])).n - 1) = L.length by omega]
    simp
  rw [h2] at this
  exact this
end Go.Proofs.Ytjbjnkjilgndmaa.RE
