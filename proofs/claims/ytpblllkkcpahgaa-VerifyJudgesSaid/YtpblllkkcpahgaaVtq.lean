/- Layer 12 (verify): the statements' table; the reports. -/
import Derived.Test.YtpblllkkcpahgaaVcq
import Derived.Test.YtpblllkkcpahgaaGzq
namespace Go.Proofs.Ytpblllkkcpahgaa
set_option linter.unusedSimpArgs false
set_option linter.unusedVariables false
set_option linter.unnecessarySimpa false
set_option maxRecDepth 100000
set_option maxHeartbeats 4000000
open Go.RowKit

/-- A row of the statements' tables. -/
structure Vr where
  (s b l m : Int)
def Vr.svs (x : Vr) : List SV := [u8 x.s, u8 x.b, i64 x.l, i64 x.m]
def Vr.ok (x : Vr) : Prop := U8 x.s ∧ U8 x.b ∧ inR .i64 x.l ∧ inR .i64 x.m
def v0 : Vr := ⟨0, 0, 0, 0⟩
def valsV : List Vr → List Value
  | [] => []
  | x :: l => dens x.svs ++ valsV l
theorem valsV_len : ∀ l : List Vr, (valsV l).length = l.length * 4
  | [] => rfl
  | x :: l => by rw [valsV, List.length_append, valsV_len l, List.length_cons]; simp [dens_length, Vr.svs]; omega
theorem valsV_sub : ∀ {l : List Vr} {i : Nat}, i < l.length → ((valsV l).drop (i * 4)).take 4 = dens (l.getD i v0).svs
  | x :: l, 0, _ => rfl
  | x :: l, i + 1, h => by
    have ih := valsV_sub (l := l) (i := i) (by simpa using h)
    have e : (valsV (x :: l)).drop ((i + 1) * 4) = (valsV l).drop (i * 4) := by
      rw [show (i + 1) * 4 = 4 + i * 4 by omega, valsV, ← List.drop_drop]; rfl
    rw [e, ih]
    simp [List.getD]
theorem valsV_one : ∀ (l : List Vr), ∀ u ∈ valsV l, u.oneCell' = true
  | [], u, h => by cases h
  | x :: l, u, h => by
    rcases List.mem_append.1 h with h | h
    · simp only [Vr.svs, dens, SV.den, List.mem_cons, List.not_mem_nil, or_false] at h
      rcases h with rfl | rfl | rfl | rfl <;> rfl
    · exact valsV_one l u h
/-- A slice of rows that reads as a list. -/
def VRow (w : World) (A : Option Addr) (n : Nat) (R : List Vr) : Prop := R.length = n ∧ (0 < n → ∃ b off, A = some ⟨b, off, none⟩ ∧ ∀ j u, (valsV R)[j]? = some u → w.cell? ⟨b, off + j, none⟩ = some u)
theorem VRow.loc {w0 w : World} {is : List Itm} {A : Option Addr} {n : Nat} {R : List Vr} (h : VRow w0 A n R) (hl : Loc w0 [] is w) : VRow w A n R := ⟨h.1, fun h0 => by
  obtain ⟨b, off, hA, hc⟩ := h.2 h0
  exact ⟨b, off, hA, fun j u hu => hl.old (hc j u hu) (by simp)⟩⟩
theorem vrow_own {w0 w : World} {S : List Nat} {mem : Mem} {e : TypeId} {A : Option Addr} {n c : Nat} {R : List Vr} (hz : R.length = n) (hl : Loc w0 S (denM mem) w) (hat : At (denM mem) (own e 4 (.slice A n c) n (valsV R))) : VRow w A n R := by
  refine ⟨hz, fun h0 => ?_⟩
  obtain ⟨b, hA⟩ := row_some hl hat h0
  refine ⟨b, 0, hA, fun j u hu => ?_⟩
  have hj := (List.getElem?_eq_some_iff.1 hu).1
  rw [valsV_len, hz] at hj
  exact own_cellS (hl.holds _ hat.mem) hA (by rw [Nat.zero_add]; exact hj) (by rw [Nat.zero_add]; exact hu)
theorem valsV_take (R : List Vr) (m : Nat) (j : Nat) (u : Value) (h : (valsV (R.take m))[j]? = some u) : (valsV R)[j]? = some u := by
  have e : valsV R = valsV (R.take m) ++ valsV (R.drop m) := by
    conv => lhs; rw [← List.take_append_drop m R]
    generalize R.take m = X
    induction X with
    | nil => rfl
    | cons x l ih => rw [List.cons_append, valsV, valsV, ih, List.append_assoc]
  rw [e, List.getElem?_append_left (List.getElem?_eq_some_iff.1 h).1]
  exact h
theorem VRow.pre {w : World} {A : Option Addr} {n m : Nat} {R : List Vr} (h : VRow w A n R) (hm : m ≤ n) : VRow w A m (R.take m) := by
  refine ⟨by rw [List.length_take, h.1]; omega, fun h0 => ?_⟩
  obtain ⟨b, off, hA, hc⟩ := h.2 (by omega)
  exact ⟨b, off, hA, fun j u hu => hc j u (valsV_take R m j u hu)⟩
theorem vrow_of {w : World} {v : Value} (h : okD w (.s [.i .u8, .i .u8, .i .i64, .i .i64]) v) : ∃ A n c R, v = .slice A n c ∧ n ≤ c ∧ c ≤ maxLen ∧ VRow w A n R ∧ (∀ r ∈ R, r.ok) ∧ (A = none → c = 0) := by
  rw [okD] at h
  obtain ⟨A, n, c, rfl, h1, h2, h3, h4⟩ := h
  by_cases hn : 0 < n
  · obtain ⟨b, o, hA, hc⟩ := h4 hn
    have hx : ∀ m, m ≤ n → ∃ R : List Vr, R.length = m ∧ (∀ r ∈ R, r.ok) ∧ ∀ j u, (valsV R)[j]? = some u → w.cell? ⟨b, o + j, none⟩ = some u := by
      intro m
      induction m with
      | zero => intro _; exact ⟨[], rfl, fun r hr => (nomatch hr), fun j u hu => by simp [valsV] at hu⟩
      | succ m ih =>
        intro hm
        obtain ⟨R, hR, hok, hcell⟩ := ih (by omega)
        obtain ⟨cs, hcs, hd⟩ := hc m (by omega)
        simp only [okDs, okD] at hd
        obtain ⟨w1, r1, rfl, ⟨x1, rfl, i1⟩, w2, r2, rfl, ⟨x2, rfl, i2⟩, w3, r3, rfl, ⟨x3, rfl, i3⟩, w4, r4, rfl, ⟨x4, rfl, i4⟩, rfl⟩ := hd
        refine ⟨R ++ [⟨x1, x2, x3, x4⟩], by simp [hR], fun r hr => ?_, fun j u hu => ?_⟩
        · rcases List.mem_append.1 hr with hr | hr
          · exact hok r hr
          · cases List.mem_singleton.1 hr
            simp only [inR] at i1 i2
            exact ⟨by unfold U8; dsimp only; omega, by unfold U8; dsimp only; omega, i3, i4⟩
        · have e : valsV (R ++ [⟨x1, x2, x3, x4⟩]) = valsV R ++ [.int .u8 x1, .int .u8 x2, .int .i64 x3, .int .i64 x4] := by
            clear hR hok hcell hu
            induction R with
            | nil => rfl
            | cons x l ih => rw [List.cons_append, valsV, valsV, ih, List.append_assoc]
          rw [e, List.getElem?_append] at hu
          split at hu
          · exact hcell j u hu
          · rename_i hj
            rw [valsV_len, hR] at hu hj
            have := hcs (j - m * 4) u hu
            rwa [show o + m * [DK.i .u8, .i .u8, .i .i64, .i .i64].length + (j - m * 4) = o + j by show o + m * 4 + (j - m * 4) = o + j; omega] at this
    obtain ⟨R, hR, hok, hcell⟩ := hx n (Nat.le_refl _)
    exact ⟨A, n, c, R, rfl, h1, h2, ⟨hR, fun _ => ⟨b, o, hA, hcell⟩⟩, hok, fun e => (h3 e).2⟩
  · obtain rfl : n = 0 := by omega
    exact ⟨A, 0, c, [], rfl, h1, h2, ⟨rfl, fun h => absurd h (Nat.lt_irrefl _)⟩, fun r hr => (nomatch hr), fun e => (h3 e).2⟩
def tabE (R : List Vr) : PE := R.foldl (fun E r => putE E (r.s, r.b) (r.l, r.m)) []
theorem tabE_snoc {R : List Vr} {j : Nat} (h : j < R.length) : tabE (R.take (j + 1)) = putE (tabE (R.take j)) ((R.getD j v0).s, (R.getD j v0).b) ((R.getD j v0).l, (R.getD j v0).m) := by
  unfold tabE
  rw [List.take_add_one, List.foldl_append, List.getElem?_eq_getElem h]
  simp [List.getD, List.getElem?_eq_getElem h]
def TabR (tm tr : Nat) (R : List Vr) (v : SV) (mi : Mem) : Prop := ∃ bm A c, v = .tup [.val (.map (some bm)), .sl tr A R.length c] ∧ mi = [.oth tm (mapV bm (tabE R)), .row tr 110 4 A R.length c (valsV R)] ∧ RF A R.length c
theorem table_X (tm tr : Nat) (h : Nat) (A : Option Addr) (n cp : Nat) (R0 : List Vr) (w : World) (hr0 : VRow w A n R0) (hle : n ≤ cp) (hn : n ≤ 9223372036854775807) (hn0 : A = none → cp = 0) :
    RetX Try.prog 50 [.sl h A n cp] w [] (TabR tm tr (R0.take 12)) := by
  obtain ⟨k, hk⟩ : ∃ k, min n 12 = k := ⟨_, rfl⟩
  have hr := hr0.pre (m := k) (by omega)
  have hk2 : R0.take 12 = R0.take k := by
    by_cases h12 : n ≤ 12
    · rw [List.take_of_length_le (by rw [hr0.1]; omega), List.take_of_length_le (by rw [hr0.1]; omega)]
    · rw [show k = 12 by omega]
  rw [hk2]
  generalize R0.take k = R at hr
  have hRl := hr.1
  refine retX_x tab_ok (mem0 := []) Try.func50 rfl Try.ntmps50 (by rfl) (.init w) ?_; simp only [argX, Nat.reduceAdd, Nat.zero_add]; conv => whnf
  repeat' (first | (refine run_c tab_ok ?_; conv => whnf) | (refine side_id ?_; refine side_i (by first | rfl | exact ⟨rfl, rfl, rfl, rfl⟩ | trivial | (simp [allOne, partsOne, Value.cells, Value.oneCell']; done) | fail) ?_; conv => whnf) | (refine ar_id ?_; first | (refine ar_in (by (first | (simp only [Int.reduceAdd, Int.reduceSub, Int.reduceMul, Int.reduceNeg, Int.reduceMod, Int.reduceDiv, Int.reduceTMod, Int.reduceTDiv, Int.zero_add, Int.add_zero] <;> rfl) | rfl)) (by (dsimp only [inR]; first | decide | omega)) ?_; conv => whnf)) | (refine new_i ?_; intro _; conv => whnf) | (refine br_id ?_; first | (refine br_t (by first | decide | omega | (with_reducible rfl) | fail | (simp only [cellEq, toB]; omega) | (simp only [cellEq, toB]; simp; done) | fail) ?_; conv => whnf) | (refine br_f (by first | decide | omega | (with_reducible exact Bool.false_ne_true) | (with_reducible refine not_not_intro ?_; fail) | (simp only [cellEq, toB]; omega) | (simp only [cellEq, toB]; simp; done) | fail) ?_; conv => whnf) | ((refine br_any (fun h => ?_) (fun h => ?_) <;> (try simp only [cellEq, toB, Bool.not_eq_true, Bool.not_eq_false] at h) <;> (try (exfalso; first | omega | contradiction | (simp at h; done) | fail); done) <;> conv => whnf))) | (refine ix_id ?_; first | (refine ix_lit (by first | decide | omega) (by (first | (simp only [Nat.zero_add, Nat.add_zero, Nat.mul_one, Nat.reduceAdd, Nat.reduceMul, Int.reduceToNat, Int.toNat_natCast, Int.toNat_zero, Int.toNat_one, Nat.zero_mul] <;> rfl) | rfl)) (by rfl) ?_; conv => whnf) | (refine ix_sym (by omega) ?_; conv => whnf)) | (refine lload_id ?_; first | ((refine load_rowS (R.getD j v0).svs (j * 4) (by show 0 + (j : Int).toNat * 4 = j * 4; omega) hA8 (by (first | ((repeat (first | (with_reducible exact am_blk) | (with_reducible exact am_row) | (with_reducible exact am_blkV) | (with_reducible exact am_oth) | (with_reducible apply am_tail))); done) | ((repeat (first | exact am_row | exact am_blk | exact am_blkV | exact am_oth | apply am_tail)); done) | fail)) (by rfl) (by omega) (valsV_sub (by omega)) ?_; conv => whnf)) | (refine load_old _ (by with_reducible assumption) (by simp; done) ?_; conv => whnf)) | (refine lixs_id ?_; (refine ixs_row (fun _ => hf8.2.2 (by omega)) (by omega) ?_; intro b8 hA8; conv => whnf)) | (refine ex_id ?_; first | (refine ex_z (by (first | (simp only [Int.reduceAdd, Int.reduceSub, Int.reduceMul, Int.reduceNeg, Int.reduceMod, Int.reduceDiv, Int.reduceTMod, Int.reduceTDiv, Int.zero_add, Int.add_zero] <;> rfl) | rfl)) ?_; conv => whnf)) | (refine sh_id ?_; first | (refine sh_z (by omega) (by (first | (simp only [Int.reduceAdd, Int.reduceSub, Int.reduceMul, Int.reduceNeg, Int.reduceMod, Int.reduceDiv, Int.reduceTMod, Int.reduceTDiv, Int.zero_add, Int.add_zero] <;> rfl) | rfl)) ?_; conv => whnf)) | (refine quo_id ?_; first | (refine quo_in (by omega) (by (first | (simp only [Int.reduceAdd, Int.reduceSub, Int.reduceMul, Int.reduceNeg, Int.reduceMod, Int.reduceDiv, Int.reduceTMod, Int.reduceTDiv, Int.zero_add, Int.add_zero] <;> rfl) | rfl)) (by (dsimp only [inR]; first | decide | omega)) ?_; conv => whnf) | (refine quo_t (by omega) (by (dsimp only [inR]; first | decide | omega)) ?_; conv => whnf)) | (refine rem_id ?_; first | (refine rem_in (by omega) (by (first | (simp only [Int.reduceAdd, Int.reduceSub, Int.reduceMul, Int.reduceNeg, Int.reduceMod, Int.reduceDiv, Int.reduceTMod, Int.reduceTDiv, Int.zero_add, Int.add_zero] <;> rfl) | rfl)) ?_; conv => whnf) | (refine rem_t (by omega) ?_; conv => whnf)) | (refine app_id ?_; refine app_i (by (first | (simp only [Nat.zero_add, Nat.add_zero, Nat.mul_one, Nat.reduceAdd, Nat.reduceMul, Int.reduceToNat, Int.toNat_natCast, Int.toNat_zero, Int.toNat_one, Nat.zero_mul] <;> rfl) | rfl)) (by (first | (simp only [List.nil_append, List.cons_append, List.append_nil] <;> rfl) | rfl)) (by first | omega | (change _ * 1 ≤ _; omega) | (change _ * 8 ≤ _; omega) | (change _ * 2 ≤ _; omega) | (change _ * 4 ≤ _; omega) | (change _ * 16 ≤ _; omega) | (change _ * 24 ≤ _; omega) | (change _ * 32 ≤ _; omega) | (change _ * 40 ≤ _; omega)) (by first | omega | decide) ?_; intro _ _ _; conv => whnf) | (refine mk_id ?_; first | (refine mk_lit (by rfl) (by rfl) (by decide) (by rfl) ?_; conv => whnf) | (refine mk_sym _ (by first | rfl | omega) (by first | rfl | omega) (by omega) (by omega) ?_; conv => whnf)) | (refine sl_id ?_; (refine sl_preS (hi' := k) 710 (by omega) (by omega) ?_; conv => whnf)) | (refine eff_id ?_; first | (refine eff_makeMap (ik := .u8) (k1 := .i64) (k2 := .i64) ?_; intro bm; conv => whnf) | (refine app_nilS (ys := valsV R) (by rfl) (by rfl) (by rfl) (by rfl) (by rw [valsV_len, hRl]) (valsV_one R) (fun w' hl => (hr.loc hl).2) hn0 (by change _ * 24 ≤ _; omega) (by decide) (fun _ _ => by rfl) (by rfl) ?_; intro A8 c8 hf8; conv => whnf) | (refine eff_upd (h := 7) (E := tabE (R.take j)) mapT ((R.getD j v0).s, (R.getD j v0).b) ((R.getD j v0).l, (R.getD j v0).m) (by rfl) (by rfl) (by rfl) (by rfl) (by rfl) (by rfl) (by rfl) (by rfl) (by rfl) ?_; conv => whnf)) | (refine x_rnd ?_) | (refine x_rnd' ?_))
  refine x_loopA [7] (fun j : Nat => [(17, i64 j)]) (fun j => [.oth 7 (mapV bm (tabE (R.take j)))]) (fun j => j ≤ k) (fun j => k - j) 0 (by rfl) (by rfl) (by rfl) (by omega) (by (repeat (first | exact trivial | ((conv => whnf); refine And.intro (by first | rfl | exact congrArg (Value.int _) (by omega)) ?_)))) (by (repeat (first | exact trivial | ((conv => whnf); refine And.intro (by rfl) ?_)))) ?_
  rintro j hj
  dsimp only [appF, appM] at hj ⊢
  by_cases hlt : j < k
  · repeat' (first | (fail) | (refine run_c tab_ok ?_; conv => whnf) | (refine side_id ?_; refine side_i (by first | rfl | exact ⟨rfl, rfl, rfl, rfl⟩ | trivial | (simp [allOne, partsOne, Value.cells, Value.oneCell']; done) | fail) ?_; conv => whnf) | (refine ar_id ?_; first | (refine ar_in (by (first | (simp only [Int.reduceAdd, Int.reduceSub, Int.reduceMul, Int.reduceNeg, Int.reduceMod, Int.reduceDiv, Int.reduceTMod, Int.reduceTDiv, Int.zero_add, Int.add_zero] <;> rfl) | rfl)) (by (dsimp only [inR]; first | decide | omega)) ?_; conv => whnf) | (fail)) | (refine new_i ?_; intro _; conv => whnf) | (refine br_id ?_; first | (refine br_t (by first | decide | omega | (with_reducible rfl) | fail | (simp only [cellEq, toB]; omega) | (simp only [cellEq, toB]; simp; done) | fail) ?_; conv => whnf) | (refine br_f (by first | decide | omega | (with_reducible exact Bool.false_ne_true) | (with_reducible refine not_not_intro ?_; fail) | (simp only [cellEq, toB]; omega) | (simp only [cellEq, toB]; simp; done) | fail) ?_; conv => whnf) | ((refine br_any (fun h => ?_) (fun h => ?_) <;> (try simp only [cellEq, toB, Bool.not_eq_true, Bool.not_eq_false] at h) <;> (try (exfalso; first | omega | contradiction | (simp at h; done) | fail); done) <;> conv => whnf))) | (refine ix_id ?_; first | (refine ix_lit (by first | decide | omega) (by (first | (simp only [Nat.zero_add, Nat.add_zero, Nat.mul_one, Nat.reduceAdd, Nat.reduceMul, Int.reduceToNat, Int.toNat_natCast, Int.toNat_zero, Int.toNat_one, Nat.zero_mul] <;> rfl) | rfl)) (by rfl) ?_; conv => whnf) | (refine ix_sym (by omega) ?_; conv => whnf)) | (refine lcall_id ?_; fail) | (refine lload_id ?_; first | ((refine load_rowS (R.getD j v0).svs (j * 4) (by show 0 + (j : Int).toNat * 4 = j * 4; omega) hA8 (by (first | ((repeat (first | (with_reducible exact am_blk) | (with_reducible exact am_row) | (with_reducible exact am_blkV) | (with_reducible exact am_oth) | (with_reducible apply am_tail))); done) | ((repeat (first | exact am_row | exact am_blk | exact am_blkV | exact am_oth | apply am_tail)); done) | fail)) (by rfl) (by omega) (valsV_sub (by omega)) ?_; conv => whnf)) | (refine load_old _ (by with_reducible assumption) (by simp; done) ?_; conv => whnf)) | (refine lixs_id ?_; (refine ixs_row (fun _ => hf8.2.2 (by omega)) (by omega) ?_; intro b8 hA8; conv => whnf)) | (refine ex_id ?_; first | (fail) | (refine ex_z (by (first | (simp only [Int.reduceAdd, Int.reduceSub, Int.reduceMul, Int.reduceNeg, Int.reduceMod, Int.reduceDiv, Int.reduceTMod, Int.reduceTDiv, Int.zero_add, Int.add_zero] <;> rfl) | rfl)) ?_; conv => whnf)) | (refine sh_id ?_; first | (fail) | (refine sh_z (by omega) (by (first | (simp only [Int.reduceAdd, Int.reduceSub, Int.reduceMul, Int.reduceNeg, Int.reduceMod, Int.reduceDiv, Int.reduceTMod, Int.reduceTDiv, Int.zero_add, Int.add_zero] <;> rfl) | rfl)) ?_; conv => whnf)) | (refine quo_id ?_; first | (refine quo_in (by omega) (by (first | (simp only [Int.reduceAdd, Int.reduceSub, Int.reduceMul, Int.reduceNeg, Int.reduceMod, Int.reduceDiv, Int.reduceTMod, Int.reduceTDiv, Int.zero_add, Int.add_zero] <;> rfl) | rfl)) (by (dsimp only [inR]; first | decide | omega)) ?_; conv => whnf) | (refine quo_t (by omega) (by (dsimp only [inR]; first | decide | omega)) ?_; conv => whnf)) | (refine rem_id ?_; first | (refine rem_in (by omega) (by (first | (simp only [Int.reduceAdd, Int.reduceSub, Int.reduceMul, Int.reduceNeg, Int.reduceMod, Int.reduceDiv, Int.reduceTMod, Int.reduceTDiv, Int.zero_add, Int.add_zero] <;> rfl) | rfl)) ?_; conv => whnf) | (refine rem_t (by omega) ?_; conv => whnf)) | (refine app_id ?_; refine app_i (by (first | (simp only [Nat.zero_add, Nat.add_zero, Nat.mul_one, Nat.reduceAdd, Nat.reduceMul, Int.reduceToNat, Int.toNat_natCast, Int.toNat_zero, Int.toNat_one, Nat.zero_mul] <;> rfl) | rfl)) (by (first | (simp only [List.nil_append, List.cons_append, List.append_nil] <;> rfl) | rfl)) (by first | omega | (change _ * 1 ≤ _; omega) | (change _ * 8 ≤ _; omega) | (change _ * 2 ≤ _; omega) | (change _ * 4 ≤ _; omega) | (change _ * 16 ≤ _; omega) | (change _ * 24 ≤ _; omega) | (change _ * 32 ≤ _; omega) | (change _ * 40 ≤ _; omega)) (by first | omega | decide) ?_; intro _ _ _; conv => whnf) | (refine mk_id ?_; first | (refine mk_lit (by rfl) (by rfl) (by decide) (by rfl) ?_; conv => whnf) | (refine mk_sym _ (by first | rfl | omega) (by first | rfl | omega) (by omega) (by omega) ?_; conv => whnf)) | (refine sl_id ?_; (refine sl_preS (hi' := k) 710 (by omega) (by omega) ?_; conv => whnf)) | (refine eff_id ?_; first | (refine eff_makeMap (ik := .u8) (k1 := .i64) (k2 := .i64) ?_; intro bm; conv => whnf) | (refine app_nilS (ys := valsV R) (by rfl) (by rfl) (by rfl) (by rfl) (by rw [valsV_len, hRl]) (valsV_one R) (fun w' hl => (hr.loc hl).2) hn0 (by change _ * 24 ≤ _; omega) (by decide) (fun _ _ => by rfl) (by rfl) ?_; intro A8 c8 hf8; conv => whnf) | (refine eff_upd (h := 7) (E := tabE (R.take j)) mapT ((R.getD j v0).s, (R.getD j v0).b) ((R.getD j v0).l, (R.getD j v0).m) (by rfl) (by rfl) (by rfl) (by rfl) (by rfl) (by rfl) (by rfl) (by rfl) (by rfl) ?_; conv => whnf)) | (refine val_id ?_; fail) | (refine x_rnd ?_) | (refine x_rnd' ?_) | (refine xdrw_id ?_; fail))
    refine x_roundA (j + 1) (by omega) (by omega) (by (repeat (first | exact trivial | ((conv => whnf); refine And.intro (by first | rfl | exact congrArg (Value.int _) (by omega)) ?_)))) (by (repeat (first | exact trivial | ((conv => whnf); refine And.intro rfl ?_)))) ?_
    rw [tabE_snoc (by omega)]
    (repeat (first | exact trivial | ((conv => whnf); refine And.intro (by rfl) ?_)))
  · obtain rfl : j = k := by omega
    rw [List.take_of_length_le (by omega)]
    repeat' (first | (refine run_c tab_ok ?_; conv => whnf) | (refine side_id ?_; refine side_i (by first | rfl | exact ⟨rfl, rfl, rfl, rfl⟩ | trivial | (simp [allOne, partsOne, Value.cells, Value.oneCell']; done) | fail) ?_; conv => whnf) | (refine ar_id ?_; first | (refine ar_in (by (first | (simp only [Int.reduceAdd, Int.reduceSub, Int.reduceMul, Int.reduceNeg, Int.reduceMod, Int.reduceDiv, Int.reduceTMod, Int.reduceTDiv, Int.zero_add, Int.add_zero] <;> rfl) | rfl)) (by (dsimp only [inR]; first | decide | omega)) ?_; conv => whnf)) | (refine new_i ?_; intro _; conv => whnf) | (refine br_id ?_; first | (refine br_t (by first | decide | omega | (with_reducible rfl) | fail | (simp only [cellEq, toB]; omega) | (simp only [cellEq, toB]; simp; done) | fail) ?_; conv => whnf) | (refine br_f (by first | decide | omega | (with_reducible exact Bool.false_ne_true) | (with_reducible refine not_not_intro ?_; fail) | (simp only [cellEq, toB]; omega) | (simp only [cellEq, toB]; simp; done) | fail) ?_; conv => whnf) | ((refine br_any (fun h => ?_) (fun h => ?_) <;> (try simp only [cellEq, toB, Bool.not_eq_true, Bool.not_eq_false] at h) <;> (try (exfalso; first | omega | contradiction | (simp at h; done) | fail); done) <;> conv => whnf))) | (refine ix_id ?_; first | (refine ix_lit (by first | decide | omega) (by (first | (simp only [Nat.zero_add, Nat.add_zero, Nat.mul_one, Nat.reduceAdd, Nat.reduceMul, Int.reduceToNat, Int.toNat_natCast, Int.toNat_zero, Int.toNat_one, Nat.zero_mul] <;> rfl) | rfl)) (by rfl) ?_; conv => whnf) | (refine ix_sym (by omega) ?_; conv => whnf)) | (refine lload_id ?_; first | ((refine load_rowS (R.getD j v0).svs (j * 4) (by show 0 + (j : Int).toNat * 4 = j * 4; omega) hA8 (by (first | ((repeat (first | (with_reducible exact am_blk) | (with_reducible exact am_row) | (with_reducible exact am_blkV) | (with_reducible exact am_oth) | (with_reducible apply am_tail))); done) | ((repeat (first | exact am_row | exact am_blk | exact am_blkV | exact am_oth | apply am_tail)); done) | fail)) (by rfl) (by omega) (valsV_sub (by omega)) ?_; conv => whnf)) | (refine load_old _ (by with_reducible assumption) (by simp; done) ?_; conv => whnf)) | (refine lixs_id ?_; (refine ixs_row (fun _ => hf8.2.2 (by omega)) (by omega) ?_; intro b8 hA8; conv => whnf)) | (refine ex_id ?_; first | (refine ex_z (by (first | (simp only [Int.reduceAdd, Int.reduceSub, Int.reduceMul, Int.reduceNeg, Int.reduceMod, Int.reduceDiv, Int.reduceTMod, Int.reduceTDiv, Int.zero_add, Int.add_zero] <;> rfl) | rfl)) ?_; conv => whnf)) | (refine sh_id ?_; first | (refine sh_z (by omega) (by (first | (simp only [Int.reduceAdd, Int.reduceSub, Int.reduceMul, Int.reduceNeg, Int.reduceMod, Int.reduceDiv, Int.reduceTMod, Int.reduceTDiv, Int.zero_add, Int.add_zero] <;> rfl) | rfl)) ?_; conv => whnf)) | (refine quo_id ?_; first | (refine quo_in (by omega) (by (first | (simp only [Int.reduceAdd, Int.reduceSub, Int.reduceMul, Int.reduceNeg, Int.reduceMod, Int.reduceDiv, Int.reduceTMod, Int.reduceTDiv, Int.zero_add, Int.add_zero] <;> rfl) | rfl)) (by (dsimp only [inR]; first | decide | omega)) ?_; conv => whnf) | (refine quo_t (by omega) (by (dsimp only [inR]; first | decide | omega)) ?_; conv => whnf)) | (refine rem_id ?_; first | (refine rem_in (by omega) (by (first | (simp only [Int.reduceAdd, Int.reduceSub, Int.reduceMul, Int.reduceNeg, Int.reduceMod, Int.reduceDiv, Int.reduceTMod, Int.reduceTDiv, Int.zero_add, Int.add_zero] <;> rfl) | rfl)) ?_; conv => whnf) | (refine rem_t (by omega) ?_; conv => whnf)) | (refine app_id ?_; refine app_i (by (first | (simp only [Nat.zero_add, Nat.add_zero, Nat.mul_one, Nat.reduceAdd, Nat.reduceMul, Int.reduceToNat, Int.toNat_natCast, Int.toNat_zero, Int.toNat_one, Nat.zero_mul] <;> rfl) | rfl)) (by (first | (simp only [List.nil_append, List.cons_append, List.append_nil] <;> rfl) | rfl)) (by first | omega | (change _ * 1 ≤ _; omega) | (change _ * 8 ≤ _; omega) | (change _ * 2 ≤ _; omega) | (change _ * 4 ≤ _; omega) | (change _ * 16 ≤ _; omega) | (change _ * 24 ≤ _; omega) | (change _ * 32 ≤ _; omega) | (change _ * 40 ≤ _; omega)) (by first | omega | decide) ?_; intro _ _ _; conv => whnf) | (refine mk_id ?_; first | (refine mk_lit (by rfl) (by rfl) (by decide) (by rfl) ?_; conv => whnf) | (refine mk_sym _ (by first | rfl | omega) (by first | rfl | omega) (by omega) (by omega) ?_; conv => whnf)) | (refine sl_id ?_; (refine sl_preS (hi' := k) 710 (by omega) (by omega) ?_; conv => whnf)) | (refine eff_id ?_; first | (refine eff_makeMap (ik := .u8) (k1 := .i64) (k2 := .i64) ?_; intro bm; conv => whnf) | (refine app_nilS (ys := valsV R) (by rfl) (by rfl) (by rfl) (by rfl) (by rw [valsV_len, hRl]) (valsV_one R) (fun w' hl => (hr.loc hl).2) hn0 (by change _ * 24 ≤ _; omega) (by decide) (fun _ _ => by rfl) (by rfl) ?_; intro A8 c8 hf8; conv => whnf) | (refine eff_upd (h := 7) (E := tabE (R.take j)) mapT ((R.getD j v0).s, (R.getD j v0).b) ((R.getD j v0).l, (R.getD j v0).m) (by rfl) (by rfl) (by rfl) (by rfl) (by rfl) (by rfl) (by rfl) (by rfl) (by rfl) ?_; conv => whnf)) | (refine x_rnd ?_) | (refine x_rnd' ?_))
    all_goals first
    | (subst hRl; exact fin_retW (.tup [.val (.map (some bm)), .sl tr A8 R.length c8]) [.oth 7 (mapV bm (tabE R)), .row 8 110 4 A8 R.length c8 (valsV R)] [.oth tm (mapV bm (tabE R)), .row tr 110 4 A8 R.length c8 (valsV R)] rfl (by (repeat (first | exact trivial | ((conv => whnf); refine And.intro (by rfl) ?_)))) rfl (fun w' hl => ⟨bm, A8, c8, rfl, rfl, hf8⟩))
    | (trace_state; sorry)
end Go.Proofs.Ytpblllkkcpahgaa
