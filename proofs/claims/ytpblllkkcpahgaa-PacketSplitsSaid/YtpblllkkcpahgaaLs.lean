/- Layer 9 (packet): packets that lie behind one another are parted: the contract in general. -/
import Derived.Test.YtpblllkkcpahgaaPq
import Derived.Test.YtpblllkkcpahgaaBg
namespace Go.Proofs.Ytpblllkkcpahgaa
set_option linter.unusedSimpArgs false
set_option linter.unusedVariables false
set_option linter.unnecessarySimpa false
set_option maxRecDepth 100000
set_option maxHeartbeats 2000000
open Go.RowKit

/-! plain: what is parted -/
def Fits (ps : List Int) : Prop := 6 ≤ ps.length ∧ sizeOfP ps ≤ ps.length
inductive Spl9 : List (List Int) → List Int → List Int → Prop
  | stop {ps : List Int} (h : ¬ Fits ps) : Spl9 [] ps ps
  | step {W : List (List Int)} {left ps : List Int} (k : Nat) (h : Fits ps) (hk : sizeOfP ps = k) (r : Spl9 W left (ps.drop k)) : Spl9 (ps.take k :: W) left ps
theorem size_app {ps qs : List Int} (h : 6 ≤ ps.length) : sizeOfP (ps ++ qs) = sizeOfP ps := by
  unfold sizeOfP
  simp only [List.getD]
  rw [List.getElem?_append_left (by omega), List.getElem?_append_left (by omega)]
theorem size_ge {ps : List Int} (hu : AllU8 ps) : 7 ≤ sizeOfP ps := by
  unfold sizeOfP
  have h4 := hu.get 4
  have h5 := hu.get 5
  omega
theorem Spl9.cat {W : List (List Int)} {left ps : List Int} (h : Spl9 W left ps) : W.flatten ++ left = ps := by
  induction h with
  | stop h => rfl
  | step k h hk r ih => rw [List.flatten_cons, List.append_assoc, ih, List.take_append_drop]
theorem Spl9.rest {W : List (List Int)} {left ps : List Int} (h : Spl9 W left ps) : ¬ Fits left := by
  induction h with
  | stop h => exact h
  | step k h hk r ih => exact ih
/-- What is a packet, by its length. -/
structure Pk9 (ws : List Int) : Prop where
  u : AllU8 ws
  l : 7 ≤ ws.length
  s : sizeOfP ws = ws.length
theorem Spl9.all {W : List (List Int)} {left ps : List Int} (h : Spl9 W left ps) : AllU8 ps → ∀ ws ∈ W, Pk9 ws := by
  induction h with
  | stop h => intro _ ws hw; cases hw
  | @step W left ps k h hk r ih =>
    intro hu ws hw
    have hg := size_ge hu
    obtain ⟨h6, hl⟩ := h
    rcases List.mem_cons.1 hw with rfl | hw
    · have hlen : (ps.take k).length = k := by rw [List.length_take]; omega
      refine ⟨hu.take _, by omega, ?_⟩
      have := size_app (ps := ps.take k) (qs := ps.drop k) (by omega)
      rw [List.take_append_drop] at this
      rw [← this, hlen, hk]
    · exact ih (hu.drop _) ws hw
theorem Spl9.pre {V : List (List Int)} {R : List Int} : ∀ {W : List (List Int)} {left : List Int}, (∀ ws ∈ V, Pk9 ws) → Spl9 W left (V.flatten ++ R) → ∃ W', W = V ++ W' := by
  induction V with
  | nil => intro W left _ _; exact ⟨W, rfl⟩
  | cons v V ih =>
    intro W left hV h
    have hv := hV v (List.mem_cons_self ..)
    have hs : sizeOfP ((v :: V).flatten ++ R) = v.length := by
      rw [List.flatten_cons, List.append_assoc, size_app (by have := hv.l; omega), hv.s]
    have hvl := hv.l
    generalize hps : (v :: V).flatten ++ R = ps at h
    rw [hps] at hs
    have hps' : ps = v ++ (V.flatten ++ R) := by rw [← hps, List.flatten_cons, List.append_assoc]
    cases h with
    | stop h => exact absurd ⟨by rw [hps', List.length_append]; omega, by rw [hs, hps', List.length_append]; omega⟩ h
    | step k h hk r =>
      obtain rfl : k = v.length := by omega
      rw [hps', List.drop_left] at r
      obtain ⟨W', rfl⟩ := ih (fun ws hw => hV ws (List.mem_cons_of_mem _ hw)) r
      exact ⟨W', by rw [hps', List.take_left]; rfl⟩
/-! the walk -/
def zss (L : List BL) : List (List Int) := L.map (·.2.2)
def SplR (t tb tl : Nat) (ps : List Int) (v : SV) (mi : Mem) : Prop :=
  ∃ O co, ∃ L : List BL, ∃ A3 c3 left, Spl9 (zss L) left ps ∧ v = .tup [.sl t O L.length co, .sl tl A3 left.length c3] ∧ mi = [.row t 22 1 O L.length co (L.map BL.v), .oth tb (bag 5 L), .row tl 5 1 A3 left.length c3 (left.map (Value.int .u8))] ∧ RF O L.length co ∧ RF A3 left.length c3
theorem map_snoc (L : List BL) (A : Option Addr) (c : Nat) (ps : List Int) : (L ++ [(A, c, ps)]).map BL.v = L.map BL.v ++ [.slice A ps.length c] := by simp [BL.v]
theorem size_E (h : Nat) (A : Option Addr) (n cp : Nat) (zs : List Int) (e : Int) (w : World) (he : sizeOfP zs = e) (hr : IRow .u8 w A n zs) (hle : n ≤ cp) (hn : 6 ≤ n) (hu : AllU8 zs) :
    RetS Try.prog 65 [.sl h A n cp] w (i64 e) := by subst he; exact size_S h A n cp zs w hr hle hn hu
structure SpI where
  L : List BL
  rs : List Int
  A : Option Addr
  cp : Nat
  O : Option Addr
  co : Nat
structure SpP (w : World) (ps : List Int) (x : SpI) : Prop where
  r : IRow .u8 w x.A x.rs.length x.rs
  n0 : x.A = none → x.cp = 0
  le : x.rs.length ≤ x.cp
  u : AllU8 x.rs
  b : x.L.length + x.rs.length ≤ 1000000
  s : ∀ W left, Spl9 W left x.rs → Spl9 (zss x.L ++ W) left ps
theorem split_X (t tb tl : Nat) (h : Nat) (A : Option Addr) (cp : Nat) (ps : List Int) (w : World) (hr : IRow .u8 w A ps.length ps) (hn0 : A = none → cp = 0) (hle : ps.length ≤ cp) (hb : ps.length ≤ 1000000) (hu : AllU8 ps) :
    RetX Try.prog 32 [.sl h A ps.length cp] w [] (SplR t tb tl ps) := by
  refine retX_x tab_ok (mem0 := []) Try.func32 rfl Try.ntmps32 (by rfl) (.init w) ?_; simp only [argX, Nat.reduceAdd, Nat.zero_add]; conv => whnf
  repeat' (first | (refine run_c tab_ok ?_; conv => whnf) | (refine side_id ?_; refine side_i (by first | rfl | exact ⟨rfl, rfl, rfl, rfl⟩ | trivial | (simp [allOne, partsOne, Value.cells, Value.oneCell']; done) | fail) ?_; conv => whnf) | (refine ar_id ?_; first | (refine ar_in (by (first | (simp only [Int.reduceAdd, Int.reduceSub, Int.reduceMul, Int.reduceNeg, Int.reduceMod, Int.reduceDiv, Int.reduceTMod, Int.reduceTDiv, Int.zero_add, Int.add_zero] <;> rfl) | rfl)) (by (dsimp only [inR]; first | decide | omega)) ?_; conv => whnf)) | (refine new_i ?_; intro _; conv => whnf) | (refine br_id ?_; first | (refine br_t (by first | decide | omega | (with_reducible rfl) | fail | (simp only [cellEq, toB]; omega) | (simp only [cellEq, toB]; simp; done) | fail) ?_; conv => whnf) | (refine br_f (by first | decide | omega | (with_reducible exact Bool.false_ne_true) | (with_reducible refine not_not_intro ?_; fail) | (simp only [cellEq, toB]; omega) | (simp only [cellEq, toB]; simp; done) | fail) ?_; conv => whnf) | ((refine br_any (fun h => ?_) (fun h => ?_) <;> (try simp only [cellEq, toB, Bool.not_eq_true, Bool.not_eq_false] at h) <;> (try (exfalso; first | omega | contradiction | (simp at h; done) | fail); done) <;> conv => whnf))) | (refine ix_id ?_; first | (refine ix_lit (by first | decide | omega) (by (first | (simp only [Nat.zero_add, Nat.add_zero, Nat.mul_one, Nat.reduceAdd, Nat.reduceMul, Int.reduceToNat, Int.toNat_natCast, Int.toNat_zero, Int.toNat_one, Nat.zero_mul] <;> rfl) | rfl)) (by rfl) ?_; conv => whnf) | (refine ix_sym (by omega) ?_; conv => whnf)) | (refine lcall_id ?_; first | (refine lcall_ret (fun w' hloc => size_E _ _ _ _ rs k w' hk (irow_loc hr hloc) (by omega) (by omega) hu) ?_; conv => whnf) | (refine lcall_mk (fun w' hloc => clone_X 721 _ _ _ _ (rs.take k) w' (irow_loc hrk hloc) hn0 (by omega)) ?_; (rintro _ _ mm ⟨A1, c1, rfl, rfl, hf1⟩ hmm; simp only [List.cons_append, List.nil_append] at hmm; subst hmm; conv => whnf)) | (refine lcall_mk (fun w' hloc => clone_X 723 _ _ _ _ rs w' (irow_loc hr hloc) hn0 (by omega)) ?_; (rintro _ _ mm ⟨A3, c3, rfl, rfl, hf3⟩ hmm; simp only [List.cons_append, List.nil_append] at hmm; subst hmm; conv => whnf))) | (refine lload_id ?_; first | (refine load_old _ (by with_reducible assumption) (by simp; done) ?_; conv => whnf)) | (refine ex_id ?_; first | (refine ex_z (by (first | (simp only [Int.reduceAdd, Int.reduceSub, Int.reduceMul, Int.reduceNeg, Int.reduceMod, Int.reduceDiv, Int.reduceTMod, Int.reduceTDiv, Int.zero_add, Int.add_zero] <;> rfl) | rfl)) ?_; conv => whnf)) | (refine sh_id ?_; first | (refine sh_z (by omega) (by (first | (simp only [Int.reduceAdd, Int.reduceSub, Int.reduceMul, Int.reduceNeg, Int.reduceMod, Int.reduceDiv, Int.reduceTMod, Int.reduceTDiv, Int.zero_add, Int.add_zero] <;> rfl) | rfl)) ?_; conv => whnf)) | (refine quo_id ?_; first | (refine quo_in (by omega) (by (first | (simp only [Int.reduceAdd, Int.reduceSub, Int.reduceMul, Int.reduceNeg, Int.reduceMod, Int.reduceDiv, Int.reduceTMod, Int.reduceTDiv, Int.zero_add, Int.add_zero] <;> rfl) | rfl)) (by (dsimp only [inR]; first | decide | omega)) ?_; conv => whnf) | (refine quo_t (by omega) (by (dsimp only [inR]; first | decide | omega)) ?_; conv => whnf)) | (refine rem_id ?_; first | (refine rem_in (by omega) (by (first | (simp only [Int.reduceAdd, Int.reduceSub, Int.reduceMul, Int.reduceNeg, Int.reduceMod, Int.reduceDiv, Int.reduceTMod, Int.reduceTDiv, Int.zero_add, Int.add_zero] <;> rfl) | rfl)) ?_; conv => whnf) | (refine rem_t (by omega) ?_; conv => whnf)) | (refine app_id ?_; refine app_i (by (first | (simp only [Nat.zero_add, Nat.add_zero, Nat.mul_one, Nat.reduceAdd, Nat.reduceMul, Int.reduceToNat, Int.toNat_natCast, Int.toNat_zero, Int.toNat_one, Nat.zero_mul] <;> rfl) | rfl)) (by (first | (simp only [List.nil_append, List.cons_append, List.append_nil] <;> rfl) | rfl)) (by first | omega | (change _ * 1 ≤ _; omega) | (change _ * 8 ≤ _; omega) | (change _ * 2 ≤ _; omega) | (change _ * 4 ≤ _; omega) | (change _ * 16 ≤ _; omega) | (change _ * 24 ≤ _; omega) | (change _ * 32 ≤ _; omega) | (change _ * 40 ≤ _; omega)) (by first | omega | decide) ?_; intro _ _ _; conv => whnf) | (refine mk_id ?_; first | (refine mk_lit (by rfl) (by rfl) (by decide) (by rfl) ?_; conv => whnf) | (refine mk_sym _ (by first | rfl | omega) (by first | rfl | omega) (by omega) (by omega) ?_; conv => whnf)) | (refine sl_id ?_; first | (refine sl_pre (hi' := k) 710 (by omega) (by omega) ?_; conv => whnf) | (refine sl_any (lo' := k) (hi' := rs.length) 711 (by omega) (by omega) (by omega) ?_; intro B hB hC; conv => whnf)) | (refine x_rnd ?_) | (refine x_rnd' ?_))
  refine x_nilrow 4 22 1 ?_
  refine x_convL (bag_nil (e := 5) (h := 900)) ?_
  refine x_loopA [4, 900] (fun x : SpI => [(0, .sl 0 x.A x.rs.length x.cp), (4, .sl 4 x.O x.L.length x.co)]) (fun x => [.row 4 22 1 x.O x.L.length x.co (x.L.map BL.v), .oth 900 (bag 5 x.L)]) (SpP w ps) (fun x => x.rs.length) ⟨[], ps, A, cp, none, 0⟩ (by rfl) (by rfl) (by rfl) ⟨hr, hn0, hle, hu, by simpa using hb, fun W left h => h⟩ (by (repeat (first | exact trivial | ((conv => whnf); refine And.intro (by first | rfl | exact congrArg (Value.int _) (by omega)) ?_)))) (by (repeat (first | exact trivial | ((conv => whnf); refine And.intro (by rfl) ?_)))) ?_
  rintro ⟨L, rs, A, cp, O, co⟩ ⟨hr, hn0, hle, hu, hb, hs⟩
  dsimp only [appF, appM] at hr hn0 hle hu hb hs ⊢
  have hg := size_ge hu
  obtain ⟨k, hk⟩ : ∃ k : Nat, sizeOfP rs = k := ⟨(sizeOfP rs).toNat, by omega⟩
  rw [hk] at hg
  by_cases hf : 6 ≤ rs.length ∧ k ≤ rs.length
  · have hrk := hr.take hf.2
    have hlk : (rs.take k).length = k := by rw [List.length_take]; omega
    have hrk : IRow .u8 w A (rs.take k).length (rs.take k) := by rw [hlk]; exact hrk
    rw [hlk] at hrk
    have hld : (rs.drop k).length = rs.length - k := List.length_drop
    have htd : (rs.take rs.length).drop k = rs.drop k := by rw [List.take_length]
    have hfit : Fits rs := ⟨hf.1, by omega⟩
    obtain ⟨hf1', hf2'⟩ := hf
    repeat' (first | (refine run_c tab_ok ?_; conv => whnf) | (refine side_id ?_; refine side_i (by first | rfl | exact ⟨rfl, rfl, rfl, rfl⟩ | trivial | (simp [allOne, partsOne, Value.cells, Value.oneCell']; done) | fail) ?_; conv => whnf) | (refine ar_id ?_; first | (refine ar_in (by (first | (simp only [Int.reduceAdd, Int.reduceSub, Int.reduceMul, Int.reduceNeg, Int.reduceMod, Int.reduceDiv, Int.reduceTMod, Int.reduceTDiv, Int.zero_add, Int.add_zero] <;> rfl) | rfl)) (by (dsimp only [inR]; first | decide | omega)) ?_; conv => whnf)) | (refine new_i ?_; intro _; conv => whnf) | (refine br_id ?_; first | (refine br_t (by first | decide | omega | (with_reducible rfl) | fail | (simp only [cellEq, toB]; omega) | (simp only [cellEq, toB]; simp; done) | fail) ?_; conv => whnf) | (refine br_f (by first | decide | omega | (with_reducible exact Bool.false_ne_true) | (with_reducible refine not_not_intro ?_; fail) | (simp only [cellEq, toB]; omega) | (simp only [cellEq, toB]; simp; done) | fail) ?_; conv => whnf) | ((refine br_any (fun h => ?_) (fun h => ?_) <;> (try simp only [cellEq, toB, Bool.not_eq_true, Bool.not_eq_false] at h) <;> (try (exfalso; first | omega | contradiction | (simp at h; done) | fail); done) <;> conv => whnf))) | (refine ix_id ?_; first | (refine ix_lit (by first | decide | omega) (by (first | (simp only [Nat.zero_add, Nat.add_zero, Nat.mul_one, Nat.reduceAdd, Nat.reduceMul, Int.reduceToNat, Int.toNat_natCast, Int.toNat_zero, Int.toNat_one, Nat.zero_mul] <;> rfl) | rfl)) (by rfl) ?_; conv => whnf) | (refine ix_sym (by omega) ?_; conv => whnf)) | (refine lcall_id ?_; first | (refine lcall_ret (fun w' hloc => size_E _ _ _ _ rs k w' hk (irow_loc hr hloc) (by omega) (by omega) hu) ?_; conv => whnf) | (refine lcall_mk (fun w' hloc => clone_X 721 _ _ _ _ (rs.take k) w' (irow_loc hrk hloc) hn0 (by omega)) ?_; (rintro _ _ mm ⟨A1, c1, rfl, rfl, hf1⟩ hmm; simp only [List.cons_append, List.nil_append] at hmm; subst hmm; conv => whnf)) | (refine lcall_mk (fun w' hloc => clone_X 723 _ _ _ _ rs w' (irow_loc hr hloc) hn0 (by omega)) ?_; (rintro _ _ mm ⟨A3, c3, rfl, rfl, hf3⟩ hmm; simp only [List.cons_append, List.nil_append] at hmm; subst hmm; conv => whnf))) | (refine lload_id ?_; first | (refine load_old _ (by with_reducible assumption) (by simp; done) ?_; conv => whnf)) | (refine ex_id ?_; first | (refine ex_z (by (first | (simp only [Int.reduceAdd, Int.reduceSub, Int.reduceMul, Int.reduceNeg, Int.reduceMod, Int.reduceDiv, Int.reduceTMod, Int.reduceTDiv, Int.zero_add, Int.add_zero] <;> rfl) | rfl)) ?_; conv => whnf)) | (refine sh_id ?_; first | (refine sh_z (by omega) (by (first | (simp only [Int.reduceAdd, Int.reduceSub, Int.reduceMul, Int.reduceNeg, Int.reduceMod, Int.reduceDiv, Int.reduceTMod, Int.reduceTDiv, Int.zero_add, Int.add_zero] <;> rfl) | rfl)) ?_; conv => whnf)) | (refine quo_id ?_; first | (refine quo_in (by omega) (by (first | (simp only [Int.reduceAdd, Int.reduceSub, Int.reduceMul, Int.reduceNeg, Int.reduceMod, Int.reduceDiv, Int.reduceTMod, Int.reduceTDiv, Int.zero_add, Int.add_zero] <;> rfl) | rfl)) (by (dsimp only [inR]; first | decide | omega)) ?_; conv => whnf) | (refine quo_t (by omega) (by (dsimp only [inR]; first | decide | omega)) ?_; conv => whnf)) | (refine rem_id ?_; first | (refine rem_in (by omega) (by (first | (simp only [Int.reduceAdd, Int.reduceSub, Int.reduceMul, Int.reduceNeg, Int.reduceMod, Int.reduceDiv, Int.reduceTMod, Int.reduceTDiv, Int.zero_add, Int.add_zero] <;> rfl) | rfl)) ?_; conv => whnf) | (refine rem_t (by omega) ?_; conv => whnf)) | (refine app_id ?_; refine app_i (by (first | (simp only [Nat.zero_add, Nat.add_zero, Nat.mul_one, Nat.reduceAdd, Nat.reduceMul, Int.reduceToNat, Int.toNat_natCast, Int.toNat_zero, Int.toNat_one, Nat.zero_mul] <;> rfl) | rfl)) (by (first | (simp only [List.nil_append, List.cons_append, List.append_nil] <;> rfl) | rfl)) (by first | omega | (change _ * 1 ≤ _; omega) | (change _ * 8 ≤ _; omega) | (change _ * 2 ≤ _; omega) | (change _ * 4 ≤ _; omega) | (change _ * 16 ≤ _; omega) | (change _ * 24 ≤ _; omega) | (change _ * 32 ≤ _; omega) | (change _ * 40 ≤ _; omega)) (by first | omega | decide) ?_; intro _ _ _; conv => whnf) | (refine mk_id ?_; first | (refine mk_lit (by rfl) (by rfl) (by decide) (by rfl) ?_; conv => whnf) | (refine mk_sym _ (by first | rfl | omega) (by first | rfl | omega) (by omega) (by omega) ?_; conv => whnf)) | (refine sl_id ?_; first | (refine sl_pre (hi' := k) 710 (by omega) (by omega) ?_; conv => whnf) | (refine sl_any (lo' := k) (hi' := rs.length) 711 (by omega) (by omega) (by omega) ?_; intro B hB hC; conv => whnf)) | (refine x_rnd ?_) | (refine x_rnd' ?_))
    rename_i O' co' hfO
    refine x_convE (bag_put (hr := 721) (hb := 900) (by rfl) (by rfl) rfl) ?_
    refine x_roundA ⟨L ++ [(A1, c1, rs.take k)], rs.drop k, B, cp - k, O', co'⟩ ⟨?_, hC hn0, ?_, hu.drop _, ?_, ?_⟩ ?_ ?_ (by (repeat (first | exact trivial | ((conv => whnf); refine And.intro rfl ?_)))) ?_
    · dsimp only
      rw [hld]
      have := hB _ _ _ _ (Nat.le_refl _) hr
      rwa [htd] at this
    · dsimp only
      rw [hld]; omega
    · dsimp only
      rw [List.length_append, List.length_singleton, hld]; omega
    · intro W left h
      have := hs (rs.take k :: W) left (.step k hfit hk h)
      simpa [zss] using this
    · dsimp only
      rw [hld]; omega
    · dsimp only
      rw [hld, List.length_append, List.length_singleton]
      (repeat (first | exact trivial | ((conv => whnf); refine And.intro (by first | rfl | exact congrArg (Value.int _) (by omega)) ?_)))
    · dsimp only
      rw [map_snoc, List.length_append, List.length_singleton]
      (repeat (first | exact trivial | ((conv => whnf); refine And.intro (by rfl) ?_)))
  · have hnf : ¬ Fits rs := fun h => hf ⟨h.1, by have := h.2; omega⟩
    have hs' := hs [] rs (.stop hnf)
    rw [List.append_nil] at hs'
    have hk2 : ¬ (6 ≤ rs.length ∧ k ≤ rs.length) := hf
    repeat' (first | (refine run_c tab_ok ?_; conv => whnf) | (refine side_id ?_; refine side_i (by first | rfl | exact ⟨rfl, rfl, rfl, rfl⟩ | trivial | (simp [allOne, partsOne, Value.cells, Value.oneCell']; done) | fail) ?_; conv => whnf) | (refine ar_id ?_; first | (refine ar_in (by (first | (simp only [Int.reduceAdd, Int.reduceSub, Int.reduceMul, Int.reduceNeg, Int.reduceMod, Int.reduceDiv, Int.reduceTMod, Int.reduceTDiv, Int.zero_add, Int.add_zero] <;> rfl) | rfl)) (by (dsimp only [inR]; first | decide | omega)) ?_; conv => whnf)) | (refine new_i ?_; intro _; conv => whnf) | (refine br_id ?_; first | (refine br_t (by first | decide | omega | (with_reducible rfl) | fail | (simp only [cellEq, toB]; omega) | (simp only [cellEq, toB]; simp; done) | fail) ?_; conv => whnf) | (refine br_f (by first | decide | omega | (with_reducible exact Bool.false_ne_true) | (with_reducible refine not_not_intro ?_; fail) | (simp only [cellEq, toB]; omega) | (simp only [cellEq, toB]; simp; done) | fail) ?_; conv => whnf) | ((refine br_any (fun h => ?_) (fun h => ?_) <;> (try simp only [cellEq, toB, Bool.not_eq_true, Bool.not_eq_false] at h) <;> (try (exfalso; first | omega | contradiction | (simp at h; done) | fail); done) <;> conv => whnf))) | (refine ix_id ?_; first | (refine ix_lit (by first | decide | omega) (by (first | (simp only [Nat.zero_add, Nat.add_zero, Nat.mul_one, Nat.reduceAdd, Nat.reduceMul, Int.reduceToNat, Int.toNat_natCast, Int.toNat_zero, Int.toNat_one, Nat.zero_mul] <;> rfl) | rfl)) (by rfl) ?_; conv => whnf) | (refine ix_sym (by omega) ?_; conv => whnf)) | (refine lcall_id ?_; first | (refine lcall_ret (fun w' hloc => size_E _ _ _ _ rs k w' hk (irow_loc hr hloc) (by omega) (by omega) hu) ?_; conv => whnf) | (refine lcall_mk (fun w' hloc => clone_X 721 _ _ _ _ (rs.take k) w' (irow_loc hrk hloc) hn0 (by omega)) ?_; (rintro _ _ mm ⟨A1, c1, rfl, rfl, hf1⟩ hmm; simp only [List.cons_append, List.nil_append] at hmm; subst hmm; conv => whnf)) | (refine lcall_mk (fun w' hloc => clone_X 723 _ _ _ _ rs w' (irow_loc hr hloc) hn0 (by omega)) ?_; (rintro _ _ mm ⟨A3, c3, rfl, rfl, hf3⟩ hmm; simp only [List.cons_append, List.nil_append] at hmm; subst hmm; conv => whnf))) | (refine lload_id ?_; first | (refine load_old _ (by with_reducible assumption) (by simp; done) ?_; conv => whnf)) | (refine ex_id ?_; first | (refine ex_z (by (first | (simp only [Int.reduceAdd, Int.reduceSub, Int.reduceMul, Int.reduceNeg, Int.reduceMod, Int.reduceDiv, Int.reduceTMod, Int.reduceTDiv, Int.zero_add, Int.add_zero] <;> rfl) | rfl)) ?_; conv => whnf)) | (refine sh_id ?_; first | (refine sh_z (by omega) (by (first | (simp only [Int.reduceAdd, Int.reduceSub, Int.reduceMul, Int.reduceNeg, Int.reduceMod, Int.reduceDiv, Int.reduceTMod, Int.reduceTDiv, Int.zero_add, Int.add_zero] <;> rfl) | rfl)) ?_; conv => whnf)) | (refine quo_id ?_; first | (refine quo_in (by omega) (by (first | (simp only [Int.reduceAdd, Int.reduceSub, Int.reduceMul, Int.reduceNeg, Int.reduceMod, Int.reduceDiv, Int.reduceTMod, Int.reduceTDiv, Int.zero_add, Int.add_zero] <;> rfl) | rfl)) (by (dsimp only [inR]; first | decide | omega)) ?_; conv => whnf) | (refine quo_t (by omega) (by (dsimp only [inR]; first | decide | omega)) ?_; conv => whnf)) | (refine rem_id ?_; first | (refine rem_in (by omega) (by (first | (simp only [Int.reduceAdd, Int.reduceSub, Int.reduceMul, Int.reduceNeg, Int.reduceMod, Int.reduceDiv, Int.reduceTMod, Int.reduceTDiv, Int.zero_add, Int.add_zero] <;> rfl) | rfl)) ?_; conv => whnf) | (refine rem_t (by omega) ?_; conv => whnf)) | (refine app_id ?_; refine app_i (by (first | (simp only [Nat.zero_add, Nat.add_zero, Nat.mul_one, Nat.reduceAdd, Nat.reduceMul, Int.reduceToNat, Int.toNat_natCast, Int.toNat_zero, Int.toNat_one, Nat.zero_mul] <;> rfl) | rfl)) (by (first | (simp only [List.nil_append, List.cons_append, List.append_nil] <;> rfl) | rfl)) (by first | omega | (change _ * 1 ≤ _; omega) | (change _ * 8 ≤ _; omega) | (change _ * 2 ≤ _; omega) | (change _ * 4 ≤ _; omega) | (change _ * 16 ≤ _; omega) | (change _ * 24 ≤ _; omega) | (change _ * 32 ≤ _; omega) | (change _ * 40 ≤ _; omega)) (by first | omega | decide) ?_; intro _ _ _; conv => whnf) | (refine mk_id ?_; first | (refine mk_lit (by rfl) (by rfl) (by decide) (by rfl) ?_; conv => whnf) | (refine mk_sym _ (by first | rfl | omega) (by first | rfl | omega) (by omega) (by omega) ?_; conv => whnf)) | (refine sl_id ?_; first | (refine sl_pre (hi' := k) 710 (by omega) (by omega) ?_; conv => whnf) | (refine sl_any (lo' := k) (hi' := rs.length) 711 (by omega) (by omega) (by omega) ?_; intro B hB hC; conv => whnf)) | (refine x_rnd ?_) | (refine x_rnd' ?_))
    all_goals exact fin_retW (.tup [.sl t O L.length co, .sl tl A3 rs.length c3]) [.row 4 22 1 O L.length co (L.map BL.v), .oth 900 (bag 5 L), .row 723 5 1 A3 rs.length c3 (rs.map (Value.int .u8))] [.row t 22 1 O L.length co (L.map BL.v), .oth tb (bag 5 L), .row tl 5 1 A3 rs.length c3 (rs.map (Value.int .u8))] rfl (by (repeat (first | exact trivial | ((conv => whnf); refine And.intro (by rfl) ?_)))) rfl (fun w' hl => ⟨O, co, L, A3, c3, rs, hs', rfl, rfl, row_facts hl (by (first | ((repeat (first | (with_reducible exact am_blk) | (with_reducible exact am_row) | (with_reducible exact am_blkV) | (with_reducible exact am_oth) | (with_reducible apply am_tail))); done) | ((repeat (first | exact am_row | exact am_blk | exact am_blkV | apply am_tail)); done))), hf3⟩)
end Go.Proofs.Ytpblllkkcpahgaa
