/- Sums that show what was spoilt: the contracts. -/
import Derived.Test.YtpblllkkcpahgaaCr
import Derived.Test.YtpblllkkcpahgaaBz
namespace Go.Proofs.Ytpblllkkcpahgaa
set_option linter.unusedSimpArgs false
set_option linter.unusedVariables false
set_option linter.unnecessarySimpa false
set_option maxRecDepth 100000
open Go.RowKit

def st1n : Nat → Nat → Nat
  | 0, s => s
  | n + 1, s => st1 (st1n n s)
theorem st1n_lt {s : Nat} (h : s < 65536) : ∀ n, st1n n s < 65536
  | 0 => h
  | n + 1 => st1_lt (st1n_lt h n)
theorem xor_sb {s b : Nat} (hs : s < 65536) (hb : b < 256) : bits .xor .u16 (s : Int) ((b : Int) * 256) = ((s ^^^ b * 256 : Nat) : Int) := xor_u16 (b := b * 256) hs (by omega)
theorem xor_sh {s : Nat} (h : s < 65536) : bits .xor .u16 (((s <<< 1) % 2 ^ 16 : Nat) : Int) (((s >>> 15 : Nat) : Int) * 4129) = ((st1 s : Nat) : Int) := xor_u16 (b := s >>> 15 * 4129) (Nat.mod_lt _ (by decide)) (by rw [Nat.shiftRight_eq_div_pow]; omega)
theorem shl1 (s : Nat) : ((s : Int) * 2) % 65536 = (((s <<< 1) % 2 ^ 16 : Nat) : Int) := by rw [Nat.shiftLeft_eq]; omega
theorem shr15 (s : Nat) : (s : Int) / 32768 = ((s >>> 15 : Nat) : Int) := by rw [Nat.shiftRight_eq_div_pow]; omega
theorem step_S (s b : Nat) (w : World) (hs : s < 65536) (hb : b < 256) : RetS Try.prog 77 [u16 (s : Int), u8 (b : Int)] w (u16 (crcStep s b : Nat)) := by
  have hx : s ^^^ b * 256 < 65536 := xor_lt16 hs (by omega)
  refine ret_x tab_ok Try.func77 rfl Try.ntmps77 (by rfl) ?_; simp only [argX, Nat.reduceAdd, Nat.zero_add]; conv => whnf
  repeat' (first
    | (fail)
    | (refine run_c tab_ok ?_; conv => whnf)
    | (refine side_id ?_; refine side_i (by first | rfl | exact ⟨rfl, rfl, rfl, rfl⟩ | trivial | (simp [allOne, partsOne, Value.cells, Value.oneCell']; done) | fail) ?_; conv => whnf)
    | (refine ar_id ?_; first
      | (refine ar_in (by (first | (simp only [Int.reduceAdd, Int.reduceSub, Int.reduceMul, Int.reduceNeg, Int.reduceMod, Int.reduceDiv, Int.reduceTMod, Int.reduceTDiv, Int.zero_add, Int.add_zero]; done) | (simp only [Int.reduceAdd, Int.reduceSub, Int.reduceMul, Int.reduceNeg, Int.reduceMod, Int.reduceDiv, Int.reduceTMod, Int.reduceTDiv, Int.zero_add, Int.add_zero]; rfl) | rfl)) (by (dsimp only [inR]; first | decide | omega)) ?_; conv => whnf)
      | (fail))
    | (refine new_i ?_; intro _; conv => whnf)
    | (refine br_id ?_; first
      | (refine br_t (by first | decide | omega | (with_reducible rfl) | fail | (simp only [cellEq, toB]; omega) | (simp only [cellEq, toB]; simp; done) | fail) ?_; conv => whnf)
      | (refine br_f (by first | decide | omega | (with_reducible exact Bool.false_ne_true) | (with_reducible refine not_not_intro ?_; fail) | (simp only [cellEq, toB]; omega) | (simp only [cellEq, toB]; simp; done) | fail) ?_; conv => whnf)
      | ((refine br_any (fun h => ?_) (fun h => ?_) <;> (try simp only [cellEq, toB, Bool.not_eq_true, Bool.not_eq_false] at h) <;> (try (exfalso; first | omega | contradiction | (simp at h; done) | fail); done) <;> conv => whnf)))
    | (refine ix_id ?_; first
      | (refine ix_lit (by first | decide | omega) (by (first | (simp only [Nat.zero_add, Nat.add_zero, Nat.mul_one, Nat.reduceAdd, Nat.reduceMul, Int.reduceToNat, Int.toNat_natCast, Int.toNat_zero, Int.toNat_one, Nat.zero_mul]; done) | (simp only [Nat.zero_add, Nat.add_zero, Nat.mul_one, Nat.reduceAdd, Nat.reduceMul, Int.reduceToNat, Int.toNat_natCast, Int.toNat_zero, Int.toNat_one, Nat.zero_mul]; rfl) | rfl)) (by rfl) ?_; conv => whnf)
      | (refine ix_sym (by omega) ?_; conv => whnf))
    | (refine lcall_id ?_; fail)
    | (refine lload_id ?_; first
      | (fail)
      | (refine load_old _ (by with_reducible assumption) (by simp; done) ?_; conv => whnf))
    | (refine lixs_id ?_; fail)
    | (refine ex_id ?_; first
      | (first | (with_reducible refine ex_z (xor_sb hs hb) ?_; conv => whnf) | (with_reducible refine ex_z (xor_sh hx2) ?_; conv => whnf))
      | (refine ex_z (by (first | (simp only [Int.reduceAdd, Int.reduceSub, Int.reduceMul, Int.reduceNeg, Int.reduceMod, Int.reduceDiv, Int.reduceTMod, Int.reduceTDiv, Int.zero_add, Int.add_zero]; done) | (simp only [Int.reduceAdd, Int.reduceSub, Int.reduceMul, Int.reduceNeg, Int.reduceMod, Int.reduceDiv, Int.reduceTMod, Int.reduceTDiv, Int.zero_add, Int.add_zero]; rfl) | rfl)) ?_; conv => whnf))
    | (refine sh_id ?_; first
      | (first | (refine shl_lit 256 (by decide) (by decide) (by (dsimp only [inR]; first | decide | omega)) ?_; conv => whnf) | (refine shr_litE (z := ((st1n j (s ^^^ b * 256) >>> 15 : Nat) : Int)) 32768 (by decide) (by decide) (shr15 _) ?_; conv => whnf) | (refine shl_litW (z := (((st1n j (s ^^^ b * 256) <<< 1) % 2 ^ 16 : Nat) : Int)) 2 (by decide) (by decide) (by rw [IntKind.wrap_u16]; exact shl1 _) ?_; conv => whnf))
      | (refine sh_z (by omega) (by (first | (simp only [Int.reduceAdd, Int.reduceSub, Int.reduceMul, Int.reduceNeg, Int.reduceMod, Int.reduceDiv, Int.reduceTMod, Int.reduceTDiv, Int.zero_add, Int.add_zero]; done) | (simp only [Int.reduceAdd, Int.reduceSub, Int.reduceMul, Int.reduceNeg, Int.reduceMod, Int.reduceDiv, Int.reduceTMod, Int.reduceTDiv, Int.zero_add, Int.add_zero]; rfl) | rfl)) ?_; conv => whnf))
    | (refine quo_id ?_; first
      | (refine quo_in (by omega) (by (first | (simp only [Int.reduceAdd, Int.reduceSub, Int.reduceMul, Int.reduceNeg, Int.reduceMod, Int.reduceDiv, Int.reduceTMod, Int.reduceTDiv, Int.zero_add, Int.add_zero]; done) | (simp only [Int.reduceAdd, Int.reduceSub, Int.reduceMul, Int.reduceNeg, Int.reduceMod, Int.reduceDiv, Int.reduceTMod, Int.reduceTDiv, Int.zero_add, Int.add_zero]; rfl) | rfl)) (by (dsimp only [inR]; first | decide | omega)) ?_; conv => whnf)
      | (refine quo_t (by omega) (by (dsimp only [inR]; first | decide | omega)) ?_; conv => whnf))
    | (refine rem_id ?_; first
      | (refine rem_in (by omega) (by (first | (simp only [Int.reduceAdd, Int.reduceSub, Int.reduceMul, Int.reduceNeg, Int.reduceMod, Int.reduceDiv, Int.reduceTMod, Int.reduceTDiv, Int.zero_add, Int.add_zero]; done) | (simp only [Int.reduceAdd, Int.reduceSub, Int.reduceMul, Int.reduceNeg, Int.reduceMod, Int.reduceDiv, Int.reduceTMod, Int.reduceTDiv, Int.zero_add, Int.add_zero]; rfl) | rfl)) ?_; conv => whnf)
      | (refine rem_t (by omega) ?_; conv => whnf))
    | (refine app_id ?_; refine app_i (by (first | (simp only [Nat.zero_add, Nat.add_zero, Nat.mul_one, Nat.reduceAdd, Nat.reduceMul, Int.reduceToNat, Int.toNat_natCast, Int.toNat_zero, Int.toNat_one, Nat.zero_mul]; done) | (simp only [Nat.zero_add, Nat.add_zero, Nat.mul_one, Nat.reduceAdd, Nat.reduceMul, Int.reduceToNat, Int.toNat_natCast, Int.toNat_zero, Int.toNat_one, Nat.zero_mul]; rfl) | rfl)) (by (first | (simp only [List.nil_append, List.cons_append, List.append_nil]; done) | (simp only [List.nil_append, List.cons_append, List.append_nil]; rfl) | rfl)) (by omega) (by omega) ?_; intro _ _ _; conv => whnf)
    | (refine mk_id ?_; first | (refine mk_lit (by rfl) (by rfl) (by decide) (by rfl) ?_; conv => whnf) | (refine mk_sym _ (by first | rfl | omega) (by first | rfl | omega) (by omega) (by omega) ?_; conv => whnf))
    | (refine sl_id ?_; fail)
    | (refine eff_id ?_; fail)
    | (refine val_id ?_; fail)
    | (refine x_rnd ?_)
    | (refine x_rnd' ?_)
    | (refine xdrw_id ?_; fail))
  refine x_loopA [] (fun j : Nat => [(11, i64 j), (0, u16 (st1n j (s ^^^ b * 256) : Nat))]) (fun _ => []) (fun j => j ≤ 8) (fun j => 8 - j) 0 (by rfl) (by rfl) (by rfl) (by omega) (by (repeat (first | exact trivial | ((conv => whnf); refine And.intro (by first | rfl | exact congrArg (Value.int _) (by omega)) ?_)))) (by (repeat (first | exact trivial | ((conv => whnf); refine And.intro (by rfl) ?_)))) ?_
  rintro j hj
  dsimp only [appF, appM]
  have hx2 := st1n_lt hx j
  have hx3 : st1n j (s ^^^ b * 256) >>> 15 ≤ 1 := by rw [Nat.shiftRight_eq_div_pow]; omega
  repeat' (first
    | (fail)
    | (refine run_c tab_ok ?_; conv => whnf)
    | (refine side_id ?_; refine side_i (by first | rfl | exact ⟨rfl, rfl, rfl, rfl⟩ | trivial | (simp [allOne, partsOne, Value.cells, Value.oneCell']; done) | fail) ?_; conv => whnf)
    | (refine ar_id ?_; first
      | (refine ar_in (by (first | (simp only [Int.reduceAdd, Int.reduceSub, Int.reduceMul, Int.reduceNeg, Int.reduceMod, Int.reduceDiv, Int.reduceTMod, Int.reduceTDiv, Int.zero_add, Int.add_zero]; done) | (simp only [Int.reduceAdd, Int.reduceSub, Int.reduceMul, Int.reduceNeg, Int.reduceMod, Int.reduceDiv, Int.reduceTMod, Int.reduceTDiv, Int.zero_add, Int.add_zero]; rfl) | rfl)) (by (dsimp only [inR]; first | decide | omega)) ?_; conv => whnf)
      | (fail))
    | (refine new_i ?_; intro _; conv => whnf)
    | (refine br_id ?_; first
      | (refine br_t (by first | decide | omega | (with_reducible rfl) | fail | (simp only [cellEq, toB]; omega) | (simp only [cellEq, toB]; simp; done) | fail) ?_; conv => whnf)
      | (refine br_f (by first | decide | omega | (with_reducible exact Bool.false_ne_true) | (with_reducible refine not_not_intro ?_; fail) | (simp only [cellEq, toB]; omega) | (simp only [cellEq, toB]; simp; done) | fail) ?_; conv => whnf)
      | ((refine br_any (fun h => ?_) (fun h => ?_) <;> (try simp only [cellEq, toB, Bool.not_eq_true, Bool.not_eq_false] at h) <;> (try (exfalso; first | omega | contradiction | (simp at h; done) | fail); done) <;> conv => whnf)))
    | (refine ix_id ?_; first
      | (refine ix_lit (by first | decide | omega) (by (first | (simp only [Nat.zero_add, Nat.add_zero, Nat.mul_one, Nat.reduceAdd, Nat.reduceMul, Int.reduceToNat, Int.toNat_natCast, Int.toNat_zero, Int.toNat_one, Nat.zero_mul]; done) | (simp only [Nat.zero_add, Nat.add_zero, Nat.mul_one, Nat.reduceAdd, Nat.reduceMul, Int.reduceToNat, Int.toNat_natCast, Int.toNat_zero, Int.toNat_one, Nat.zero_mul]; rfl) | rfl)) (by rfl) ?_; conv => whnf)
      | (refine ix_sym (by omega) ?_; conv => whnf))
    | (refine lcall_id ?_; fail)
    | (refine lload_id ?_; first
      | (fail)
      | (refine load_old _ (by with_reducible assumption) (by simp; done) ?_; conv => whnf))
    | (refine lixs_id ?_; fail)
    | (refine ex_id ?_; first
      | (first | (with_reducible refine ex_z (xor_sb hs hb) ?_; conv => whnf) | (with_reducible refine ex_z (xor_sh hx2) ?_; conv => whnf))
      | (refine ex_z (by (first | (simp only [Int.reduceAdd, Int.reduceSub, Int.reduceMul, Int.reduceNeg, Int.reduceMod, Int.reduceDiv, Int.reduceTMod, Int.reduceTDiv, Int.zero_add, Int.add_zero]; done) | (simp only [Int.reduceAdd, Int.reduceSub, Int.reduceMul, Int.reduceNeg, Int.reduceMod, Int.reduceDiv, Int.reduceTMod, Int.reduceTDiv, Int.zero_add, Int.add_zero]; rfl) | rfl)) ?_; conv => whnf))
    | (refine sh_id ?_; first
      | (first | (refine shl_lit 256 (by decide) (by decide) (by (dsimp only [inR]; first | decide | omega)) ?_; conv => whnf) | (refine shr_litE (z := ((st1n j (s ^^^ b * 256) >>> 15 : Nat) : Int)) 32768 (by decide) (by decide) (shr15 _) ?_; conv => whnf) | (refine shl_litW (z := (((st1n j (s ^^^ b * 256) <<< 1) % 2 ^ 16 : Nat) : Int)) 2 (by decide) (by decide) (by rw [IntKind.wrap_u16]; exact shl1 _) ?_; conv => whnf))
      | (refine sh_z (by omega) (by (first | (simp only [Int.reduceAdd, Int.reduceSub, Int.reduceMul, Int.reduceNeg, Int.reduceMod, Int.reduceDiv, Int.reduceTMod, Int.reduceTDiv, Int.zero_add, Int.add_zero]; done) | (simp only [Int.reduceAdd, Int.reduceSub, Int.reduceMul, Int.reduceNeg, Int.reduceMod, Int.reduceDiv, Int.reduceTMod, Int.reduceTDiv, Int.zero_add, Int.add_zero]; rfl) | rfl)) ?_; conv => whnf))
    | (refine quo_id ?_; first
      | (refine quo_in (by omega) (by (first | (simp only [Int.reduceAdd, Int.reduceSub, Int.reduceMul, Int.reduceNeg, Int.reduceMod, Int.reduceDiv, Int.reduceTMod, Int.reduceTDiv, Int.zero_add, Int.add_zero]; done) | (simp only [Int.reduceAdd, Int.reduceSub, Int.reduceMul, Int.reduceNeg, Int.reduceMod, Int.reduceDiv, Int.reduceTMod, Int.reduceTDiv, Int.zero_add, Int.add_zero]; rfl) | rfl)) (by (dsimp only [inR]; first | decide | omega)) ?_; conv => whnf)
      | (refine quo_t (by omega) (by (dsimp only [inR]; first | decide | omega)) ?_; conv => whnf))
    | (refine rem_id ?_; first
      | (refine rem_in (by omega) (by (first | (simp only [Int.reduceAdd, Int.reduceSub, Int.reduceMul, Int.reduceNeg, Int.reduceMod, Int.reduceDiv, Int.reduceTMod, Int.reduceTDiv, Int.zero_add, Int.add_zero]; done) | (simp only [Int.reduceAdd, Int.reduceSub, Int.reduceMul, Int.reduceNeg, Int.reduceMod, Int.reduceDiv, Int.reduceTMod, Int.reduceTDiv, Int.zero_add, Int.add_zero]; rfl) | rfl)) ?_; conv => whnf)
      | (refine rem_t (by omega) ?_; conv => whnf))
    | (refine app_id ?_; refine app_i (by (first | (simp only [Nat.zero_add, Nat.add_zero, Nat.mul_one, Nat.reduceAdd, Nat.reduceMul, Int.reduceToNat, Int.toNat_natCast, Int.toNat_zero, Int.toNat_one, Nat.zero_mul]; done) | (simp only [Nat.zero_add, Nat.add_zero, Nat.mul_one, Nat.reduceAdd, Nat.reduceMul, Int.reduceToNat, Int.toNat_natCast, Int.toNat_zero, Int.toNat_one, Nat.zero_mul]; rfl) | rfl)) (by (first | (simp only [List.nil_append, List.cons_append, List.append_nil]; done) | (simp only [List.nil_append, List.cons_append, List.append_nil]; rfl) | rfl)) (by omega) (by omega) ?_; intro _ _ _; conv => whnf)
    | (refine mk_id ?_; first | (refine mk_lit (by rfl) (by rfl) (by decide) (by rfl) ?_; conv => whnf) | (refine mk_sym _ (by first | rfl | omega) (by first | rfl | omega) (by omega) (by omega) ?_; conv => whnf))
    | (refine sl_id ?_; fail)
    | (refine eff_id ?_; fail)
    | (refine val_id ?_; fail)
    | (refine x_rnd ?_)
    | (refine x_rnd' ?_)
    | (refine xdrw_id ?_; fail))
  · exact x_roundA (j + 1) (by omega) (by omega) (by (repeat (first | exact trivial | ((conv => whnf); refine And.intro (by first | rfl | exact congrArg (Value.int _) (by omega)) ?_)))) (by (repeat (first | exact trivial | ((conv => whnf); refine And.intro rfl ?_)))) (by (repeat (first | exact trivial | ((conv => whnf); refine And.intro (by rfl) ?_))))
  · obtain rfl : j = 8 := by omega
    (refine fin_ret ?_)
    rfl

/-! the table -/
def tabL (k : Nat) : List Int := (List.range 256).map fun i => if i < k then ((st8 (i * 256) : Nat) : Int) else 0
theorem tabL_len (k : Nat) : (tabL k).length = 256 := by simp [tabL]
theorem tabL_get (k i : Nat) (h : i < 256) : (tabL k).getD i 0 = if i < k then ((st8 (i * 256) : Nat) : Int) else 0 := by simp [tabL, List.getD, h]
theorem tabL_set (k : Nat) (h : k < 256) : (tabL k).set k ((st8 (k * 256) : Nat) : Int) = tabL (k + 1) := by
  apply List.ext_getElem (by simp [tabL_len])
  intro i h1 h2
  simp only [tabL_len] at h2
  rw [List.getElem_set]
  simp only [tabL, List.getElem_map, List.getElem_range]
  by_cases e : k = i
  · subst e; simp
  · rw [if_neg e]
    by_cases h3 : i < k
    · rw [if_pos h3, if_pos (by omega)]
    · rw [if_neg h3, if_neg (by omega)]
theorem tabL_zero : (tabL 0).map (Value.int .u16) = List.replicate 256 (Value.int .u16 0) := by
  have h : tabL 0 = List.replicate 256 0 := by
    apply List.ext_getElem (by rw [tabL_len, List.length_replicate])
    intro i h1 h2
    rw [List.getElem_replicate]
    simp only [tabL, List.getElem_map, List.getElem_range]
    rw [if_neg (by omega)]
  rw [h, List.map_replicate]
theorem dens_ints (k : IntKind) (zs : List Int) : dens (zs.map (SV.int k)) = zs.map (Value.int k) := by
  induction zs with
  | nil => rfl
  | cons z zs ih => simp [dens, ih, SV.den]
theorem hasVal_ints (k : IntKind) (zs : List Int) : hasVal (zs.map (SV.int k)) = false := by
  induction zs with
  | nil => rfl
  | cons z zs ih => simpa [hasVal] using ih
theorem takeX_all : ∀ (vs : List SV), takeX vs.length vs = some vs
  | [] => rfl
  | v :: vs => by simp [takeX, takeX_all vs]
theorem lenX_all : ∀ (vs : List SV), lenX vs vs.length = true
  | [] => rfl
  | v :: vs => by simp [lenX, lenX_all vs]
theorem tab_ex : ∃ tb : List SV, hasVal tb = false ∧ takeX 256 tb = some tb ∧ dens tb = (tabL 256).map (Value.int .u16) ∧ lenX tb 256 = true := by
  refine ⟨(tabL 256).map (SV.int .u16), hasVal_ints _ _, ?_, dens_ints _ _, ?_⟩
  · have := takeX_all ((tabL 256).map (SV.int .u16))
    rwa [List.length_map, tabL_len] at this
  · have := lenX_all ((tabL 256).map (SV.int .u16))
    rwa [List.length_map, tabL_len] at this
noncomputable def tabS : List SV := Classical.choose tab_ex
theorem tabS_val : hasVal tabS = false := (Classical.choose_spec tab_ex).1
theorem tabS_take : takeX 256 tabS = some tabS := (Classical.choose_spec tab_ex).2.1
theorem tabS_dens : dens tabS = (tabL 256).map (Value.int .u16) := (Classical.choose_spec tab_ex).2.2.1
theorem tabS_len : lenX tabS 256 = true := (Classical.choose_spec tab_ex).2.2.2
theorem splX_all : ∀ {cs vs : List SV}, cs.length = vs.length → splX cs 0 vs = some vs
  | [], [], _ => rfl
  | [], _ :: _, h => by simp at h
  | _ :: _, [], h => by simp at h
  | c :: cs, v :: vs, h => by simp [splX, splX_all (cs := cs) (vs := vs) (by simpa using h)]
theorem splX_tab (cs : List SV) (h : cs.length = 256) : splX cs 0 tabS = some tabS := splX_all (by rw [h, ← lenX_eq tabS_len])
theorem tabS_rdv : rdv true 256 ((tabL 256).map (Value.int .u16)) 0 = some (SV.agg tabS).den := by
  rw [← tabS_dens]
  exact rdv_all (by rw [dens_length, lenX_eq tabS_len])
theorem tabS_rd : rdX true 256 tabS 0 = some (.agg tabS) := by simp only [rdX, dropX, tabS_take]
theorem tabL_splice {j : Nat} (h : j < 256) : splice ((tabL j).map (Value.int .u16)) j [Value.int .u16 ((st8 (j * 256) : Nat) : Int)] = (tabL (j + 1)).map (Value.int .u16) := by
  rw [splice_one _ _ _ (by rw [List.length_map, tabL_len]; exact h), ← tabL_set j h, List.map_set]
theorem tabS_get {i : Nat} (h : i < 256) : (dens tabS)[i]? = some (SV.int .u16 ((st8 (i * 256) : Nat) : Int)).den := by
  rw [tabS_dens, List.getElem?_map]
  have h1 : i < (tabL 256).length := by rw [tabL_len]; exact h
  have h2 := tabL_get 256 i h
  rw [if_pos h, List.getD, List.getElem?_eq_getElem h1] at h2
  rw [List.getElem?_eq_getElem h1]
  simp at h2
  simp [h2, SV.den]
theorem step_0 (b : Nat) (w : World) (hb : b < 256) : RetS Try.prog 77 [u16 0, u8 (b : Int)] w (u16 (st8 (b * 256) : Nat)) := by
  have := step_S 0 b w (by decide) hb
  rwa [crcStep, Nat.zero_xor] at this
theorem make_S (w : World) : RetS Try.prog 63 [] w (.agg tabS) := by
  refine ret_x tab_ok Try.func63 rfl Try.ntmps63 (by rfl) ?_; simp only [argX, Nat.reduceAdd, Nat.zero_add]; conv => whnf
  repeat' (first
    | (((first | rw [show rdX ti_119.agg ti_119.sz tabS 0 = some (.agg tabS) from tabS_rd] | rw [show lenX tabS ti_119.sz = true from tabS_len] | rw [show takeX ti_119.sz tabS = some tabS from tabS_take] | rw [tabS_val] | rw [tabS_take] | rw [tabS_len] | rw [splX_tab _ rfl]); conv => whnf))
    | (refine run_c tab_ok ?_; conv => whnf)
    | (refine side_id ?_; refine side_i (by first | rfl | exact ⟨rfl, rfl, rfl, rfl⟩ | trivial | (simp [allOne, partsOne, Value.cells, Value.oneCell']; done) | fail) ?_; conv => whnf)
    | (refine ar_id ?_; first
      | (refine ar_in (by (first | (simp only [Int.reduceAdd, Int.reduceSub, Int.reduceMul, Int.reduceNeg, Int.reduceMod, Int.reduceDiv, Int.reduceTMod, Int.reduceTDiv, Int.zero_add, Int.add_zero]; done) | (simp only [Int.reduceAdd, Int.reduceSub, Int.reduceMul, Int.reduceNeg, Int.reduceMod, Int.reduceDiv, Int.reduceTMod, Int.reduceTDiv, Int.zero_add, Int.add_zero]; rfl) | rfl)) (by (dsimp only [inR]; first | decide | omega)) ?_; conv => whnf)
      | ((refine ar_u8v (z := (j : Int)) (by omega) ?_; conv => whnf)))
    | (refine new_i ?_; intro _; conv => whnf)
    | (refine br_id ?_; first
      | (refine br_t (by first | decide | omega | (with_reducible rfl) | fail | (simp only [cellEq, toB]; omega) | (simp only [cellEq, toB]; simp; done) | fail) ?_; conv => whnf)
      | (refine br_f (by first | decide | omega | (with_reducible exact Bool.false_ne_true) | (with_reducible refine not_not_intro ?_; fail) | (simp only [cellEq, toB]; omega) | (simp only [cellEq, toB]; simp; done) | fail) ?_; conv => whnf)
      | ((refine br_any (fun h => ?_) (fun h => ?_) <;> (try simp only [cellEq, toB, Bool.not_eq_true, Bool.not_eq_false] at h) <;> (try (exfalso; first | omega | contradiction | (simp at h; done) | fail); done) <;> conv => whnf)))
    | (refine ix_id ?_; first
      | (refine ix_lit (by first | decide | omega) (by (first | (simp only [Nat.zero_add, Nat.add_zero, Nat.mul_one, Nat.reduceAdd, Nat.reduceMul, Int.reduceToNat, Int.toNat_natCast, Int.toNat_zero, Int.toNat_one, Nat.zero_mul]; done) | (simp only [Nat.zero_add, Nat.add_zero, Nat.mul_one, Nat.reduceAdd, Nat.reduceMul, Int.reduceToNat, Int.toNat_natCast, Int.toNat_zero, Int.toNat_one, Nat.zero_mul]; rfl) | rfl)) (by rfl) ?_; conv => whnf)
      | (refine ix_sym (by omega) ?_; conv => whnf))
    | (refine lcall_id ?_; (refine lcall_ret (fun w' hloc => step_0 j w' (by omega)) ?_; conv => whnf))
    | (refine lload_id ?_; first
      | ((refine load_aggM (.agg tabS) (by (first | ((repeat (first | (with_reducible exact am_blk) | (with_reducible exact am_row) | (with_reducible exact am_blkV) | (with_reducible exact am_oth) | (with_reducible apply am_tail))); done) | ((repeat (first | exact am_row | exact am_blk | exact am_blkV | apply am_tail)); done))) (by exact tabS_rdv) ?_; conv => whnf))
      | (refine load_old _ (by with_reducible assumption) (by simp; done) ?_; conv => whnf))
    | (refine lixs_id ?_; fail)
    | (refine ex_id ?_; first
      | (fail)
      | (refine ex_z (by (first | (simp only [Int.reduceAdd, Int.reduceSub, Int.reduceMul, Int.reduceNeg, Int.reduceMod, Int.reduceDiv, Int.reduceTMod, Int.reduceTDiv, Int.zero_add, Int.add_zero]; done) | (simp only [Int.reduceAdd, Int.reduceSub, Int.reduceMul, Int.reduceNeg, Int.reduceMod, Int.reduceDiv, Int.reduceTMod, Int.reduceTDiv, Int.zero_add, Int.add_zero]; rfl) | rfl)) ?_; conv => whnf))
    | (refine sh_id ?_; first
      | (fail)
      | (refine sh_z (by omega) (by (first | (simp only [Int.reduceAdd, Int.reduceSub, Int.reduceMul, Int.reduceNeg, Int.reduceMod, Int.reduceDiv, Int.reduceTMod, Int.reduceTDiv, Int.zero_add, Int.add_zero]; done) | (simp only [Int.reduceAdd, Int.reduceSub, Int.reduceMul, Int.reduceNeg, Int.reduceMod, Int.reduceDiv, Int.reduceTMod, Int.reduceTDiv, Int.zero_add, Int.add_zero]; rfl) | rfl)) ?_; conv => whnf))
    | (refine quo_id ?_; first
      | (refine quo_in (by omega) (by (first | (simp only [Int.reduceAdd, Int.reduceSub, Int.reduceMul, Int.reduceNeg, Int.reduceMod, Int.reduceDiv, Int.reduceTMod, Int.reduceTDiv, Int.zero_add, Int.add_zero]; done) | (simp only [Int.reduceAdd, Int.reduceSub, Int.reduceMul, Int.reduceNeg, Int.reduceMod, Int.reduceDiv, Int.reduceTMod, Int.reduceTDiv, Int.zero_add, Int.add_zero]; rfl) | rfl)) (by (dsimp only [inR]; first | decide | omega)) ?_; conv => whnf)
      | (refine quo_t (by omega) (by (dsimp only [inR]; first | decide | omega)) ?_; conv => whnf))
    | (refine rem_id ?_; first
      | (refine rem_in (by omega) (by (first | (simp only [Int.reduceAdd, Int.reduceSub, Int.reduceMul, Int.reduceNeg, Int.reduceMod, Int.reduceDiv, Int.reduceTMod, Int.reduceTDiv, Int.zero_add, Int.add_zero]; done) | (simp only [Int.reduceAdd, Int.reduceSub, Int.reduceMul, Int.reduceNeg, Int.reduceMod, Int.reduceDiv, Int.reduceTMod, Int.reduceTDiv, Int.zero_add, Int.add_zero]; rfl) | rfl)) ?_; conv => whnf)
      | (refine rem_t (by omega) ?_; conv => whnf))
    | (refine app_id ?_; refine app_i (by (first | (simp only [Nat.zero_add, Nat.add_zero, Nat.mul_one, Nat.reduceAdd, Nat.reduceMul, Int.reduceToNat, Int.toNat_natCast, Int.toNat_zero, Int.toNat_one, Nat.zero_mul]; done) | (simp only [Nat.zero_add, Nat.add_zero, Nat.mul_one, Nat.reduceAdd, Nat.reduceMul, Int.reduceToNat, Int.toNat_natCast, Int.toNat_zero, Int.toNat_one, Nat.zero_mul]; rfl) | rfl)) (by (first | (simp only [List.nil_append, List.cons_append, List.append_nil]; done) | (simp only [List.nil_append, List.cons_append, List.append_nil]; rfl) | rfl)) (by omega) (by omega) ?_; intro _ _ _; conv => whnf)
    | (refine mk_id ?_; first | (refine mk_lit (by rfl) (by rfl) (by decide) (by rfl) ?_; conv => whnf) | (refine mk_sym _ (by first | rfl | omega) (by first | rfl | omega) (by omega) (by omega) ?_; conv => whnf))
    | (refine sl_id ?_; fail)
    | (refine eff_id ?_; (refine eff_stV (h := 1) (off := j) (by rfl) (by exact congrArg (fun o => Value.pointer (some ⟨b1, o, none⟩)) (show 0 + (j : Int).toNat * 1 = j by omega)) (by rfl) (by rfl) (by rfl) (by exact trivial) (by rw [List.length_map, tabL_len]; omega) (by rfl) (by rfl) ?_; conv => whnf))
    | (refine val_id ?_; fail)
    | (refine x_rnd ?_)
    | (refine x_rnd' ?_)
    | (refine xdrw_id ?_; fail))
  rename_i b0 b1
  refine x_loopA [1] (fun j : Nat => [(3, i64 j)]) (fun j => [.blkV 1 119 b1 ((tabL j).map (Value.int .u16))]) (fun j => j ≤ 256) (fun j => 256 - j) 0 (by rfl) (by rfl) (by rfl) (by omega) (by (repeat (first | exact trivial | ((conv => whnf); refine And.intro (by first | rfl | exact congrArg (Value.int _) (by omega)) ?_)))) (by (repeat (first | exact trivial | ((conv => whnf); refine And.intro (by first | rfl | exact congrArg (blk _ _) tabL_zero.symm) ?_)))) ?_
  rintro j hj
  dsimp only [appF, appM]
  by_cases hlt : j < 256
  · skip
    repeat' (first
      | (((first | rw [show rdX ti_119.agg ti_119.sz tabS 0 = some (.agg tabS) from tabS_rd] | rw [show lenX tabS ti_119.sz = true from tabS_len] | rw [show takeX ti_119.sz tabS = some tabS from tabS_take] | rw [tabS_val] | rw [tabS_take] | rw [tabS_len] | rw [splX_tab _ rfl]); conv => whnf))
      | (refine run_c tab_ok ?_; conv => whnf)
      | (refine side_id ?_; refine side_i (by first | rfl | exact ⟨rfl, rfl, rfl, rfl⟩ | trivial | (simp [allOne, partsOne, Value.cells, Value.oneCell']; done) | fail) ?_; conv => whnf)
      | (refine ar_id ?_; first
        | (refine ar_in (by (first | (simp only [Int.reduceAdd, Int.reduceSub, Int.reduceMul, Int.reduceNeg, Int.reduceMod, Int.reduceDiv, Int.reduceTMod, Int.reduceTDiv, Int.zero_add, Int.add_zero]; done) | (simp only [Int.reduceAdd, Int.reduceSub, Int.reduceMul, Int.reduceNeg, Int.reduceMod, Int.reduceDiv, Int.reduceTMod, Int.reduceTDiv, Int.zero_add, Int.add_zero]; rfl) | rfl)) (by (dsimp only [inR]; first | decide | omega)) ?_; conv => whnf)
        | ((refine ar_u8v (z := (j : Int)) (by omega) ?_; conv => whnf)))
      | (refine new_i ?_; intro _; conv => whnf)
      | (refine br_id ?_; first
        | (refine br_t (by first | decide | omega | (with_reducible rfl) | fail | (simp only [cellEq, toB]; omega) | (simp only [cellEq, toB]; simp; done) | fail) ?_; conv => whnf)
        | (refine br_f (by first | decide | omega | (with_reducible exact Bool.false_ne_true) | (with_reducible refine not_not_intro ?_; fail) | (simp only [cellEq, toB]; omega) | (simp only [cellEq, toB]; simp; done) | fail) ?_; conv => whnf)
        | ((refine br_any (fun h => ?_) (fun h => ?_) <;> (try simp only [cellEq, toB, Bool.not_eq_true, Bool.not_eq_false] at h) <;> (try (exfalso; first | omega | contradiction | (simp at h; done) | fail); done) <;> conv => whnf)))
      | (refine ix_id ?_; first
        | (refine ix_lit (by first | decide | omega) (by (first | (simp only [Nat.zero_add, Nat.add_zero, Nat.mul_one, Nat.reduceAdd, Nat.reduceMul, Int.reduceToNat, Int.toNat_natCast, Int.toNat_zero, Int.toNat_one, Nat.zero_mul]; done) | (simp only [Nat.zero_add, Nat.add_zero, Nat.mul_one, Nat.reduceAdd, Nat.reduceMul, Int.reduceToNat, Int.toNat_natCast, Int.toNat_zero, Int.toNat_one, Nat.zero_mul]; rfl) | rfl)) (by rfl) ?_; conv => whnf)
        | (refine ix_sym (by omega) ?_; conv => whnf))
      | (refine lcall_id ?_; (refine lcall_ret (fun w' hloc => step_0 j w' (by omega)) ?_; conv => whnf))
      | (refine lload_id ?_; first
        | ((refine load_aggM (.agg tabS) (by (first | ((repeat (first | (with_reducible exact am_blk) | (with_reducible exact am_row) | (with_reducible exact am_blkV) | (with_reducible exact am_oth) | (with_reducible apply am_tail))); done) | ((repeat (first | exact am_row | exact am_blk | exact am_blkV | apply am_tail)); done))) (by exact tabS_rdv) ?_; conv => whnf))
        | (refine load_old _ (by with_reducible assumption) (by simp; done) ?_; conv => whnf))
      | (refine lixs_id ?_; fail)
      | (refine ex_id ?_; first
        | (fail)
        | (refine ex_z (by (first | (simp only [Int.reduceAdd, Int.reduceSub, Int.reduceMul, Int.reduceNeg, Int.reduceMod, Int.reduceDiv, Int.reduceTMod, Int.reduceTDiv, Int.zero_add, Int.add_zero]; done) | (simp only [Int.reduceAdd, Int.reduceSub, Int.reduceMul, Int.reduceNeg, Int.reduceMod, Int.reduceDiv, Int.reduceTMod, Int.reduceTDiv, Int.zero_add, Int.add_zero]; rfl) | rfl)) ?_; conv => whnf))
      | (refine sh_id ?_; first
        | (fail)
        | (refine sh_z (by omega) (by (first | (simp only [Int.reduceAdd, Int.reduceSub, Int.reduceMul, Int.reduceNeg, Int.reduceMod, Int.reduceDiv, Int.reduceTMod, Int.reduceTDiv, Int.zero_add, Int.add_zero]; done) | (simp only [Int.reduceAdd, Int.reduceSub, Int.reduceMul, Int.reduceNeg, Int.reduceMod, Int.reduceDiv, Int.reduceTMod, Int.reduceTDiv, Int.zero_add, Int.add_zero]; rfl) | rfl)) ?_; conv => whnf))
      | (refine quo_id ?_; first
        | (refine quo_in (by omega) (by (first | (simp only [Int.reduceAdd, Int.reduceSub, Int.reduceMul, Int.reduceNeg, Int.reduceMod, Int.reduceDiv, Int.reduceTMod, Int.reduceTDiv, Int.zero_add, Int.add_zero]; done) | (simp only [Int.reduceAdd, Int.reduceSub, Int.reduceMul, Int.reduceNeg, Int.reduceMod, Int.reduceDiv, Int.reduceTMod, Int.reduceTDiv, Int.zero_add, Int.add_zero]; rfl) | rfl)) (by (dsimp only [inR]; first | decide | omega)) ?_; conv => whnf)
        | (refine quo_t (by omega) (by (dsimp only [inR]; first | decide | omega)) ?_; conv => whnf))
      | (refine rem_id ?_; first
        | (refine rem_in (by omega) (by (first | (simp only [Int.reduceAdd, Int.reduceSub, Int.reduceMul, Int.reduceNeg, Int.reduceMod, Int.reduceDiv, Int.reduceTMod, Int.reduceTDiv, Int.zero_add, Int.add_zero]; done) | (simp only [Int.reduceAdd, Int.reduceSub, Int.reduceMul, Int.reduceNeg, Int.reduceMod, Int.reduceDiv, Int.reduceTMod, Int.reduceTDiv, Int.zero_add, Int.add_zero]; rfl) | rfl)) ?_; conv => whnf)
        | (refine rem_t (by omega) ?_; conv => whnf))
      | (refine app_id ?_; refine app_i (by (first | (simp only [Nat.zero_add, Nat.add_zero, Nat.mul_one, Nat.reduceAdd, Nat.reduceMul, Int.reduceToNat, Int.toNat_natCast, Int.toNat_zero, Int.toNat_one, Nat.zero_mul]; done) | (simp only [Nat.zero_add, Nat.add_zero, Nat.mul_one, Nat.reduceAdd, Nat.reduceMul, Int.reduceToNat, Int.toNat_natCast, Int.toNat_zero, Int.toNat_one, Nat.zero_mul]; rfl) | rfl)) (by (first | (simp only [List.nil_append, List.cons_append, List.append_nil]; done) | (simp only [List.nil_append, List.cons_append, List.append_nil]; rfl) | rfl)) (by omega) (by omega) ?_; intro _ _ _; conv => whnf)
      | (refine mk_id ?_; first | (refine mk_lit (by rfl) (by rfl) (by decide) (by rfl) ?_; conv => whnf) | (refine mk_sym _ (by first | rfl | omega) (by first | rfl | omega) (by omega) (by omega) ?_; conv => whnf))
      | (refine sl_id ?_; fail)
      | (refine eff_id ?_; (refine eff_stV (h := 1) (off := j) (by rfl) (by exact congrArg (fun o => Value.pointer (some ⟨b1, o, none⟩)) (show 0 + (j : Int).toNat * 1 = j by omega)) (by rfl) (by rfl) (by rfl) (by exact trivial) (by rw [List.length_map, tabL_len]; omega) (by rfl) (by rfl) ?_; conv => whnf))
      | (refine val_id ?_; fail)
      | (refine x_rnd ?_)
      | (refine x_rnd' ?_)
      | (refine xdrw_id ?_; fail))
    refine x_roundA (j + 1) (by omega) (by omega) (by (repeat (first | exact trivial | ((conv => whnf); refine And.intro (by first | rfl | exact congrArg (Value.int _) (by omega)) ?_)))) (by (repeat (first | exact trivial | ((conv => whnf); refine And.intro rfl ?_)))) ?_
    exact ⟨congrArg (blk _ _) (tabL_splice hlt), by (repeat (first | exact trivial | ((conv => whnf); refine And.intro (by first | rfl | exact congrArg (blk _ _) tabL_zero.symm) ?_)))⟩
  · obtain rfl : j = 256 := by omega
    repeat' (first
      | (((first | rw [show rdX ti_119.agg ti_119.sz tabS 0 = some (.agg tabS) from tabS_rd] | rw [show lenX tabS ti_119.sz = true from tabS_len] | rw [show takeX ti_119.sz tabS = some tabS from tabS_take] | rw [tabS_val] | rw [tabS_take] | rw [tabS_len] | rw [splX_tab _ rfl]); conv => whnf))
      | (refine run_c tab_ok ?_; conv => whnf)
      | (refine side_id ?_; refine side_i (by first | rfl | exact ⟨rfl, rfl, rfl, rfl⟩ | trivial | (simp [allOne, partsOne, Value.cells, Value.oneCell']; done) | fail) ?_; conv => whnf)
      | (refine ar_id ?_; first
        | (refine ar_in (by (first | (simp only [Int.reduceAdd, Int.reduceSub, Int.reduceMul, Int.reduceNeg, Int.reduceMod, Int.reduceDiv, Int.reduceTMod, Int.reduceTDiv, Int.zero_add, Int.add_zero]; done) | (simp only [Int.reduceAdd, Int.reduceSub, Int.reduceMul, Int.reduceNeg, Int.reduceMod, Int.reduceDiv, Int.reduceTMod, Int.reduceTDiv, Int.zero_add, Int.add_zero]; rfl) | rfl)) (by (dsimp only [inR]; first | decide | omega)) ?_; conv => whnf)
        | ((refine ar_u8v (z := (j : Int)) (by omega) ?_; conv => whnf)))
      | (refine new_i ?_; intro _; conv => whnf)
      | (refine br_id ?_; first
        | (refine br_t (by first | decide | omega | (with_reducible rfl) | fail | (simp only [cellEq, toB]; omega) | (simp only [cellEq, toB]; simp; done) | fail) ?_; conv => whnf)
        | (refine br_f (by first | decide | omega | (with_reducible exact Bool.false_ne_true) | (with_reducible refine not_not_intro ?_; fail) | (simp only [cellEq, toB]; omega) | (simp only [cellEq, toB]; simp; done) | fail) ?_; conv => whnf)
        | ((refine br_any (fun h => ?_) (fun h => ?_) <;> (try simp only [cellEq, toB, Bool.not_eq_true, Bool.not_eq_false] at h) <;> (try (exfalso; first | omega | contradiction | (simp at h; done) | fail); done) <;> conv => whnf)))
      | (refine ix_id ?_; first
        | (refine ix_lit (by first | decide | omega) (by (first | (simp only [Nat.zero_add, Nat.add_zero, Nat.mul_one, Nat.reduceAdd, Nat.reduceMul, Int.reduceToNat, Int.toNat_natCast, Int.toNat_zero, Int.toNat_one, Nat.zero_mul]; done) | (simp only [Nat.zero_add, Nat.add_zero, Nat.mul_one, Nat.reduceAdd, Nat.reduceMul, Int.reduceToNat, Int.toNat_natCast, Int.toNat_zero, Int.toNat_one, Nat.zero_mul]; rfl) | rfl)) (by rfl) ?_; conv => whnf)
        | (refine ix_sym (by omega) ?_; conv => whnf))
      | (refine lcall_id ?_; (refine lcall_ret (fun w' hloc => step_0 j w' (by omega)) ?_; conv => whnf))
      | (refine lload_id ?_; first
        | ((refine load_aggM (.agg tabS) (by (first | ((repeat (first | (with_reducible exact am_blk) | (with_reducible exact am_row) | (with_reducible exact am_blkV) | (with_reducible exact am_oth) | (with_reducible apply am_tail))); done) | ((repeat (first | exact am_row | exact am_blk | exact am_blkV | apply am_tail)); done))) (by exact tabS_rdv) ?_; conv => whnf))
        | (refine load_old _ (by with_reducible assumption) (by simp; done) ?_; conv => whnf))
      | (refine lixs_id ?_; fail)
      | (refine ex_id ?_; first
        | (fail)
        | (refine ex_z (by (first | (simp only [Int.reduceAdd, Int.reduceSub, Int.reduceMul, Int.reduceNeg, Int.reduceMod, Int.reduceDiv, Int.reduceTMod, Int.reduceTDiv, Int.zero_add, Int.add_zero]; done) | (simp only [Int.reduceAdd, Int.reduceSub, Int.reduceMul, Int.reduceNeg, Int.reduceMod, Int.reduceDiv, Int.reduceTMod, Int.reduceTDiv, Int.zero_add, Int.add_zero]; rfl) | rfl)) ?_; conv => whnf))
      | (refine sh_id ?_; first
        | (fail)
        | (refine sh_z (by omega) (by (first | (simp only [Int.reduceAdd, Int.reduceSub, Int.reduceMul, Int.reduceNeg, Int.reduceMod, Int.reduceDiv, Int.reduceTMod, Int.reduceTDiv, Int.zero_add, Int.add_zero]; done) | (simp only [Int.reduceAdd, Int.reduceSub, Int.reduceMul, Int.reduceNeg, Int.reduceMod, Int.reduceDiv, Int.reduceTMod, Int.reduceTDiv, Int.zero_add, Int.add_zero]; rfl) | rfl)) ?_; conv => whnf))
      | (refine quo_id ?_; first
        | (refine quo_in (by omega) (by (first | (simp only [Int.reduceAdd, Int.reduceSub, Int.reduceMul, Int.reduceNeg, Int.reduceMod, Int.reduceDiv, Int.reduceTMod, Int.reduceTDiv, Int.zero_add, Int.add_zero]; done) | (simp only [Int.reduceAdd, Int.reduceSub, Int.reduceMul, Int.reduceNeg, Int.reduceMod, Int.reduceDiv, Int.reduceTMod, Int.reduceTDiv, Int.zero_add, Int.add_zero]; rfl) | rfl)) (by (dsimp only [inR]; first | decide | omega)) ?_; conv => whnf)
        | (refine quo_t (by omega) (by (dsimp only [inR]; first | decide | omega)) ?_; conv => whnf))
      | (refine rem_id ?_; first
        | (refine rem_in (by omega) (by (first | (simp only [Int.reduceAdd, Int.reduceSub, Int.reduceMul, Int.reduceNeg, Int.reduceMod, Int.reduceDiv, Int.reduceTMod, Int.reduceTDiv, Int.zero_add, Int.add_zero]; done) | (simp only [Int.reduceAdd, Int.reduceSub, Int.reduceMul, Int.reduceNeg, Int.reduceMod, Int.reduceDiv, Int.reduceTMod, Int.reduceTDiv, Int.zero_add, Int.add_zero]; rfl) | rfl)) ?_; conv => whnf)
        | (refine rem_t (by omega) ?_; conv => whnf))
      | (refine app_id ?_; refine app_i (by (first | (simp only [Nat.zero_add, Nat.add_zero, Nat.mul_one, Nat.reduceAdd, Nat.reduceMul, Int.reduceToNat, Int.toNat_natCast, Int.toNat_zero, Int.toNat_one, Nat.zero_mul]; done) | (simp only [Nat.zero_add, Nat.add_zero, Nat.mul_one, Nat.reduceAdd, Nat.reduceMul, Int.reduceToNat, Int.toNat_natCast, Int.toNat_zero, Int.toNat_one, Nat.zero_mul]; rfl) | rfl)) (by (first | (simp only [List.nil_append, List.cons_append, List.append_nil]; done) | (simp only [List.nil_append, List.cons_append, List.append_nil]; rfl) | rfl)) (by omega) (by omega) ?_; intro _ _ _; conv => whnf)
      | (refine mk_id ?_; first | (refine mk_lit (by rfl) (by rfl) (by decide) (by rfl) ?_; conv => whnf) | (refine mk_sym _ (by first | rfl | omega) (by first | rfl | omega) (by omega) (by omega) ?_; conv => whnf))
      | (refine sl_id ?_; fail)
      | (refine eff_id ?_; (refine eff_stV (h := 1) (off := j) (by rfl) (by exact congrArg (fun o => Value.pointer (some ⟨b1, o, none⟩)) (show 0 + (j : Int).toNat * 1 = j by omega)) (by rfl) (by rfl) (by rfl) (by exact trivial) (by rw [List.length_map, tabL_len]; omega) (by rfl) (by rfl) ?_; conv => whnf))
      | (refine val_id ?_; fail)
      | (refine x_rnd ?_)
      | (refine x_rnd' ?_)
      | (refine xdrw_id ?_; fail))
    (refine fin_ret ?_)
    rfl
end Go.Proofs.Ytpblllkkcpahgaa
