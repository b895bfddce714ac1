/- Rings: every script: clearing; the program's acts: contracts. -/
import Derived.Test.YtjbjnkjilgndmaaJo
import Derived.Test.YtjbjnkjilgndmaaJe
import Derived.Lib.SliceRun
namespace Go.Proofs.Ytjbjnkjilgndmaa
set_option linter.unusedSimpArgs false
set_option linter.unusedVariables false
set_option linter.unnecessarySimpa false
set_option maxRecDepth 100000
set_option maxHeartbeats 4000000
open Go.RowKit

theorem run_clear_row {P : Program} (w : World) (t e ty : TypeId) (u z : Value) (ht : P.underlying t = some (.slice e)) (hv : (zeroValue e).run P w = .ok u w) (hz : u.cells = #[z]) (h1 : z.oneCell' = true) (b n c : Nat) (cur : Array Value) (hn : 0 < n)
    (hb : w.heap[b]? = some (.cells cur e (0, 0))) (hs : cur.size = n) :
    (Builtin.clear_ #[t] ty #[.slice (some ⟨b, 0, none⟩) n c]).run P w = .ok (.tuple #[]) (w.setRow b (List.replicate n z).toArray) := by
  have hzc : (Builtin.zeroCells u.cells n).toList = List.replicate n z := by
    rw [hz]
    simp [Builtin.zeroCells]
    apply List.ext_getElem
    · simp
    · intro i h1 h2
      simp [Nat.mod_one]
  have hst := run_storeCells_at P b 0 e (List.replicate n z) 0 cur w hb (by simp; omega) (by intro v hv'; rw [List.eq_of_mem_replicate hv']; exact h1)
  have hd : cur.toList.drop n = [] := List.drop_of_length_le (by simp; omega)
  simp only [Nat.add_zero, Nat.zero_add, List.take_zero, List.nil_append, List.length_replicate, hd, List.append_nil] at hst
  obtain ⟨m, rfl⟩ : ∃ m, n = m + 1 := ⟨n - 1, by omega⟩
  simp [Builtin.clear_, run_underlying ht, hv, hzc, hst]
section
variable {P : Program} {N : FN} {w0 : World} {S : List Nat} {km mem : Mem} {fs : Fr}
theorem eff_clear {t e : TypeId} {n h b c : Nat} {z : Value} {cs : List Value} {x : Operand} {mem' : Mem} {ty : TypeId} {pos : String} {aft : Array Edge} {gd : Option (Nat × Bool)} {X : SV → Mem → Prop}
    [h1 : TS P t e] [h2 : TRw P e 1 [z]] (hz1 : z.oneCell' = true)
    (hx : opx fs x = some (.slB h b 0 n c)) (hf : findB mem h = some (.blkV h e b cs)) (hlen : cs.length = n) (hn : 0 < n)
    (hu : updB mem h (.blkV h e b (List.replicate n z)) = some mem') (hnt : noTag km h = true) (nx : X (.tup []) mem') :
    LEff P N w0 S km ⟨none, .call { callee := .builtin .clear, args := #[x], argTypes := #[t] }, ty, pos, aft, gd⟩ fs mem X := by
  refine ⟨Unit, fun _ => .tup [], fun _ => mem', fun w1 S1 a w hk hl hl1 => ?_, fun _ => ⟨fun hs => updB_sub hs hnt hu, nx⟩⟩
  obtain ⟨k, h3, h4⟩ := (updB_upd hf hu).set
  have hw : w.heap[b]? = some (.cells cs.toArray e (0, 0)) := hl.holds _ (findB_at hf).mem
  have ex : a.eval x = .slice (some ⟨b, 0, none⟩) n c := by rw [hk.eval (opx_some hx)]; rfl
  obtain ⟨_, u, hu', hc⟩ := TRw.run (P := P) (e := e) w
  have hrun := run_clear_row (P := P) w t e ty u z h1.u hu' hc hz1 b n c cs.toArray hn hw (by simp [hlen])
  refine ⟨(), w.setRow b (List.replicate n z).toArray, .inl ?_, ?_⟩
  · simp [execOp, resolve, invoke, builtin, ex, hrun, SV.den, dens]
  · rw [h4]
    exact hl1.set (w' := w.setRow b (List.replicate n z).toArray) h3 rfl rfl rfl (by simp [World.setRow]) (fun k hk hki => setRow_other _ _ _ _ (fun e => hki (by rw [e]; exact .head _))) (blk e b (List.replicate n z)) (setRow_heap w b cs.toArray _ e (0, 0) hw) (fun k hk => .inl hk)
end
theorem clear_X (hR hL b bL : Nat) (r : Rg) (w : World) (H : RgW w b bL r) (ho : r.ok) :
    RetX Try.prog 47 [.ptr hR b 0] w [b, bL] (RgR hR hL b bL (rgNew r.m) (.tup [])) := by
  refine ⟨RetX.go (args := [.ptr 1 b 0]) ?_⟩
  have h1 := ho.room
  refine retX_x tab_ok (mem0 := rgM 1 2 b bL r) Try.func47 rfl Try.ntmps47 (by rfl) H.loc ?_; simp only [argX, Nat.reduceAdd, Nat.zero_add]; conv => whnf
  repeat' (first | (refine run_c tab_ok ?_; conv => whnf) | (refine side_id ?_; refine side_i (by first | rfl | exact ⟨rfl, rfl, rfl, rfl⟩ | trivial | (simp [allOne, partsOne, Value.cells, Value.oneCell']; done) | fail) ?_; conv => whnf) | (refine ar_id ?_; first | (refine ar_in (by (first | (simp only [Int.reduceAdd, Int.reduceSub, Int.reduceMul, Int.reduceNeg, Int.reduceMod, Int.reduceDiv, Int.reduceTMod, Int.reduceTDiv, Int.zero_add, Int.add_zero] <;> rfl) | rfl)) (by (dsimp only [inR]; first | decide | omega)) ?_; conv => whnf)) | (refine new_i ?_; intro _; conv => whnf) | (refine br_id ?_; first | (refine br_t (by first | decide | omega | (with_reducible rfl) | fail | (simp only [cellEq, toB]; omega) | (simp only [cellEq, toB]; simp; done) | fail) ?_; conv => whnf) | (refine br_f (by first | decide | omega | (with_reducible exact Bool.false_ne_true) | (with_reducible refine not_not_intro ?_; fail) | (simp only [cellEq, toB]; omega) | (simp only [cellEq, toB]; simp; done) | fail) ?_; conv => whnf) | ((refine br_any (fun h => ?_) (fun h => ?_) <;> (try simp only [cellEq, toB, Bool.not_eq_true, Bool.not_eq_false] at h) <;> (try (exfalso; first | omega | contradiction | (simp at h; done) | fail); done) <;> conv => whnf))) | (refine ix_id ?_; first | (refine ix_lit (by first | decide | omega) (by (first | (simp only [Nat.zero_add, Nat.add_zero, Nat.mul_one, Nat.reduceAdd, Nat.reduceMul, Int.reduceToNat, Int.toNat_natCast, Int.toNat_zero, Int.toNat_one, Nat.zero_mul] <;> rfl) | rfl)) (by rfl) ?_; conv => whnf) | (refine ix_sym (by omega) ?_; conv => whnf)) | (refine lload_id ?_; first | (refine load_old _ (by with_reducible assumption) (by simp; done) ?_; conv => whnf)) | (refine ex_id ?_; first | (refine ex_z (by (first | (simp only [Int.reduceAdd, Int.reduceSub, Int.reduceMul, Int.reduceNeg, Int.reduceMod, Int.reduceDiv, Int.reduceTMod, Int.reduceTDiv, Int.zero_add, Int.add_zero] <;> rfl) | rfl)) ?_; conv => whnf)) | (refine sh_id ?_; first | (refine sh_z (by omega) (by (first | (simp only [Int.reduceAdd, Int.reduceSub, Int.reduceMul, Int.reduceNeg, Int.reduceMod, Int.reduceDiv, Int.reduceTMod, Int.reduceTDiv, Int.zero_add, Int.add_zero] <;> rfl) | rfl)) ?_; conv => whnf)) | (refine quo_id ?_; first | (refine quo_in (by omega) (by (first | (simp only [Int.reduceAdd, Int.reduceSub, Int.reduceMul, Int.reduceNeg, Int.reduceMod, Int.reduceDiv, Int.reduceTMod, Int.reduceTDiv, Int.zero_add, Int.add_zero] <;> rfl) | rfl)) (by (dsimp only [inR]; first | decide | omega)) ?_; conv => whnf) | (refine quo_t (by omega) (by (dsimp only [inR]; first | decide | omega)) ?_; conv => whnf)) | (refine rem_id ?_; first | (refine rem_in (by omega) (by (first | (simp only [Int.reduceAdd, Int.reduceSub, Int.reduceMul, Int.reduceNeg, Int.reduceMod, Int.reduceDiv, Int.reduceTMod, Int.reduceTDiv, Int.zero_add, Int.add_zero] <;> rfl) | rfl)) ?_; conv => whnf) | (refine rem_t (by omega) ?_; conv => whnf)) | (refine app_id ?_; refine app_i (by (first | (simp only [Nat.zero_add, Nat.add_zero, Nat.mul_one, Nat.reduceAdd, Nat.reduceMul, Int.reduceToNat, Int.toNat_natCast, Int.toNat_zero, Int.toNat_one, Nat.zero_mul] <;> rfl) | rfl)) (by (first | (simp only [List.nil_append, List.cons_append, List.append_nil] <;> rfl) | rfl)) (by first | omega | (change _ * 1 ≤ _; omega) | (change _ * 8 ≤ _; omega) | (change _ * 2 ≤ _; omega) | (change _ * 4 ≤ _; omega) | (change _ * 16 ≤ _; omega) | (change _ * 24 ≤ _; omega) | (change _ * 32 ≤ _; omega) | (change _ * 40 ≤ _; omega)) (by first | omega | decide) ?_; intro _ _ _; conv => whnf) | (refine mk_id ?_; first | (refine mk_lit (by rfl) (by rfl) (by decide) (by rfl) ?_; conv => whnf) | (refine mk_sym _ (by first | rfl | omega) (by first | rfl | omega) (by omega) (by omega) ?_; conv => whnf)) | (refine eff_id ?_; first | (refine eff_pnil (by rfl) (by rfl) (by rfl) (by rfl) (by rfl) ?_; conv => whnf) | (refine eff_pnilN (by rfl) (by rfl) (by rfl) (by rfl) (by rfl) ?_; conv => whnf) | (refine eff_clear (z := .int .i64 0) (by rfl) (by rfl) (by rfl) (by show (r.L.map _).length = _; rw [List.length_map]; exact ho.len) (by omega) (by rfl) (by rfl) ?_; conv => whnf)) | (refine x_rnd ?_) | (refine x_rnd' ?_))
  have e : List.replicate r.m (Value.int .i64 0) = (rgNew r.m).vals := by simp [rgNew, Rg.vals]
  exact fin_retW (.tup []) (rgM 1 2 b bL (rgNew r.m)) (rgM hR hL b bL (rgNew r.m)) rfl (by unfold rgM; rw [← e]; (repeat (first | exact trivial | ((conv => whnf); refine And.intro (by rfl) ?_)))) rfl (fun w' hl => ⟨rfl, rfl⟩)
end Go.Proofs.Ytjbjnkjilgndmaa
