/- Plants: rows of structs; the document's example. -/
import Derived.Test.YtihboegopigkmaaDoorKd
namespace Go.Proofs.YtihboegopigkmaaDoor
set_option linter.unusedSimpArgs false
set_option linter.unusedVariables false
set_option linter.unnecessarySimpa false
set_option maxRecDepth 100000
set_option maxHeartbeats 4000000
open Go.RowKit

theorem own_cellS {base : Nat} {e : TypeId} {cap n b i sz : Nat} {A : Option Addr} {xs : List Value} {v : Value} {w : World} (h : w.ownsRow base e sz (.slice A n cap) n xs) (hA : A = some ⟨b, 0, none⟩) (hj : i < n * sz) (hv : xs[i]? = some v) : w.cell? ⟨b, i, none⟩ = some v := by
  obtain ⟨hl, h2⟩ := h
  rcases h2 with ⟨_, h0⟩ | ⟨g, cap', cur, hv', _, hh, hnc, _, hs, ht⟩
  · subst h0; omega
  · injection hv' with hA' _ _
    rw [hA] at hA'
    injection hA' with e1
    injection e1 with e2
    subst e2
    rw [cell_of_row _ _ _ _ _ _ hh]
    have h3 : (cur.toList.take (n * sz))[i]? = xs[i]? := by rw [ht]
    rw [List.getElem?_take, if_pos hj] at h3
    rw [← Array.getElem?_toList, h3, hv]
theorem drop_get {xs ys : List Value} {o sz : Nat} (h : (xs.drop o).take sz = ys) (i : Nat) (u : Value) (hu : ys[i]? = some u) : xs[o + i]? = some u := by
  rw [← h, List.getElem?_take] at hu
  split at hu
  · rwa [List.getElem?_drop] at hu
  · cases hu
section
variable {P : Program} {w0 : World} {S : List Nat} {km mem : Mem}
theorem run_row {t e : TypeId} {sz n c b off : Nat} {A : Option Addr} {xs : List Value} [TL P t true sz] (cs : List SV) {w : World} (hw : (own e sz (.slice A n c) n xs).holds w) (hA : A = some ⟨b, 0, none⟩) (hlen : cs.length = sz) (hj : off + sz ≤ n * sz)
    (hv : ∀ i u, (dens cs)[i]? = some u → xs[off + i]? = some u) : (loadVar t ⟨b, off, none⟩).run P w = .ok (SV.agg cs).den w := by
  unfold loadVar
  simp only [Sem.run_bind, TL.isAgg (P := P) (t := t), Result.andThen_ok]
  have hl : (dens cs).length = sz := by rw [dens_length, hlen]
  have := run_loadCells_list (P := P) w ⟨b, off, none⟩ (dens cs) (fun i u hu => by
    rw [Addr.add_lit]
    have : i < sz := by rw [← hl]; exact (List.getElem?_eq_some_iff.1 hu).1
    exact own_cellS hw hA (by omega) (hv i u hu))
  rw [hl] at this
  simp [TL.sizeOf (P := P) (t := t), this, SV.den]
/-- A struct of a row of one's own, loaded. -/
theorem load_rowS {t e : TypeId} {sz n c b off : Nat} {A : Option Addr} {xs : List Value} {X : SV → Prop} [TL P t true sz] (cs : List SV) (o : Nat) (ho : off = o) (hA : A = some ⟨b, 0, none⟩) (hat : At (denM mem) (own e sz (.slice A n c) n xs)) (hlen : cs.length = sz) (hj : o + sz ≤ n * sz)
    (hv : (xs.drop o).take sz = dens cs) (nx : X (.agg cs)) : LLoad P w0 S km t ⟨b, off, none⟩ false mem X := by
  subst ho
  refine ⟨.agg cs, fun w _ h => ?_, nx⟩
  rcases h with h | h
  · cases h
  · exact run_row cs (h.holds _ hat.mem) hA hlen hj (drop_get hv)
theorem load_rowSK {t e : TypeId} {sz n c b off : Nat} {A : Option Addr} {xs : List Value} {sf : Bool} {X : SV → Prop} [TL P t true sz] (cs : List SV) (o : Nat) (ho : off = o) (hA : A = some ⟨b, 0, none⟩) (hat : At (denM km) (own e sz (.slice A n c) n xs)) (hlen : cs.length = sz) (hj : o + sz ≤ n * sz)
    (hv : (xs.drop o).take sz = dens cs) (nx : X (.agg cs)) : LLoad P w0 S km t ⟨b, off, none⟩ sf mem X := by
  subst ho
  exact ⟨.agg cs, fun w h _ => run_row cs (h.holds _ hat.mem) hA hlen hj (drop_get hv), nx⟩
end
def rulesC (rs : Nat → Rl) : Nat → List Value
  | 0 => []
  | j + 1 => rulesC rs j ++ [.int .u8 (rs j).w, .int .u8 (rs j).t]
theorem rulesC_len (rs : Nat → Rl) : ∀ n, (rulesC rs n).length = n * 2
  | 0 => rfl
  | n + 1 => by rw [rulesC, List.length_append, rulesC_len rs n]; simp; omega
theorem rulesC_get (rs : Nat → Rl) : ∀ {n j i : Nat}, j < n → i < 2 → (rulesC rs n)[j * 2 + i]? = (dens (rs j).svs)[i]?
  | n + 1, j, i, hj, hi => by
    rw [rulesC]
    by_cases h : j = n
    · subst h
      rw [List.getElem?_append_right (by rw [rulesC_len]; omega), rulesC_len, show j * 2 + i - j * 2 = i by omega]
      rfl
    · rw [List.getElem?_append_left (by rw [rulesC_len]; omega)]
      exact rulesC_get rs (by omega) hi
theorem rrow_own {w0 w : World} {S : List Nat} {mem : Mem} {e : TypeId} {A : Option Addr} {n c : Nat} {rs : Nat → Rl} (hl : Loc w0 S (denM mem) w) (hat : At (denM mem) (own e 2 (.slice A n c) n (rulesC rs n))) : RRow w A n rs := fun h0 => by
  obtain ⟨b, hA⟩ := row_some hl hat h0
  refine ⟨b, 0, hA, fun j hj i u hu => ?_⟩
  have hi : i < 2 := (List.getElem?_eq_some_iff.1 hu).1
  exact own_cellS (hl.holds _ hat.mem) hA (by omega) (by rw [Nat.zero_add, rulesC_get rs hj hi]; exact hu)
/-- A block that reads as rules, by its tag. -/
def RRt (_ : Nat) (w : World) (A : Option Addr) (n : Nat) (rs : Nat → Rl) : Prop := RRow w A n rs
theorem rrow_blk4 {w0 w : World} {S : List Nat} {mem : Mem} {e : TypeId} {b h : Nat} {cs : List SV} (hl : Loc w0 S (denM mem) w) (hf : findB mem h = some (.blk h e b cs)) (hcs : dens cs = [.int .u8 0, .int .u8 0, .int .u8 0, .int .u8 0, .int .u8 0, .int .u8 0, .int .u8 0, .int .u8 0]) : RRt h w (some ⟨b, 0, none⟩) 4 (fun _ => ⟨0, 0⟩) := fun _ => by
  refine ⟨b, 0, rfl, fun j hj i u hu => ?_⟩
  have hw : w.heap[b]? = some (.cells (dens cs).toArray e (0, 0)) := hl.holds _ (findB_at hf).mem
  rw [hcs] at hw
  have hi : i < 2 := (List.getElem?_eq_some_iff.1 hu).1
  rw [cell_of_row _ _ _ _ _ _ hw, ← hu]
  have hj4 : j = 0 ∨ j = 1 ∨ j = 2 ∨ j = 3 := by omega
  have hi2 : i = 0 ∨ i = 1 := by omega
  rcases hj4 with rfl | rfl | rfl | rfl <;> rcases hi2 with rfl | rfl <;> rfl
theorem un0_ok : un0.ok := ⟨⟨by decide, by decide⟩, ⟨by decide, by decide⟩, ⟨by decide, by decide⟩⟩
theorem newN_ok {rs : Nat → Rl} (hr : ∀ j, (rs j).ok) {n : Nat} (hn : n ≤ 16) (j : Nat) : (newN rs n j).ok := by
  refine ⟨fun _ => un0_ok, fun i => ?_, by unfold newN; dsimp only; omega, by unfold newN; dsimp only; omega⟩
  unfold newN; dsimp only
  split
  · exact hr i
  · exact ⟨⟨by decide, by decide⟩, ⟨by decide, by decide⟩⟩
def plA : Pl := newN (fun _ => ⟨0, 0⟩) 4 4
theorem plA_ok : plA.ok := newN_ok (fun _ => ⟨⟨by decide, by decide⟩, ⟨by decide, by decide⟩⟩) (by decide) 4
theorem newA_S (h b : Nat) (w : World) (hr : RRt h w (some ⟨b, 0, none⟩) 4 (fun _ => ⟨0, 0⟩)) : RetS Tryd.prog 47 [.slB h b 0 4 4] w (.tup [plA.sv, .int .i64 0]) := ⟨(new_S h (some ⟨b, 0, none⟩) 4 4 _ w hr (by decide)).go⟩
theorem order_B (tag : Nat) (on : Bool) (p : Pl) (h b n cp : Nat) (zs : List Int) (w : World) (hp : p.ok) (hr : IRt h .i64 w (some ⟨b, 0, none⟩) n zs) (hn : n ≤ 1000000) :
    RetX Tryd.prog 48 [p.sv, .lit on, .slB h b 0 n cp] w [] (OrdR tag on (ordN on p zs).1 (ordN on p zs).2) := ⟨(order_X tag on p h (some ⟨b, 0, none⟩) n cp zs w hp hr hn).go⟩
theorem of2_S (h b : Nat) (w : World) (hr : IRt h .i64 w (some ⟨b, 0, none⟩) 1 [2]) : RetS Tryd.prog 49 [.slB h b 0 1 1] w (setV 4) := of_B h b [2] 1 1 w hr (by decide)
theorem awake14_S (w : World) : RetS Tryd.prog 46 [] w (.lit true) := by
  obtain ⟨q, hq⟩ : ∃ q, (ordN true plA [2, 2, 99]).1 = q := ⟨_, rfl⟩
  have hqk : q.ok := by rw [← hq]; exact (ordN_ok plA_ok _).1
  have ord : ∀ w' h b, IRt h .i64 w' (some ⟨b, 0, none⟩) 3 [2, 2, 99] → RetX Tryd.prog 48 [plA.sv, .lit true, .slB h b 0 3 3] w' [] (OrdR 100 true q [2]) := fun w' h b hr => by
    have := order_B 100 true plA h b 3 3 [2, 2, 99] w' plA_ok hr (by decide)
    rw [hq, show (ordN true plA [2, 2, 99]).2 = [2] from by decide] at this
    exact this
  have pow1 : ∀ w', RetS Tryd.prog 50 [q.sv] w' (setV 4) := fun w' => by
    have := ppow_S q w' hqk
    rw [← hq] at this ⊢
    rw [show evN (isPow (ordN true plA [2, 2, 99]).1) (ordN true plA [2, 2, 99]).1.n.toNat = 4 from by decide] at this
    exact this
  have pow0 : ∀ w', RetS Tryd.prog 50 [plA.sv] w' (.int .u16 0) := fun w' => by
    have := ppow_S plA w' plA_ok
    rw [show evN (isPow plA) plA.n.toNat = 0 from by decide] at this
    exact ⟨this.go⟩
  clear hq
  refine ret_x tab_ok Tryd.func46 rfl Tryd.ntmps46 (by rfl) ?_; simp only [argX, Nat.reduceAdd, Nat.zero_add]; conv => whnf
  repeat' (first | (refine run_c tab_ok ?_; conv => whnf) | (refine side_id ?_; refine side_i (by first | rfl | exact ⟨rfl, rfl, rfl, rfl⟩ | trivial | (simp [allOne, partsOne, Value.cells, Value.oneCell']; done) | fail) ?_; conv => whnf) | (refine ar_id ?_; first | (refine ar_in (by (first | (simp only [Int.reduceAdd, Int.reduceSub, Int.reduceMul, Int.reduceNeg, Int.reduceMod, Int.reduceDiv, Int.reduceTMod, Int.reduceTDiv, Int.zero_add, Int.add_zero] <;> rfl) | rfl)) (by (dsimp only [inR]; first | decide | omega)) ?_; conv => whnf)) | (refine new_i ?_; intro _; conv => whnf) | (refine br_id ?_; first | (refine br_t (by first | decide | omega | (with_reducible rfl) | fail | (simp only [cellEq, toB]; omega) | (simp only [cellEq, toB]; simp; done) | fail) ?_; conv => whnf) | (refine br_f (by first | decide | omega | (with_reducible exact Bool.false_ne_true) | (with_reducible refine not_not_intro ?_; fail) | (simp only [cellEq, toB]; omega) | (simp only [cellEq, toB]; simp; done) | fail) ?_; conv => whnf) | ((refine br_any (fun h => ?_) (fun h => ?_) <;> (try simp only [cellEq, toB, Bool.not_eq_true, Bool.not_eq_false] at h) <;> (try (exfalso; first | omega | contradiction | (simp at h; done) | fail); done) <;> conv => whnf))) | (refine ix_id ?_; first | (refine ix_lit (by first | decide | omega) (by (first | (simp only [Nat.zero_add, Nat.add_zero, Nat.mul_one, Nat.reduceAdd, Nat.reduceMul, Int.reduceToNat, Int.toNat_natCast, Int.toNat_zero, Int.toNat_one, Nat.zero_mul] <;> rfl) | rfl)) (by rfl) ?_; conv => whnf) | (refine ix_sym (by omega) ?_; conv => whnf)) | (refine lcall_id ?_; first | (refine lcall_ret (fun w' hl => newA_S _ _ w' (rrow_blk4 hl (by rfl) (by rfl))) ?_; conv => whnf) | (refine lcall_mk (fun w' hl => ord w' _ _ (irow_tag hl (by rfl) (by rfl))) ?_; (rintro _ _ mm ⟨A1, c1, rfl, rfl, hf1⟩ hmm; simp only [List.cons_append, List.nil_append] at hmm; subst hmm; conv => whnf)) | (refine lcall_ret (fun w' hl => pow1 w') ?_; conv => whnf) | (refine lcall_ret (fun w' hl => pow0 w') ?_; conv => whnf) | (refine lcall_ret (fun w' hl => of2_S _ _ w' (irow_tag hl (by rfl) (by rfl))) ?_; conv => whnf)) | (refine lload_id ?_; first | (first | (refine load_rowS [.int .i64 2, .lit true] 0 (by rfl) hA (by (first | ((repeat (first | (with_reducible exact am_blk) | (with_reducible exact am_row) | (with_reducible exact am_blkV) | (with_reducible exact am_oth) | (with_reducible apply am_tail))); done) | ((repeat (first | exact am_row | exact am_blk | exact am_blkV | apply am_tail)); done))) (by rfl) (by decide) (by rfl) ?_; conv => whnf) | (refine load_rowSK [.int .i64 2, .lit true] 0 (by rfl) hA (by (first | ((repeat (first | (with_reducible exact am_blk) | (with_reducible exact am_row) | (with_reducible exact am_blkV) | (with_reducible exact am_oth) | (with_reducible apply am_tail))); done) | ((repeat (first | exact am_row | exact am_blk | exact am_blkV | apply am_tail)); done))) (by rfl) (by decide) (by rfl) ?_; conv => whnf)) | (refine load_old _ (by with_reducible assumption) (by simp; done) ?_; conv => whnf)) | (refine lixs_id ?_; (refine ixs_row hf1 (by decide) ?_; intro b3 hA; conv => whnf)) | (refine ex_id ?_; first | (refine ex_z (by (first | (simp only [Int.reduceAdd, Int.reduceSub, Int.reduceMul, Int.reduceNeg, Int.reduceMod, Int.reduceDiv, Int.reduceTMod, Int.reduceTDiv, Int.zero_add, Int.add_zero] <;> rfl) | rfl)) ?_; conv => whnf)) | (refine sh_id ?_; first | (refine sh_z (by omega) (by (first | (simp only [Int.reduceAdd, Int.reduceSub, Int.reduceMul, Int.reduceNeg, Int.reduceMod, Int.reduceDiv, Int.reduceTMod, Int.reduceTDiv, Int.zero_add, Int.add_zero] <;> rfl) | rfl)) ?_; conv => whnf)) | (refine quo_id ?_; first | (refine quo_in (by omega) (by (first | (simp only [Int.reduceAdd, Int.reduceSub, Int.reduceMul, Int.reduceNeg, Int.reduceMod, Int.reduceDiv, Int.reduceTMod, Int.reduceTDiv, Int.zero_add, Int.add_zero] <;> rfl) | rfl)) (by (dsimp only [inR]; first | decide | omega)) ?_; conv => whnf) | (refine quo_t (by omega) (by (dsimp only [inR]; first | decide | omega)) ?_; conv => whnf)) | (refine rem_id ?_; first | (refine rem_in (by omega) (by (first | (simp only [Int.reduceAdd, Int.reduceSub, Int.reduceMul, Int.reduceNeg, Int.reduceMod, Int.reduceDiv, Int.reduceTMod, Int.reduceTDiv, Int.zero_add, Int.add_zero] <;> rfl) | rfl)) ?_; conv => whnf) | (refine rem_t (by omega) ?_; conv => whnf)) | (refine app_id ?_; refine app_i (by (first | (simp only [Nat.zero_add, Nat.add_zero, Nat.mul_one, Nat.reduceAdd, Nat.reduceMul, Int.reduceToNat, Int.toNat_natCast, Int.toNat_zero, Int.toNat_one, Nat.zero_mul] <;> rfl) | rfl)) (by (first | (simp only [List.nil_append, List.cons_append, List.append_nil] <;> rfl) | rfl)) (by first | omega | (change _ * 1 ≤ _; omega) | (change _ * 8 ≤ _; omega) | (change _ * 2 ≤ _; omega) | (change _ * 4 ≤ _; omega) | (change _ * 16 ≤ _; omega) | (change _ * 24 ≤ _; omega) | (change _ * 32 ≤ _; omega) | (change _ * 40 ≤ _; omega)) (by first | omega | decide) ?_; intro _ _ _; conv => whnf) | (refine mk_id ?_; first | (refine mk_lit (by rfl) (by rfl) (by decide) (by rfl) ?_; conv => whnf) | (refine mk_sym _ (by first | rfl | omega) (by first | rfl | omega) (by omega) (by omega) ?_; conv => whnf)) | (refine x_rnd ?_) | (refine x_rnd' ?_))
  (refine fin_ret ?_)
  first | rfl | exact congrArg Value.bool (@decide_eq_true _ (_) (by simp [cellEq]))
end Go.Proofs.YtihboegopigkmaaDoor
