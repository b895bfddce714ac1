/- Calls that write items that are handed to them. No program. -/
import Derived.Test.YtihboegopigkmaaDoorGs
import Derived.Test.YtihboegopigkmaaDoorGx
import Derived.Laws.Pointers
namespace Go.Proofs.YtihboegopigkmaaDoor
set_option linter.unusedSimpArgs false
set_option linter.unusedVariables false
set_option linter.unnecessarySimpa false
set_option linter.unusedSectionVars false
open Go.RowKit

theorem split_ts : ∀ {ts : List Nat} {m a b : Mem}, dropMO ts m = some a → keepMO ts m = some b → Split (denM m) (denM b) (denM a)
  | ts, [], a, b, h1, h2 => by simp [dropMO] at h1; simp [keepMO] at h2; subst h1 h2; exact .nil
  | ts, i :: m, a, b, h1, h2 => by
    simp only [dropMO] at h1
    simp only [keepMO] at h2
    cases hi : anyN ts i.tag with
    | true =>
      rw [hi] at h1 h2
      simp only at h1 h2
      cases hr : keepMO ts m with
      | none => rw [hr] at h2; cases h2
      | some b' =>
        rw [hr] at h2
        injection h2 with h2
        subst h2
        exact .left (split_ts h1 hr)
    | false =>
      rw [hi] at h1 h2
      simp only at h1 h2
      cases hr : dropMO ts m with
      | none => rw [hr] at h1; cases h1
      | some a' =>
        rw [hr] at h1
        injection h1 with h1
        subst h1
        exact .right (split_ts hr h2)
/-- Has a memory none of some tags? -/
def noTags : Mem → List Nat → Bool
  | [], _ => true
  | i :: r, ts => match anyN ts i.tag with
    | true => false
    | false => noTags r ts
theorem drop_sub {ts : List Nat} {km m a : Mem} (hs : km.Sublist m) (hn : noTags km ts = true) (hd : dropMO ts m = some a) : km.Sublist a := by
  induction hs generalizing a with
  | slnil => exact List.nil_sublist _
  | @cons l1 l2 i _ ih =>
    simp only [dropMO] at hd
    cases hi : anyN ts i.tag with
    | true => rw [hi] at hd; exact ih hn hd
    | false =>
      rw [hi] at hd
      simp only at hd
      cases hr : dropMO ts l2 with
      | none => rw [hr] at hd; cases hd
      | some r' => rw [hr] at hd; injection hd with hd; subst hd; exact .cons _ (ih hn hr)
  | @cons_cons l1 l2 i _ ih =>
    simp only [dropMO] at hd
    simp only [noTags] at hn
    cases hi : anyN ts i.tag with
    | true => rw [hi] at hn; cases hn
    | false =>
      rw [hi] at hd hn
      simp only at hd hn
      cases hr : dropMO ts l2 with
      | none => rw [hr] at hd; cases hd
      | some r' => rw [hr] at hd; injection hd with hd; subst hd; exact .cons_cons _ (ih hn hr)
def feetM : Mem → List Nat
  | [] => []
  | i :: r => i.itm.foot ++ feetM r
theorem feetM_some {k : Nat} : ∀ {m : Mem}, k ∈ feetM m → ∃ i ∈ denM m, k ∈ i.foot
  | [], h => by simp [feetM] at h
  | i :: r, h => by
    simp only [feetM, List.mem_append] at h
    rcases h with h | h
    · exact ⟨i.itm, List.mem_cons_self .., h⟩
    · obtain ⟨j, hj, hk⟩ := feetM_some h
      exact ⟨j, List.mem_cons_of_mem _ hj, hk⟩
section
variable {P : Program} {w0 : World} {S : List Nat} {km mem : Mem}
/-- A call that writes items (tags) that are handed to it. -/
theorem lcall_w {F : FuncId} {args : List SV} {X : SV → Mem → Prop} [hF : CF P F] {R : SV → Mem → Prop} {M : List Nat} {mem' mk : Mem} (ts : List Nat) (hd : dropMO ts mem = some mem') (hk : keepMO ts mem = some mk)
    (hr : ∀ w, Loc w0 S (denM mem) w → RetX P F args w M R) (hM : ∀ k ∈ M, k ∈ feetM mk) (hkm : noTags km ts = true) (nx : ∀ sv mi mm, R sv mi → mm = mi ++ mem' → X sv mm) : LCall P w0 S km F args mem X :=
  ⟨hF, M, mk, mem', R, fun w hl => (hr w hl).go, split_ts hd hk, fun k h => feetM_some (hM k h), fun hs => drop_sub hs hkm hd, fun sv mi h => nx sv mi _ h rfl⟩
/-- The same; what is handed over lies apart from what stays. -/
theorem lcall_wa {F : FuncId} {args : List SV} {X : SV → Mem → Prop} [hF : CF P F] {R : SV → Mem → Prop} {M : List Nat} {mem' mk : Mem} (ts : List Nat) (hd : dropMO ts mem = some mem') (hk : keepMO ts mem = some mk) (hM : ∀ k ∈ M, k ∈ feetM mk)
    (hr : ∀ w, Loc w0 S (denM mem) w → (∀ k ∈ M, ∀ j ∈ denM mem', k ∉ j.foot) → RetX P F args w M R) (hkm : noTags km ts = true) (nx : ∀ sv mi mm, R sv mi → mm = mi ++ mem' → X sv mm) : LCall P w0 S km F args mem X :=
  lcall_w ts hd hk (fun w hl => hr w hl fun k hkM j hj hkj => by
    obtain ⟨i, hi, hki⟩ := feetM_some (hM k hkM)
    exact (split_ts hd hk).apart hl.disj i hi j hj k hki hkj) hM hkm nx
end
theorem loc_two {w : World} {t1 t2 : TypeId} {b1 b2 : Nat} {c1 c2 : List Value} (h1 : (blk t1 b1 c1).holds w) (h2 : (blk t2 b2 c2).holds w) (hne : b1 ≠ b2) : Loc w [b1, b2] [blk t1 b1 c1, blk t2 b2 c2] w := by
  refine ⟨rfl, rfl, rfl, Nat.le_refl _, fun _ _ _ => rfl, fun i hi => ?_, fun i hi k hk => ?_, ?_⟩
  · simp only [List.mem_cons, List.not_mem_nil, or_false] at hi
    rcases hi with rfl | rfl
    · exact h1
    · exact h2
  · simp only [List.mem_cons, List.not_mem_nil, or_false] at hi
    left
    rcases hi with rfl | rfl
    · simp only [blk, List.mem_singleton] at hk; simp [hk]
    · simp only [blk, List.mem_singleton] at hk; simp [hk]
  · refine List.pairwise_cons.2 ⟨fun j hj k hk hkj => ?_, List.pairwise_cons.2 ⟨fun j hj => by simp at hj, .nil⟩⟩
    simp only [List.mem_singleton] at hj
    subst hj
    simp only [blk, List.mem_singleton] at hk hkj
    omega
theorem loc_ne {w0 w : World} {S : List Nat} {is : List Itm} {t1 t2 : TypeId} {b1 b2 : Nat} {c1 c2 : List Value} (hl : Loc w0 S (blk t1 b1 c1 :: blk t2 b2 c2 :: is) w) : b1 ≠ b2 := by
  have := (List.pairwise_cons.1 hl.disj).1 _ (List.mem_cons_self ..)
  intro h
  exact this b1 (by simp [blk]) (by simp [blk, h])
section
variable {P : Program} {tab : Tr} {N : FN} {w0 : World} {S : List Nat} {k : Kt} {fs : Fr} {km mem : Mem}
/-- A load from a block of the elder part. -/
theorem load_blkO {t e : TypeId} {sz b off : Nat} {cs : List SV} {sf : Bool} {X : SV → Prop} [TL P t false sz] {v : SV} (hw : (blk e b (dens cs)).holds w0) (hS : b ∉ S) (hv : nthX cs off = some v) (nx : X v) : LLoad P w0 S km t ⟨b, off, none⟩ sf mem X := by
  refine ⟨v, fun w h1 _ => ?_, nx⟩
  have hlt : b < w0.heap.size := (blk e b (dens cs)).live w0 hw b (by simp [blk])
  have hw' : (blk e b (dens cs)).holds w := by
    show w.heap[b]? = _
    rw [h1.same b hlt hS]; exact hw
  exact load_hold hw' (by rw [nthX_den, hv]; rfl)
theorem load_blkOV {t e : TypeId} {sz b off : Nat} {cs : List Value} {sf : Bool} {X : SV → Prop} [TL P t false sz] (v : SV) (hw : (blk e b cs).holds w0) (hS : b ∉ S) (hv : cs[off]? = some v.den) (nx : X v) : LLoad P w0 S km t ⟨b, off, none⟩ sf mem X := by
  refine ⟨v, fun w h1 _ => ?_, nx⟩
  have hlt : b < w0.heap.size := (blk e b cs).live w0 hw b (by simp [blk])
  have hw' : (blk e b cs).holds w := by
    show w.heap[b]? = _
    rw [h1.same b hlt hS]; exact hw
  exact load_hold hw' hv
theorem load_blkOA {t e : TypeId} {agg : Bool} {sz b off : Nat} {cs : List Value} {sf : Bool} {X : SV → Prop} [TL P t agg sz] (v : SV) (hw : (blk e b cs).holds w0) (hS : b ∉ S) (hv : rdv agg sz cs off = some v.den) (nx : X v) : LLoad P w0 S km t ⟨b, off, none⟩ sf mem X := by
  refine ⟨v, fun w h1 _ => ?_, nx⟩
  have hlt : b < w0.heap.size := (blk e b cs).live w0 hw b (by simp [blk])
  have hw' : (blk e b cs).holds w := by
    show w.heap[b]? = _
    rw [h1.same b hlt hS]; exact hw
  exact run_loadVar_blk hw' hv
/-- A struct of a world's elder part, loaded. -/
theorem load_oldS {t : TypeId} {b off sz : Nat} {sf : Bool} {X : SV → Prop} [TL P t true sz] (cs : List SV) (hlen : cs.length = sz)
    (hc : ∀ i u, (dens cs)[i]? = some u → w0.cell? ⟨b, off + i, none⟩ = some u) (hS : b ∉ S) (nx : X (.agg cs)) : LLoad P w0 S km t ⟨b, off, none⟩ sf mem X := by
  refine ⟨.agg cs, fun w h1 _ => ?_, nx⟩
  unfold loadVar
  simp only [Sem.run_bind, TL.isAgg (P := P) (t := t), Result.andThen_ok]
  have hl : (dens cs).length = sz := by rw [dens_length, hlen]
  have := run_loadCells_list (P := P) w ⟨b, off, none⟩ (dens cs) (fun j u hu => by rw [Addr.add_lit]; exact h1.old (hc j u hu) hS)
  rw [hl] at this
  simp [TL.sizeOf (P := P) (t := t), this, SV.den]
/-- A store into a block whose cells are a list: what they are then. -/
theorem eff_stVV {t e : TypeId} {agg : Bool} {sz b off h : Nat} {cs : List Value} (cs' : List Value) {xv yv : SV} {mem' : Mem} {x y : Operand} {ty : TypeId} {pos : String} {aft : Array Edge} {gd : Option (Nat × Bool)} {X : SV → Mem → Prop} [TL P t agg sz]
    (hx : opx fs x = some xv) (hxd : xv.den = .pointer (some ⟨b, off, none⟩)) (hy : opx fs y = some yv) (hf : findB mem h = some (.blkV h e b cs)) (hlen : (cellsX yv).length = sz) (hone : allOne (cellsX yv)) (hle : off + sz ≤ cs.length)
    (hsp : splice cs off (dens (cellsX yv)) = cs') (hu : updB mem h (.blkV h e b cs') = some mem') (hn : noTag km h = true) (nx : X (.val undef) mem') :
    LEff P N w0 S km ⟨none, .store t x y, ty, pos, aft, gd⟩ fs mem X := by
  subst hsp
  exact eff_stV hx hxd hy hf hlen hone hle hu hn nx
def remG : List Nat → Mem → Mem
  | [], m => m
  | h :: hs, m => match rem1 m h with
    | some m' => remG hs m'
    | none => remG hs m
theorem remG_sub : ∀ {hs : List Nat} {m : Mem}, (remG hs m).Sublist m
  | [], m => List.Sublist.refl _
  | h :: hs, m => by
    simp only [remG]
    split
    · rename_i m' hm
      exact remG_sub.trans (rem1_sub hm)
    · exact remG_sub
/-- A drawn region; what is written in it is told by tags. -/
theorem x_drwG (ht : tab.ok P) {id : Nat} {os : List Oper} (hard hs π : List Nat) {km : Mem} (hm : P.follows .mixedOrders = true) (hB : regX os.toArray (sfOf hard) alOf π = true) (hlen : Nat.beq π.length os.length = true) (hks : remG hs mem = km)
    (h : xs P tab N w0 S km (os.map (·.dst)) (sfOf hard) (xe P tab N w0 S k .normal) (pickL os π) fs mem) : XDrw P N w0 S id os.toArray k fs mem :=
  have hsub : km.Sublist mem := hks ▸ remG_sub
  ⟨⟨fun a w hk hl => wp_region_X (sfOf hard) alOf π (loc_class w0 S (denM km)) hm hB (Nat.eq_of_beq_eq_true hlen) (hl.drew.sub (denM_sub hsub))
    ((xs_ok ht (fun fs mem h a w hk hl => (xe_ok ht h).go a w hk hl) _ fs mem hsub h).go [] a w.drew hk hl.drew (hl.drew.sub (denM_sub hsub)))⟩⟩
end
section
variable {P : Program} {N : FN} {w0 : World} {S : List Nat} {km mem : Mem} {fs : Fr} {t t2 : TypeId} {d : Nat} {x y : Operand} {ty : TypeId} {pos : String} {aft : Array Edge} {gd : Option (Nat × Bool)} {xv yv : SV} {p : Option Addr}
/-- A pointer, is it nil? -/
theorem eff_pnil {X : SV → Mem → Prop} (hx : opx fs x = some xv) (hxd : xv.den = .pointer p) (hy : opx fs y = some yv) (hyd : yv.den = .pointer none) (ht : P.underlying t = some (.pointer (P.pointee t))) (nx : X (.lit p.isNone) mem) :
    LEff P N w0 S km ⟨some d, .binOp .eql t x y t2, ty, pos, aft, gd⟩ fs mem X := by
  refine ⟨Unit, fun _ => .lit p.isNone, fun _ => mem, fun w1 S1 a w hk hlc hl1 => ⟨(), w, .inl ?_, hl1⟩, fun _ => ⟨id, nx⟩⟩
  have ex : a.eval x = .pointer p := by rw [hk.eval (opx_some hx), hxd]
  have ey : a.eval y = .pointer none := by rw [hk.eval (opx_some hy), hyd]
  have h1 := run_equal_pointer_nil (P := P) (w := w) t p ht
  simp [execOp, ex, ey, SV.den, eqGuard, binOp, h1]
theorem eff_pnilN {X : SV → Mem → Prop} (hx : opx fs x = some xv) (hxd : xv.den = .pointer p) (hy : opx fs y = some yv) (hyd : yv.den = .pointer none) (ht : P.underlying t = some (.pointer (P.pointee t))) (nx : X (.lit p.isSome) mem) :
    LEff P N w0 S km ⟨some d, .binOp .neq t x y t2, ty, pos, aft, gd⟩ fs mem X := by
  refine ⟨Unit, fun _ => .lit p.isSome, fun _ => mem, fun w1 S1 a w hk hlc hl1 => ⟨(), w, .inl ?_, hl1⟩, fun _ => ⟨id, nx⟩⟩
  have ex : a.eval x = .pointer p := by rw [hk.eval (opx_some hx), hxd]
  have ey : a.eval y = .pointer none := by rw [hk.eval (opx_some hy), hyd]
  have h1 := run_equal_pointer_nil (P := P) (w := w) t p ht
  cases p <;> simp [execOp, ex, ey, SV.den, eqGuard, binOp, h1]
end
end Go.Proofs.YtihboegopigkmaaDoor
