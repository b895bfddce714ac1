/- The steps of a walk over states: one law for each operation. -/
import Derived.Test.YtihboegopigkmaaDoorFlt
namespace Go.Proofs.YtihboegopigkmaaDoor
set_option linter.unusedSimpArgs false
set_option linter.unusedVariables false
set_option linter.unnecessarySimpa false
set_option linter.unusedSectionVars false
open Go.RowKit

/-! ### Facts on types -/
def isAggD : TypeDesc → Bool
  | .struct _ | .array _ _ => true
  | _ => false
class TL (P : Program) (t : TypeId) (agg : outParam Bool) (sz : outParam Nat) : Prop where
  u : (P.underlying t).map isAggD = some agg
  i : (P.info? t).map (·.size) = some sz
class TZ (P : Program) (t : TypeId) (z : outParam (List Value)) : Prop where
  z : ((P.info? t).bind (·.zero)).map (·.cells) = some z.toArray
class TF (P : Program) (s : TypeId) (f : Nat) (off ft : outParam Nat) : Prop where
  f : (match P.underlying s with | some (.struct fs) => (fs[f]?).map (fun x => (x.offset, x.type)) | _ => none) = some (off, ft)
class TA (P : Program) (t : TypeId) (len et : outParam Nat) : Prop where
  u : P.underlying t = some (.array len et)
class TS (P : Program) (t : TypeId) (et : outParam Nat) : Prop where
  u : P.underlying t = some (.slice et)
class TI (P : Program) (t : TypeId) (k : outParam IntKind) : Prop where
  u : P.underlying t = some (.int k)
class TO (P : Program) (t : TypeId) : Prop where
  u : P.underlying t = some .bool
class TB (P : Program) (t : TypeId) (b : outParam Nat) : Prop where
  i : (P.info? t).map (·.bytes) = some b
class CF (P : Program) (f : FuncId) : Prop where
  c : ∀ (args : Array Value) (w : World), Sem.run P (callFunc f args) w = .ok (.enter f args) w

section
variable {P : Program} {t s : TypeId} {agg : Bool} {sz : Nat}

theorem TL.sizeOf [h : TL P t agg sz] (w : World) : (sizeOf t).run P w = .ok sz w := by
  have := h.i
  cases hi : P.info? t with
  | none => simp [hi] at this
  | some i => simp [hi] at this; simp [Go.sizeOf, typeInfo, hi, this]
theorem TL.isAgg [h : TL P t agg sz] (w : World) : (isAgg t).run P w = .ok agg w := by
  have := h.u
  cases hu : P.underlying t with
  | none => simp [hu] at this
  | some d =>
    simp [hu] at this
    simp only [Go.isAgg, Sem.run_bind, run_underlying hu, Result.andThen_ok]
    cases d <;> simp_all [isAggD]
theorem TZ.run {z : List Value} [h : TZ P t z] (w : World) : ∃ v, (zeroValue t).run P w = .ok v w ∧ v.cells = z.toArray := by
  have := h.z
  cases hi : P.info? t with
  | none => simp [hi] at this
  | some i =>
    cases hz : i.zero with
    | none => simp [hi, hz] at this
    | some v =>
      simp [hi, hz] at this
      exact ⟨v, by simp [zeroValue, typeInfo, hi, hz], this⟩
theorem TF.run {f off ft : Nat} [h : TF P s f off ft] : ∃ fs x, P.underlying s = some (.struct fs) ∧ fs[f]? = some x ∧ x.offset = off ∧ x.type = ft := by
  have := h.f
  cases hu : P.underlying s with
  | none => simp [hu] at this
  | some d =>
    cases d <;> simp [hu] at this
    rename_i fs
    obtain ⟨x, hx, h1, h2⟩ := this
    exact ⟨fs, x, rfl, hx, h1, h2⟩
end

/-! ### Reading out of a list of cells -/
def rdv (agg : Bool) (sz : Nat) (cs : List Value) (off : Nat) : Option Value :=
  match agg with
  | true => if off + sz ≤ cs.length then some (.agg ((cs.drop off).take sz).toArray) else none
  | false => cs[off]?

def splice (cs : List Value) (off : Nat) (vs : List Value) : List Value := cs.take off ++ vs ++ cs.drop (off + vs.length)
theorem splice_one (cs : List Value) (off : Nat) (v : Value) (h : off < cs.length) : splice cs off [v] = cs.set off v := by
  unfold splice
  rw [List.set_eq_take_append_cons_drop, if_pos h]
  simp

theorem run_part {P : Program} {t : TypeId} {agg : Bool} {sz : Nat} [TL P t agg sz] {cs : List Value} {off : Nat} {v : Value} (h : rdv agg sz cs off = some v) (w : World) : (part t cs.toArray off).run P w = .ok v w := by
  unfold part
  simp only [Sem.run_bind, TL.isAgg (P := P) (t := t), Result.andThen_ok]
  cases agg with
  | true =>
    simp only [rdv] at h
    split at h
    · injection h with h
      subst h
      rename_i hle
      simp only [if_true, Sem.run_bind, TL.sizeOf (P := P) (t := t), Result.andThen_ok, Sem.run_pure]
      congr 2
      apply Array.ext'
      simp [List.extract_eq_take_drop]
    · cases h
  | false =>
    simp only [rdv] at h
    simp [h]

theorem run_loadVar_blk {P : Program} {t e : TypeId} {agg : Bool} {sz : Nat} [TL P t agg sz] {cs : List Value} {b off : Nat} {v : Value} {w : World} (hw : (blk e b cs).holds w) (h : rdv agg sz cs off = some v) :
    (loadVar t ⟨b, off, none⟩).run P w = .ok v w := by
  have hw' := holds_blk hw
  unfold loadVar
  simp only [Sem.run_bind, TL.isAgg (P := P) (t := t), Result.andThen_ok]
  have hcell : ∀ j, w.cell? ⟨b, j, none⟩ = cs[j]? := fun j => by rw [cell_of_row w b j _ _ _ hw']; simp
  cases agg with
  | true =>
    simp only [rdv] at h
    split at h
    · injection h with h
      subst h
      rename_i hle
      have hl : ((cs.drop off).take sz).length = sz := by simp; omega
      have := run_loadCells_list (P := P) w ⟨b, off, none⟩ ((cs.drop off).take sz) (fun j u hu => by
        rw [Addr.add_lit, hcell]
        rw [List.getElem?_take] at hu
        split at hu
        · rw [List.getElem?_drop] at hu; exact hu
        · cases hu)
      rw [hl] at this
      simp [TL.sizeOf (P := P) (t := t), this]
    · cases h
  | false =>
    simp only [rdv] at h
    have := hcell off
    rw [h] at this
    simp [this]

theorem run_storeVar_blk {P : Program} {t e : TypeId} {agg : Bool} {sz : Nat} [TL P t agg sz] {cs vs : List Value} {b off : Nat} {v : Value} {w : World} (hw : (blk e b cs).holds w)
    (hv : v.cells = vs.toArray) (hsz : vs.length = sz) (h1 : ∀ u ∈ vs, u.oneCell' = true) (hle : off + vs.length ≤ cs.length) :
    ∃ w', (storeVar t ⟨b, off, none⟩ v).run P w = .ok () w' ∧ (blk e b (splice cs off vs)).holds w' ∧ w'.os = w.os ∧ w'.tape = w.tape ∧ w'.output = w.output ∧ w'.heap.size = w.heap.size ∧ ∀ k, k ≠ b → w'.heap[k]? = w.heap[k]? := by
  have hw' := holds_blk hw
  refine ⟨w.setRow b (splice cs off vs).toArray, ?_, setRow_heap w b _ _ _ _ hw', rfl, rfl, rfl, size_setRow _ _ _, fun k hk => setRow_other w b k _ hk⟩
  unfold storeVar
  have := run_storeCells_at P b off e vs 0 cs.toArray w hw' (by simpa using hle) h1
  simp only [Nat.add_zero, List.toList_toArray] at this
  simp only [Sem.run_bind, TL.sizeOf (P := P) (t := t), Result.andThen_ok, hv, List.size_toArray, hsz, ne_eq, not_true_eq_false, if_false, List.toList_toArray]
  simp [this, splice]

inductive Dr : Nat → List Value → List Value → Prop
  | z {l} : Dr 0 l l
  | s {n x l r} : Dr n l r → Dr (n + 1) (x :: l) r
inductive Tk : Nat → List Value → List Value → Prop
  | z {l} : Tk 0 l []
  | s {n x l r} : Tk n l r → Tk (n + 1) (x :: l) (x :: r)
theorem Dr.eq {n : Nat} {l r : List Value} (h : Dr n l r) : l.drop n = r ∧ n ≤ l.length := by
  induction h with
  | z => simp
  | s _ ih => simp [ih.1]; exact ih.2
theorem Tk.eq {n : Nat} {l r : List Value} (h : Tk n l r) : l.take n = r ∧ n ≤ l.length := by
  induction h with
  | z => simp
  | s _ ih => simp [ih.1]; exact ih.2
theorem rdv_all {sz : Nat} {cs : List Value} (h : cs.length = sz) : rdv true sz cs 0 = some (.agg cs.toArray) := by
  subst h; simp [rdv]
theorem rdv_mid {sz off : Nat} {cs r r' : List Value} (h1 : Dr off cs r) (h2 : Tk sz r r') : rdv true sz cs off = some (.agg r'.toArray) := by
  obtain ⟨rfl, h3⟩ := h1.eq
  obtain ⟨rfl, h4⟩ := h2.eq
  simp at h4
  simp only [rdv]
  rw [if_pos (by omega)]
inductive SetL : List Value → Nat → Value → List Value → Prop
  | z {x v l} : SetL (x :: l) 0 v (v :: l)
  | s {x v l l' n} : SetL l n v l' → SetL (x :: l) (n + 1) v (x :: l')
  | any {l n v} (h : n < l.length) : SetL l n v (l.set n v)
theorem SetL.eq {cs cs' : List Value} {off : Nat} {v : Value} (h : SetL cs off v cs') : off < cs.length ∧ cs.set off v = cs' := by
  induction h with
  | z => simp
  | s _ ih => simp [ih.1, ih.2]
  | any h => exact ⟨h, rfl⟩

/-! ### The judgement -/
inductive At : List Itm → Itm → Prop
  | head {i is} : At (i :: is) i
  | tail {i j is} : At is i → At (j :: is) i
theorem At.mem {is : List Itm} {i : Itm} (h : At is i) : i ∈ is := by
  induction h with
  | head => exact .head _
  | tail _ ih => exact .tail _ ih
/-- An item in its place gives way to another. -/
inductive Upd : List Itm → Itm → Itm → List Itm → Prop
  | head {i j is} : Upd (i :: is) i j (j :: is)
  | tail {i j k is is'} : Upd is i j is' → Upd (k :: is) i j (k :: is')
theorem Upd.set {is is' : List Itm} {i j : Itm} (h : Upd is i j is') : ∃ n, is[n]? = some i ∧ is' = is.set n j := by
  induction h with
  | head => exact ⟨0, rfl, rfl⟩
  | tail _ ih => obtain ⟨n, h1, h2⟩ := ih; exact ⟨n + 1, by simpa using h1, by simp [h2]⟩

/-! ### Floats as items -/
def flI (F : FLs) : List Itm := F.map fun x => blk x.2.t x.1 x.2.cs
theorem Loc.perm {w0 w : World} {S : List Nat} {is is' : List Itm} (h : Loc w0 S is w) (hp : is.Perm is') : Loc w0 S is' w :=
  ⟨h.os, h.tape, h.output, h.size, h.same, fun i hi => h.holds i (hp.mem_iff.2 hi), fun i hi => h.owned i (hp.mem_iff.2 hi), hp.pairwise h.disj fun hxy k hk hk' => hxy k hk' hk⟩
theorem flI_perm {F F' : FLs} (h : F.Perm F') (is : List Itm) : (flI F ++ is).Perm (flI F' ++ is) := (h.map _).append_right is
theorem Loc.ext {w0 w w' : World} {S : List Nat} {is : List Itm} {F F' : FLs} (h : Loc w0 S (flI F ++ is) w) (he : Ext w F w' F') : Loc w0 S (flI F' ++ is) w' := by
  induction he with
  | refl => exact h
  | step s _ ih => exact ih.alloc s.t s.cs
  | perm _ hp ih => exact ih.perm (flI_perm hp is)
theorem Loc.unfl {w0 w : World} {S : List Nat} {is : List Itm} {F : FLs} (h : Loc w0 S (flI F ++ is) w) : Loc w0 S is w := h.sub (List.sublist_append_right _ _)
theorem Loc.subfl {w0 w : World} {S : List Nat} {is ks : List Itm} {F : FLs} (h : Loc w0 S (flI F ++ is) w) (hs : ks.Sublist is) : Loc w0 S (flI F ++ ks) w := h.sub ((List.Sublist.refl _).append hs)
theorem loc_class (w0 : World) (S : List Nat) (ks : List Itm) : CClass fun F w => Loc w0 S (flI F ++ ks) w :=
  ⟨fun h he => h.ext he, fun h => h.sub (List.sublist_cons_self _ _)⟩
theorem Split.pre {is cons keep : List Itm} (h : Split is cons keep) : ∀ l : List Itm, Split (l ++ is) cons (l ++ keep)
  | [] => h
  | _ :: l => .right (h.pre l)
theorem Split.frame (is : List Itm) : ∀ l : List Itm, Split (l ++ is) is l
  | [] => by
    induction is with
    | nil => exact .nil
    | cons i is ih => exact .left ih
  | x :: l => .right (Split.frame is l)
theorem Loc.self {w0 w : World} {S : List Nat} {is : List Itm} (h : Loc w0 S is w) : Loc w (is.flatMap Itm.foot) is w :=
  ⟨rfl, rfl, rfl, Nat.le_refl _, fun _ _ _ => rfl, h.holds, fun i hi k hk => .inl (List.mem_flatMap.2 ⟨i, hi, hk⟩), h.disj⟩

class SfOK (sf : Oper → Bool) : Prop where
  ok : ∀ d op ty pos aft g, sf ⟨d, op, ty, pos, aft, g⟩ = sf ⟨d, op, ty, pos, aft, none⟩
instance sfOf_ok (l : List Nat) : SfOK (sfOf l) := ⟨fun _ _ _ _ _ _ => rfl⟩
instance : SfOK (fun _ => false) := ⟨fun _ _ _ _ _ _ => rfl⟩
/-- Operations that make a block. -/
def alOf (o : Oper) : Bool := match o.op with
  | .alloc _ | .box .. | .buildSlice .. | .makeSlice .. => true
  | _ => false
instance : SfOK alOf := ⟨fun _ _ _ _ _ _ => rfl⟩
class AlC (al : Oper → Bool) : Prop where
  ok : ∀ o, alOf o = false → al o = false
instance : AlC alOf := ⟨fun _ h => h⟩
instance : AlC (fun _ => false) := ⟨fun _ _ => rfl⟩

structure GS (P : Program) (T : List (Option Tmp)) (sf al : Oper → Bool) (ks : List Itm) (K : Act → World → Prop) (N : FN) (w0 : World) (S : List Nat) (fs : List (Nat × Value)) (is : List Itm) (l : List Oper) : Prop where
  go : ∀ F a w, Kn N fs a → Loc w0 S (flI F ++ is) w → Loc w0 S (flI F ++ ks) w → wpX P T sf al (fun F w => Loc w0 S (flI F ++ ks) w) K l F a w

section
variable {P : Program} {T : List (Option Tmp)} {sf al : Oper → Bool} {ks : List Itm} {K : Act → World → Prop} {N : FN} {w0 : World} {S : List Nat} {fs : List (Nat × Value)} {is : List Itm} {rest : List Oper} [AlC al]
variable {d : Tmp} {ty : TypeId} {pos : String} {aft : Array Edge} {op : Op} {x y : Operand} {v : Value}

theorem s_nil (h : ∀ a w, Kn N fs a → Loc w0 S is w → K a w) : GS P T sf al ks K N w0 S fs is [] := ⟨fun F a w hk hl _ w' F' he => h a w' hk (hl.ext he).unfl⟩

theorem s_val {o : Oper} (hg : o.guard = none) (hd : dOK N o.dst = true)
    (hrun : ∀ a w, Kn N fs a → Loc w0 S ks w → (sf o = true ∨ Loc w0 S is w) → (execOp a.eval o).run P w = .ok (.value v) w)
    (nx : GS P T sf al ks K N w0 S (pushd o.dst v fs) is rest) (hal : alOf o = false := by first | rfl | assumption) : GS P T sf al ks K N w0 S fs is (o :: rest) := by
  refine ⟨fun F a w hk hl hc => ?_⟩
  unfold wpX
  rw [if_pos (show wantT T a o = true by simp [wantT, hg])]
  by_cases hs : sf o = true
  · rw [if_pos hs]
    exact ⟨v, fun F' w' hw' => by unfold SoftAt; rw [hrun a w' hk hw'.unfl (.inl hs)]; exact ⟨rfl, rfl⟩, nx.go _ _ _ (hk.put hd v) hl hc⟩
  · rw [if_neg hs, if_neg (by rw [AlC.ok (al := al) _ hal]; exact Bool.false_ne_true)]
    intro w' F' he
    have hl := hl.ext he
    have hc := hc.ext he
    exact SoftAt.wp (v := v) (by unfold SoftAt; rw [hrun a w' hk hc.unfl (.inr hl.unfl)]; exact ⟨rfl, rfl⟩) ⟨hc, nx.go _ _ _ (hk.put hd v) hl hc⟩

/-- An operation that makes or writes memory. -/
theorem s_effC {o : Oper} {V : Type} {val : V → Value} {its : V → List Itm} (hg : o.guard = none) (hd : dOK N o.dst = true) (hs : sf o = false)
    (hrun : ∀ w1 S1 a w, Kn N fs a → Loc w0 S is w → Loc w1 S1 is w → ∃ u w', ((execOp a.eval o).run P w = .ok (.value (val u)) w' ∨ ((execOp a.eval o).run P w = .ok .skip w' ∧ val u = undef)) ∧ Loc w1 S1 (its u) w')
    (hks : ∀ u, ks.Sublist (its u))
    (nx : ∀ u, GS P T sf al ks K N w0 S (pushd o.dst (val u) fs) (its u) rest) (hal : al o = false) : GS P T sf al ks K N w0 S fs is (o :: rest) := by
  refine ⟨fun F a w hk hl hc => ?_⟩
  unfold wpX
  rw [if_pos (show wantT T a o = true by simp [wantT, hg]), if_neg (by simp [hs]), if_neg (by rw [hal]; exact Bool.false_ne_true)]
  intro w' F' he
  have hl := hl.ext he
  obtain ⟨u, w2, hr, hl1⟩ := hrun _ _ a w' hk hl.unfl hl.unfl.self
  have hl' : Loc w0 S (flI F' ++ its u) w2 := (hl.call (Split.frame is (flI F')) (fun k hk => List.mem_flatMap.1 hk) hl1).perm List.perm_append_comm
  have hn := (nx u).go F' _ w2 (hk.put hd (val u)) hl' (hl'.subfl (hks u))
  unfold wpN
  rcases hr with hr | ⟨hr, hu⟩
  · rw [hr]; exact ⟨hl'.subfl (hks u), hn⟩
  · rw [hr]; rw [hu] at hn; exact ⟨hl'.subfl (hks u), hn⟩

theorem s_eff {o : Oper} {V : Type} {val : V → Value} {its : V → List Itm} (hg : o.guard = none) (hd : dOK N o.dst = true) (hs : sf o = false)
    (hrun : ∀ w1 S1 a w, Kn N fs a → Loc w0 S is w → Loc w1 S1 is w → ∃ u w', ((execOp a.eval o).run P w = .ok (.value (val u)) w' ∨ ((execOp a.eval o).run P w = .ok .skip w' ∧ val u = undef)) ∧ Loc w1 S1 (its u) w')
    (hks : ∀ u, ks.Sublist (its u))
    (nx : ∀ u, GS P T sf al ks K N w0 S (pushd o.dst (val u) fs) (its u) rest) (hal : alOf o = false := by first | rfl | assumption) : GS P T sf al ks K N w0 S fs is (o :: rest) :=
  s_effC hg hd hs hrun hks nx (AlC.ok _ hal)

/-- An operation that makes a block. -/
theorem s_new {o : Oper} {t : TypeId} {cs : List Value} (f : Option (Nat × Nat)) (hg : o.guard = none) (hd : dOK N o.dst = true) (hs : sf o = false)
    (hrun : ∀ a w, Kn N fs a → (execOp a.eval o).run P w = .ok (.value (mkv f w.heap.size)) (w.alloc (.cells cs.toArray t))) (hks : ks.Sublist is)
    (nx : ∀ b, GS P T sf al ks K N w0 S (pushd o.dst (mkv f b) fs) (blk t b cs :: is) rest) : GS P T sf al ks K N w0 S fs is (o :: rest) := by
  by_cases hal : al o = true
  · refine ⟨fun F a w hk hl hc => ?_⟩
    unfold wpX
    rw [if_pos (show wantT T a o = true by simp [wantT, hg]), if_neg (by simp [hs]), if_pos hal]
    refine ⟨⟨f, t, cs⟩, fun w => hrun a w hk, fun w' F' he b F1 hp => ?_⟩
    have hl' : Loc w0 S (flI F1 ++ (blk t b cs :: is)) w' := ((hl.ext he).perm (flI_perm hp is)).perm List.perm_middle.symm
    exact (nx b).go F1 _ w' (hk.put hd _) hl' (hl'.subfl (hks.cons _))
  · exact s_effC (V := Nat) (val := mkv f) (its := fun b => blk t b cs :: is) hg hd hs (fun w1 S1 a w hk hl hl1 => ⟨w.heap.size, _, .inl (hrun a w hk), hl1.alloc t cs⟩) (fun _ => hks.cons _) nx (by simpa using hal)

/-- A guarded operation that is not wanted. -/
theorem s_pass {o : Oper} {g d' : Nat} {want b : Bool} (hg : o.guard = some (g, want)) (hT : T.getD g none = some d') (hv : fget fs d' = some (.bool b)) (hb : (b == want) = false) (hd : dOK N o.dst = true)
    (nx : GS P T sf al ks K N w0 S (pushd o.dst undef fs) is rest) : GS P T sf al ks K N w0 S fs is (o :: rest) := by
  refine ⟨fun F a w hk hl hc => ?_⟩
  unfold wpX
  rw [if_neg (show ¬ wantT T a o = true by
    have := hk.get _ _ hv
    simp only [wantT, hg, hT, this, isB, hb]
    exact Bool.false_ne_true)]
  exact nx.go _ _ _ (hk.putU hd) hl hc
theorem s_passU {o : Oper} {g d' : Nat} {want : Bool} (hg : o.guard = some (g, want)) (hT : T.getD g none = some d') (hv : fget fs d' = some undef) (hd : dOK N o.dst = true)
    (nx : GS P T sf al ks K N w0 S (pushd o.dst undef fs) is rest) : GS P T sf al ks K N w0 S fs is (o :: rest) := by
  refine ⟨fun F a w hk hl hc => ?_⟩
  unfold wpX
  rw [if_neg (show ¬ wantT T a o = true by
    have := hk.get _ _ hv
    simp only [wantT, hg, hT, this]
    exact Bool.false_ne_true)]
  exact nx.go _ _ _ (hk.putU hd) hl hc

/-- A guarded operation that is wanted. -/
theorem s_want {dd : Option Tmp} {g d' : Nat} {want b : Bool} [hsf : SfOK sf] [hal : SfOK al] (hT : T.getD g none = some d') (hv : fget fs d' = some (.bool b)) (hb : (b == want) = true)
    (nx : GS P T sf al ks K N w0 S fs is (⟨dd, op, ty, pos, aft, none⟩ :: rest)) : GS P T sf al ks K N w0 S fs is (⟨dd, op, ty, pos, aft, some (g, want)⟩ :: rest) := by
  refine ⟨fun F a w hk hl hc => ?_⟩
  have h := nx.go F a w hk hl hc
  unfold wpX at h ⊢
  rw [if_pos (show wantT T a _ = true by rfl)] at h
  rw [if_pos (show wantT T a _ = true by
    have := hk.get _ _ hv
    simp only [wantT, hT, this, isB, hb]), hsf.ok, hal.ok]
  exact h
/-- A guard that is not known: two ways. -/
theorem s_part {o : Oper} {g d' : Nat} {want b : Bool} (hg : o.guard = some (g, want)) (hT : T.getD g none = some d') (hv : fget fs d' = some (.bool b))
    (ht : b = true → GS P T sf al ks K N w0 S ((d', .bool true) :: fs) is (o :: rest)) (hf : b = false → GS P T sf al ks K N w0 S ((d', .bool false) :: fs) is (o :: rest)) : GS P T sf al ks K N w0 S fs is (o :: rest) := by
  refine ⟨fun F a w hk hl hc => ?_⟩
  have hget := hk.get _ _ hv
  have hkn : ∀ c : Bool, b = c → Kn N ((d', .bool c) :: fs) a := fun c hc => ⟨hk.defers, hk.size, fun t u hu => by
    simp only [fget] at hu
    by_cases hdt : d' = t
    · subst hdt
      rw [show Nat.beq d' d' = true by simp] at hu
      simp at hu
      rw [hget, hc, hu]
    · have : Nat.beq d' t = false := by rw [← Bool.not_eq_true, Nat.beq_eq]; exact hdt
      rw [this] at hu
      exact hk.get t u hu⟩
  cases hb : b with
  | true => exact (ht hb).go F a w (hkn true hb) hl hc
  | false => exact (hf hb).go F a w (hkn false hb) hl hc

theorem s_move (hx : opv fs x = some v) (hd : Nat.blt d N.n = true) (nx : GS P T sf al ks K N w0 S ((d, v) :: fs) is rest) : GS P T sf al ks K N w0 S fs is (⟨some d, .move x, ty, pos, aft, none⟩ :: rest) :=
  s_val rfl hd (fun a w hk _ _ => by simp [execOp, hk.eval hx]) nx
theorem s_assign (hx : opv fs x = some v) (hd : Nat.blt d N.n = true) (nx : GS P T sf al ks K N w0 S ((d, v) :: fs) is rest) : GS P T sf al ks K N w0 S fs is (⟨some d, .assign x, ty, pos, aft, none⟩ :: rest) :=
  s_val rfl hd (fun a w hk _ _ => by simp [execOp, hk.eval hx]) nx
theorem s_pick_t {c : Operand} (hc : opv fs c = some (.bool true)) (hx : opv fs x = some v) (hd : Nat.blt d N.n = true) (nx : GS P T sf al ks K N w0 S ((d, v) :: fs) is rest) : GS P T sf al ks K N w0 S fs is (⟨some d, .pick c x y, ty, pos, aft, none⟩ :: rest) :=
  s_val rfl hd (fun a w hk _ _ => by simp [execOp, hk.eval hc, hk.eval hx, asBool]) nx
theorem s_pick_f {c : Operand} (hc : opv fs c = some (.bool false)) (hx : opv fs y = some v) (hd : Nat.blt d N.n = true) (nx : GS P T sf al ks K N w0 S ((d, v) :: fs) is rest) : GS P T sf al ks K N w0 S fs is (⟨some d, .pick c x y, ty, pos, aft, none⟩ :: rest) :=
  s_val rfl hd (fun a w hk _ _ => by simp [execOp, hk.eval hc, hk.eval hx, asBool]) nx
theorem s_nilCheck {p : Addr} (hx : opv fs x = some (.pointer (some p))) (hd : Nat.blt d N.n = true) (nx : GS P T sf al ks K N w0 S ((d, .pointer (some p)) :: fs) is rest) : GS P T sf al ks K N w0 S fs is (⟨some d, .nilCheck x, ty, pos, aft, none⟩ :: rest) :=
  s_val rfl hd (fun a w hk _ _ => by simp [execOp, hk.eval hx]) nx
theorem s_nilCheckN {p : Addr} (hx : opv fs x = some (.pointer (some p))) (nx : GS P T sf al ks K N w0 S fs is rest) : GS P T sf al ks K N w0 S fs is (⟨none, .nilCheck x, ty, pos, aft, none⟩ :: rest) :=
  s_val (v := .pointer (some p)) rfl rfl (fun a w hk _ _ => by simp [execOp, hk.eval hx]) nx
theorem s_makeFunc {fn : Fn} {f1 c1 : List Operand} {vf vc : List Value} (h1 : opvs fs f1 = some vf) (h2 : opvs fs c1 = some vc) (hd : Nat.blt d N.n = true)
    (nx : GS P T sf al ks K N w0 S ((d, .func fn vf.toArray vc.toArray) :: fs) is rest) : GS P T sf al ks K N w0 S fs is (⟨some d, .makeFunc fn f1.toArray c1.toArray, ty, pos, aft, none⟩ :: rest) :=
  s_val rfl hd (fun a w hk _ _ => by simp [execOp, Instr.makeFunc, hk.evals h1, hk.evals h2]) nx
theorem s_extract {ix : Nat} {vs : List Value} (hx : opv fs x = some (.tuple vs.toArray)) (hv : vs[ix]? = some v) (hd : Nat.blt d N.n = true) (nx : GS P T sf al ks K N w0 S ((d, v) :: fs) is rest) : GS P T sf al ks K N w0 S fs is (⟨some d, .extract x ix, ty, pos, aft, none⟩ :: rest) :=
  s_val rfl hd (fun a w hk _ _ => by simp [execOp, hk.eval hx, Instr.extract, hv]) nx

/-! integers -/
def inR (k : IntKind) (n : Int) : Prop :=
  match k with
  | .i8 => -128 ≤ n ∧ n ≤ 127
  | .i16 => -32768 ≤ n ∧ n ≤ 32767
  | .i32 => -2147483648 ≤ n ∧ n ≤ 2147483647
  | .i64 => -9223372036854775808 ≤ n ∧ n ≤ 9223372036854775807
  | .u8 => 0 ≤ n ∧ n ≤ 255
  | .u16 => 0 ≤ n ∧ n ≤ 65535
  | .u32 => 0 ≤ n ∧ n ≤ 4294967295
  | .u64 => 0 ≤ n ∧ n ≤ 18446744073709551615
theorem wrap_in {k : IntKind} {n : Int} (h : inR k n) : k.wrap n = n := by
  cases k <;> simp only [inR] at h
  · exact IntWalk.i8_in n h
  · exact IntWalk.i16_in n h
  · exact IntWalk.i32_in n h
  · exact IntWalk.i64_in n h
  · exact IntWalk.u8_in n h
  · exact IntWalk.u16_in n h
  · exact IntWalk.u32_in n h
  · exact IntWalk.u64_in n h

def cmpV (op : BinOp) (x y : Int) : Option Bool :=
  match op with
  | .eql => some (decide (x = y))
  | .neq => some (decide (¬ x = y))
  | .lss => some (decide (x < y))
  | .leq => some (decide (x ≤ y))
  | .gtr => some (decide (y < x))
  | .geq => some (decide (y ≤ x))
  | _ => none
def ariV (op : BinOp) (x y : Int) : Option Int :=
  match op with
  | .add => some (x + y)
  | .sub => some (x - y)
  | .mul => some (x * y)
  | _ => none

variable {bo : BinOp} {xt yt : TypeId} {k k2 : IntKind} {m n : Int}
theorem s_cmp {c : Bool} (hx : opv fs x = some (.int k m)) (hy : opv fs y = some (.int k n)) (hc : cmpV bo m n = some c) (hd : Nat.blt d N.n = true)
    (nx : GS P T sf al ks K N w0 S ((d, .bool c) :: fs) is rest) : GS P T sf al ks K N w0 S fs is (⟨some d, .binOp bo xt x y yt, ty, pos, aft, none⟩ :: rest) :=
  s_val rfl hd (fun a w hk _ _ => by
    cases bo <;> simp only [cmpV] at hc <;> first | (cases hc; done) | (injection hc with hc; subst hc; simp only [execOp, hk.eval hx, hk.eval hy, eqGuard_at_int]; simp [go_sem]; try rfl)) nx
def cmpP (op : BinOp) (x y : Int) : Prop :=
  match op with
  | .eql => x = y
  | .neq => ¬ x = y
  | .lss => x < y
  | .leq => x ≤ y
  | .gtr => y < x
  | .geq => y ≤ x
  | _ => False
def cmpN (op : BinOp) (x y : Int) : Prop :=
  match op with
  | .eql => ¬ x = y
  | .neq => x = y
  | .lss => ¬ x < y
  | .leq => ¬ x ≤ y
  | .gtr => ¬ y < x
  | .geq => ¬ y ≤ x
  | _ => False
theorem cmpV_T {op : BinOp} {x y : Int} (h : cmpP op x y) : cmpV op x y = some true := by
  cases op <;> simp only [cmpP] at h <;> first | exact h.elim | simp [cmpV, h]
theorem cmpV_F {op : BinOp} {x y : Int} (h : cmpN op x y) : cmpV op x y = some false := by
  cases op <;> simp only [cmpN] at h <;> first | exact h.elim | simp [cmpV, h]
theorem s_cmpT (hx : opv fs x = some (.int k m)) (hy : opv fs y = some (.int k n)) (hc : cmpP bo m n) (hd : Nat.blt d N.n = true)
    (nx : GS P T sf al ks K N w0 S ((d, .bool true) :: fs) is rest) : GS P T sf al ks K N w0 S fs is (⟨some d, .binOp bo xt x y yt, ty, pos, aft, none⟩ :: rest) := s_cmp hx hy (cmpV_T hc) hd nx
theorem s_cmpF (hx : opv fs x = some (.int k m)) (hy : opv fs y = some (.int k n)) (hc : cmpN bo m n) (hd : Nat.blt d N.n = true)
    (nx : GS P T sf al ks K N w0 S ((d, .bool false) :: fs) is rest) : GS P T sf al ks K N w0 S fs is (⟨some d, .binOp bo xt x y yt, ty, pos, aft, none⟩ :: rest) := s_cmp hx hy (cmpV_F hc) hd nx
theorem s_ari {z z' : Int} (hx : opv fs x = some (.int k m)) (hy : opv fs y = some (.int k n)) (hc : ariV bo m n = some z') (hz : z' = z) (hr : inR k z) (hd : Nat.blt d N.n = true)
    (nx : GS P T sf al ks K N w0 S ((d, .int k z) :: fs) is rest) : GS P T sf al ks K N w0 S fs is (⟨some d, .binOp bo xt x y yt, ty, pos, aft, none⟩ :: rest) :=
  s_val rfl hd (fun a w hk _ _ => by
    subst hz
    have hw := wrap_in hr
    cases bo <;> simp only [ariV] at hc <;> first | (cases hc; done) | (injection hc with hc; subst hc; simp only [execOp, hk.eval hx, hk.eval hy, eqGuard_at_int]; simp [binOp, Op.intArith, hw])) nx
theorem s_ariW {z : Int} (hx : opv fs x = some (.int k m)) (hy : opv fs y = some (.int k n)) (hc : ariV bo m n = some z) (hd : Nat.blt d N.n = true)
    (nx : GS P T sf al ks K N w0 S ((d, .int k (k.wrap z)) :: fs) is rest) : GS P T sf al ks K N w0 S fs is (⟨some d, .binOp bo xt x y yt, ty, pos, aft, none⟩ :: rest) :=
  s_val rfl hd (fun a w hk _ _ => by
    cases bo <;> simp only [ariV] at hc <;> first | (cases hc; done) | (injection hc with hc; subst hc; simp only [execOp, hk.eval hx, hk.eval hy, eqGuard_at_int]; simp [binOp, Op.intArith])) nx
theorem s_quo {z : Int} (hx : opv fs x = some (.int k m)) (hy : opv fs y = some (.int k n)) (hp : 0 ≤ m ∧ 0 < n) (hr : inR k (m / n)) (hz : m / n = z) (hd : Nat.blt d N.n = true)
    (nx : GS P T sf al ks K N w0 S ((d, .int k z) :: fs) is rest) : GS P T sf al ks K N w0 S fs is (⟨some d, .binOp .quo xt x y yt, ty, pos, aft, none⟩ :: rest) :=
  s_val rfl hd (fun a w hk _ _ => by
    subst hz
    simp only [execOp, hk.eval hx, hk.eval hy, eqGuard_at_int]
    simp [binOp, Op.intDiv, show ¬ n = 0 by omega, Int.tdiv_eq_ediv_of_nonneg hp.1, wrap_in hr]) nx
theorem s_quoT {z : Int} (hx : opv fs x = some (.int k m)) (hy : opv fs y = some (.int k n)) (hp : n ≠ 0) (hr : inR k (m.tdiv n)) (hz : m.tdiv n = z) (hd : Nat.blt d N.n = true)
    (nx : GS P T sf al ks K N w0 S ((d, .int k z) :: fs) is rest) : GS P T sf al ks K N w0 S fs is (⟨some d, .binOp .quo xt x y yt, ty, pos, aft, none⟩ :: rest) :=
  s_val rfl hd (fun a w hk _ _ => by
    subst hz
    simp only [execOp, hk.eval hx, hk.eval hy, eqGuard_at_int]
    simp [binOp, Op.intDiv, hp, wrap_in hr]) nx
theorem s_rem {z : Int} (hx : opv fs x = some (.int k m)) (hy : opv fs y = some (.int k n)) (hp : 0 ≤ m ∧ 0 < n) (hz : m % n = z) (hd : Nat.blt d N.n = true)
    (nx : GS P T sf al ks K N w0 S ((d, .int k z) :: fs) is rest) : GS P T sf al ks K N w0 S fs is (⟨some d, .binOp .rem xt x y yt, ty, pos, aft, none⟩ :: rest) :=
  s_val rfl hd (fun a w hk _ _ => by
    subst hz
    simp only [execOp, hk.eval hx, hk.eval hy, eqGuard_at_int]
    simp [binOp, Op.intDiv, show ¬ n = 0 by omega, Int.tmod_eq_emod_of_nonneg hp.1]) nx
theorem s_remT {z : Int} (hx : opv fs x = some (.int k m)) (hy : opv fs y = some (.int k n)) (hp : n ≠ 0) (hz : m.tmod n = z) (hd : Nat.blt d N.n = true)
    (nx : GS P T sf al ks K N w0 S ((d, .int k z) :: fs) is rest) : GS P T sf al ks K N w0 S fs is (⟨some d, .binOp .rem xt x y yt, ty, pos, aft, none⟩ :: rest) :=
  s_val rfl hd (fun a w hk _ _ => by
    subst hz
    simp only [execOp, hk.eval hx, hk.eval hy, eqGuard_at_int]
    simp [binOp, Op.intDiv, hp]) nx
theorem s_bits (hx : opv fs x = some (.int k m)) (hy : opv fs y = some (.int k n)) (hb : bo = .and ∨ bo = .or ∨ bo = .xor ∨ bo = .andNot) (hd : Nat.blt d N.n = true)
    (nx : GS P T sf al ks K N w0 S ((d, .int k (bits bo k m n)) :: fs) is rest) : GS P T sf al ks K N w0 S fs is (⟨some d, .binOp bo xt x y yt, ty, pos, aft, none⟩ :: rest) :=
  s_val rfl hd (fun a w hk _ _ => by
    rcases hb with rfl | rfl | rfl | rfl <;> (simp only [execOp, hk.eval hx, hk.eval hy, eqGuard_at_int]; simp [binOp, Op.intBits, bits])) nx
theorem s_shl (hx : opv fs x = some (.int k m)) (hy : opv fs y = some (.int k2 n)) (hp : 0 ≤ n) (hd : Nat.blt d N.n = true)
    (nx : GS P T sf al ks K N w0 S ((d, .int k (k.wrap (m * 2 ^ (min n.toNat k.bits)))) :: fs) is rest) : GS P T sf al ks K N w0 S fs is (⟨some d, .binOp .shl xt x y yt, ty, pos, aft, none⟩ :: rest) :=
  s_val rfl hd (fun a w hk _ _ => by
    simp only [execOp, hk.eval hx, hk.eval hy, eqGuard_at_int]
    simp [binOp, Op.shift, show ¬ n < 0 by omega]) nx
theorem s_shr (hx : opv fs x = some (.int k m)) (hy : opv fs y = some (.int k2 n)) (hp : 0 ≤ n) (hd : Nat.blt d N.n = true)
    (nx : GS P T sf al ks K N w0 S ((d, .int k (m / (2 ^ (min n.toNat k.bits)))) :: fs) is rest) : GS P T sf al ks K N w0 S fs is (⟨some d, .binOp .shr xt x y yt, ty, pos, aft, none⟩ :: rest) :=
  s_val rfl hd (fun a w hk _ _ => by
    simp only [execOp, hk.eval hx, hk.eval hy, eqGuard_at_int]
    have : m.fdiv (2 ^ (min n.toNat k.bits)) = m / (2 ^ (min n.toNat k.bits)) := by
      rw [Int.fdiv_eq_ediv_of_nonneg]; exact Int.le_of_lt (Int.pow_pos (by omega))
    simp [binOp, Op.shift, show ¬ n < 0 by omega, this]) nx
theorem s_not {c : Bool} (hx : opv fs x = some (.bool c)) (hd : Nat.blt d N.n = true)
    (nx : GS P T sf al ks K N w0 S ((d, .bool (!c)) :: fs) is rest) : GS P T sf al ks K N w0 S fs is (⟨some d, .unOp .not xt x, ty, pos, aft, none⟩ :: rest) :=
  s_val rfl hd (fun a w hk _ _ => by simp [execOp, hk.eval hx, Op.unary]) nx
theorem s_notL {c c' : Bool} (hx : opv fs x = some (.bool c)) (hc : (!c) = c') (hd : Nat.blt d N.n = true)
    (nx : GS P T sf al ks K N w0 S ((d, .bool c') :: fs) is rest) : GS P T sf al ks K N w0 S fs is (⟨some d, .unOp .not xt x, ty, pos, aft, none⟩ :: rest) := by
  subst hc; exact s_not hx hd nx
theorem s_neg (hx : opv fs x = some (.int k m)) (hr : inR k (-m)) (hd : Nat.blt d N.n = true)
    (nx : GS P T sf al ks K N w0 S ((d, .int k (-m)) :: fs) is rest) : GS P T sf al ks K N w0 S fs is (⟨some d, .unOp .neg xt x, ty, pos, aft, none⟩ :: rest) :=
  s_val rfl hd (fun a w hk _ _ => by simp [execOp, hk.eval hx, Op.unary, Op.intArith, wrap_in hr]) nx
theorem s_negW (hx : opv fs x = some (.int k m)) (hd : Nat.blt d N.n = true)
    (nx : GS P T sf al ks K N w0 S ((d, .int k (k.wrap (-m))) :: fs) is rest) : GS P T sf al ks K N w0 S fs is (⟨some d, .unOp .neg xt x, ty, pos, aft, none⟩ :: rest) :=
  s_val rfl hd (fun a w hk _ _ => by simp [execOp, hk.eval hx, Op.unary, Op.intArith]) nx
theorem s_conv [h1 : TI P xt k] [h2 : TI P yt k2] (hx : opv fs x = some (.int k m)) (hr : inR k2 m) (hd : Nat.blt d N.n = true)
    (nx : GS P T sf al ks K N w0 S ((d, .int k2 m) :: fs) is rest) : GS P T sf al ks K N w0 S fs is (⟨some d, .convert xt yt x, ty, pos, aft, none⟩ :: rest) :=
  s_val rfl hd (fun a w hk _ _ => by simp [execOp, hk.eval hx, convert, run_underlying h1.u, run_underlying h2.u, Conv.intToInt, wrap_in hr]) nx
theorem s_convW [h1 : TI P xt k] [h2 : TI P yt k2] (hx : opv fs x = some (.int k m)) (hd : Nat.blt d N.n = true)
    (nx : GS P T sf al ks K N w0 S ((d, .int k2 (k2.wrap m)) :: fs) is rest) : GS P T sf al ks K N w0 S fs is (⟨some d, .convert xt yt x, ty, pos, aft, none⟩ :: rest) :=
  s_val rfl hd (fun a w hk _ _ => by simp [execOp, hk.eval hx, convert, run_underlying h1.u, run_underlying h2.u, Conv.intToInt]) nx
theorem run_eqInB {b c : Bool} {t : TypeId} (hu : P.underlying t = some .bool) (w : World) (n : Nat) : (Op.equalIn (n + 1) t (.bool b) (.bool c)).run P w = .ok (b == c) w := by
  unfold Op.equalIn
  simp [run_underlying hu]
theorem run_eqB {b c : Bool} {t : TypeId} (hu : P.underlying t = some .bool) (w : World) : (Op.equal t (.bool b) (.bool c)).run P w = .ok (b == c) w := run_eqInB hu w 9999
theorem binOp_eql' (t : TypeId) (u v : Value) (h : (∀ k n, u ≠ .int k n) ∧ (∀ k n, u ≠ .float k n) ∧ (∀ k n m, u ≠ .complex k n m) ∧ (∀ s, u ≠ .string s)) : binOp .eql t u v = (do pure (.bool (← Op.equal t u v))) := by
  obtain ⟨h1, h2, h3, h4⟩ := h
  cases u <;> first | rfl | exact absurd rfl (h1 _ _) | exact absurd rfl (h2 _ _) | exact absurd rfl (h3 _ _ _) | exact absurd rfl (h4 _)
theorem binOp_neq' (t : TypeId) (u v : Value) (h : (∀ k n, u ≠ .int k n) ∧ (∀ k n, u ≠ .float k n) ∧ (∀ k n m, u ≠ .complex k n m) ∧ (∀ s, u ≠ .string s)) : binOp .neq t u v = (do pure (.bool (!(← Op.equal t u v)))) := by
  obtain ⟨h1, h2, h3, h4⟩ := h
  cases u <;> first | rfl | exact absurd rfl (h1 _ _) | exact absurd rfl (h2 _ _) | exact absurd rfl (h3 _ _ _) | exact absurd rfl (h4 _)
theorem s_eqB {b c : Bool} [hu : TO P xt] (hx : opv fs x = some (.bool b)) (hy : opv fs y = some (.bool c)) (hd : Nat.blt d N.n = true)
    (nx : GS P T sf al ks K N w0 S ((d, .bool (b == c)) :: fs) is rest) : GS P T sf al ks K N w0 S fs is (⟨some d, .binOp .eql xt x y yt, ty, pos, aft, none⟩ :: rest) :=
  s_val rfl hd (fun a w hk _ _ => by
    simp only [execOp, hk.eval hx, hk.eval hy, eqGuard_at_bool]
    rw [binOp_eql' _ _ _ (by simp)]
    simp [run_eqB hu.u]) nx
theorem s_neB {b c : Bool} [hu : TO P xt] (hx : opv fs x = some (.bool b)) (hy : opv fs y = some (.bool c)) (hd : Nat.blt d N.n = true)
    (nx : GS P T sf al ks K N w0 S ((d, .bool (b != c)) :: fs) is rest) : GS P T sf al ks K N w0 S fs is (⟨some d, .binOp .neq xt x y yt, ty, pos, aft, none⟩ :: rest) :=
  s_val rfl hd (fun a w hk _ _ => by
    simp only [execOp, hk.eval hx, hk.eval hy, eqGuard_at_bool]
    rw [binOp_neq' _ _ _ (by simp)]
    simp [run_eqB hu.u]; cases b <;> cases c <;> rfl) nx

theorem s_eqBT {b c : Bool} [hu : TO P xt] (hx : opv fs x = some (.bool b)) (hy : opv fs y = some (.bool c)) (hbc : b = c) (hd : Nat.blt d N.n = true)
    (nx : GS P T sf al ks K N w0 S ((d, .bool true) :: fs) is rest) : GS P T sf al ks K N w0 S fs is (⟨some d, .binOp .eql xt x y yt, ty, pos, aft, none⟩ :: rest) :=
  s_eqB hx hy hd (by rw [show (b == c) = true by simp [hbc]]; exact nx)
theorem s_neBF {b c : Bool} [hu : TO P xt] (hx : opv fs x = some (.bool b)) (hy : opv fs y = some (.bool c)) (hbc : b = c) (hd : Nat.blt d N.n = true)
    (nx : GS P T sf al ks K N w0 S ((d, .bool false) :: fs) is rest) : GS P T sf al ks K N w0 S fs is (⟨some d, .binOp .neq xt x y yt, ty, pos, aft, none⟩ :: rest) :=
  s_neB hx hy hd (by rw [show (b != c) = false by simp [hbc]]; exact nx)

/-! builtins that only reckon -/
theorem s_lenS {p : Option Addr} {l c : Nat} {t e : TypeId} [h1 : TS P t e] (hx : opv fs x = some (.slice p l c)) (hd : Nat.blt d N.n = true)
    (nx : GS P T sf al ks K N w0 S ((d, .int .i64 l) :: fs) is rest) : GS P T sf al ks K N w0 S fs is (⟨some d, .call { callee := .builtin .len, args := #[x], argTypes := #[t] }, ty, pos, aft, none⟩ :: rest) :=
  s_val rfl hd (fun a w hk _ _ => by simp [execOp, resolve, invoke, builtin, hk.eval hx, Builtin.len_, run_underlying h1.u, goInt]) nx
theorem s_lenA {l e : Nat} {t : TypeId} [h1 : TA P t l e] (hx : opv fs x = some v) (hd : Nat.blt d N.n = true)
    (nx : GS P T sf al ks K N w0 S ((d, .int .i64 l) :: fs) is rest) : GS P T sf al ks K N w0 S fs is (⟨some d, .call { callee := .builtin .len, args := #[x], argTypes := #[t] }, ty, pos, aft, none⟩ :: rest) :=
  s_val rfl hd (fun a w hk _ _ => by simp [execOp, resolve, invoke, builtin, hk.eval hx, Builtin.len_, run_underlying h1.u, goInt]) nx
def maxL (x : Int) (l : List Int) : Int := l.foldl (fun a b => if b > a then b else a) x
def minL (x : Int) (l : List Int) : Int := l.foldl (fun a b => if b < a then b else a) x
theorem run_maxL {P : Program} (k : IntKind) (w : World) : ∀ (l : List Int) (x : Int), ((l.map (Value.int k)).foldlM Builtin.max2 (.int k x)).run P w = .ok (.int k (maxL x l)) w
  | [], x => by simp [maxL]
  | y :: l, x => by
    simp only [List.map_cons, List.foldlM_cons, Builtin.max2]
    have := run_maxL (P := P) k w l (if y > x then y else x)
    simpa [maxL] using this
theorem run_minL {P : Program} (k : IntKind) (w : World) : ∀ (l : List Int) (x : Int), ((l.map (Value.int k)).foldlM Builtin.min2 (.int k x)).run P w = .ok (.int k (minL x l)) w
  | [], x => by simp [minL]
  | y :: l, x => by
    simp only [List.map_cons, List.foldlM_cons, Builtin.min2]
    have := run_minL (P := P) k w l (if y < x then y else x)
    simpa [minL] using this
theorem s_max2 {ts : Array TypeId} (hx : opv fs x = some (.int k m)) (hy : opv fs y = some (.int k n)) (hd : Nat.blt d N.n = true)
    (nx : GS P T sf al ks K N w0 S ((d, .int k (max m n)) :: fs) is rest) : GS P T sf al ks K N w0 S fs is (⟨some d, .call { callee := .builtin .max, args := #[x, y], argTypes := ts }, ty, pos, aft, none⟩ :: rest) :=
  s_val rfl hd (fun a w hk _ _ => by
    have e : (if m < n then n else m) = max m n := by omega
    simp [execOp, resolve, invoke, builtin, hk.eval hx, hk.eval hy, Builtin.max_, Builtin.max2, e]) nx
theorem s_min2 {ts : Array TypeId} (hx : opv fs x = some (.int k m)) (hy : opv fs y = some (.int k n)) (hd : Nat.blt d N.n = true)
    (nx : GS P T sf al ks K N w0 S ((d, .int k (min m n)) :: fs) is rest) : GS P T sf al ks K N w0 S fs is (⟨some d, .call { callee := .builtin .min, args := #[x, y], argTypes := ts }, ty, pos, aft, none⟩ :: rest) :=
  s_val rfl hd (fun a w hk _ _ => by
    have e : (if n < m then n else m) = min m n := by omega
    simp [execOp, resolve, invoke, builtin, hk.eval hx, hk.eval hy, Builtin.min_, Builtin.min2, e]) nx
theorem s_max3 {ts : Array TypeId} {z : Operand} {q : Int} (hx : opv fs x = some (.int k m)) (hy : opv fs y = some (.int k n)) (hz : opv fs z = some (.int k q)) (hd : Nat.blt d N.n = true)
    (nx : GS P T sf al ks K N w0 S ((d, .int k (max (max m n) q)) :: fs) is rest) : GS P T sf al ks K N w0 S fs is (⟨some d, .call { callee := .builtin .max, args := #[x, y, z], argTypes := ts }, ty, pos, aft, none⟩ :: rest) :=
  s_val rfl hd (fun a w hk _ _ => by
    have e : (if m < n then n else m) = max m n := by omega
    have e2 : (if max m n < q then q else max m n) = max (max m n) q := by omega
    simp [execOp, resolve, invoke, builtin, hk.eval hx, hk.eval hy, hk.eval hz, Builtin.max_, Builtin.max2, e, e2]) nx

/-! memory -/
theorem s_load {t e : TypeId} {agg : Bool} {sz b off : Nat} {cs : List Value} [TL P t agg sz] (hx : opv fs x = some (.pointer (some ⟨b, off, none⟩)))
    (hh : (sf ⟨some d, .load t x, ty, pos, aft, none⟩ = false ∧ At is (blk e b cs)) ∨ At ks (blk e b cs)) (hv : rdv agg sz cs off = some v) (hd : Nat.blt d N.n = true)
    (nx : GS P T sf al ks K N w0 S ((d, v) :: fs) is rest) : GS P T sf al ks K N w0 S fs is (⟨some d, .load t x, ty, pos, aft, none⟩ :: rest) :=
  s_val rfl hd (fun a w hk hc hs => by
    have hw : (blk e b cs).holds w := by
      rcases hh with ⟨h1, h2⟩ | h2
      · rcases hs with hs | hs
        · rw [h1] at hs; cases hs
        · exact hs.holds _ h2.mem
      · exact hc.holds _ h2.mem
    simp [execOp, hk.eval hx, Instr.loadAt, Instr.sureAddr, run_loadVar_blk (P := P) (t := t) hw hv]) nx
/-- A cell that was there when the call began. -/
theorem s_loadO {t : TypeId} {sz : Nat} {p : Addr} [TL P t false sz] (hx : opv fs x = some (.pointer (some p))) (hp : w0.cell? p = some v) (hS : p.block ∉ S) (hd : Nat.blt d N.n = true)
    (nx : GS P T sf al ks K N w0 S ((d, v) :: fs) is rest) : GS P T sf al ks K N w0 S fs is (⟨some d, .load t x, ty, pos, aft, none⟩ :: rest) :=
  s_val rfl hd (fun a w hk hc hs => by
    have hw := hc.old hp hS
    simp [execOp, hk.eval hx, Instr.loadAt, Instr.sureAddr, loadVar, TL.isAgg (P := P) (t := t), hw]) nx
/-- Several cells that were there. -/
theorem s_loadOA {t : TypeId} {b off : Nat} {vs : List Value} [TL P t true vs.length] (hx : opv fs x = some (.pointer (some ⟨b, off, none⟩))) (hp : ∀ j u, vs[j]? = some u → w0.cell? ⟨b, off + j, none⟩ = some u) (hS : b ∉ S) (hd : Nat.blt d N.n = true)
    (nx : GS P T sf al ks K N w0 S ((d, .agg vs.toArray) :: fs) is rest) : GS P T sf al ks K N w0 S fs is (⟨some d, .load t x, ty, pos, aft, none⟩ :: rest) :=
  s_val rfl hd (fun a w hk hc hs => by
    have := run_loadCells_list (P := P) w ⟨b, off, none⟩ vs (fun j u hu => by rw [Addr.add_lit]; exact hc.old (hp j u hu) hS)
    simp [execOp, hk.eval hx, Instr.loadAt, Instr.sureAddr, loadVar, TL.isAgg (P := P) (t := t), TL.sizeOf (P := P) (t := t), this]) nx

theorem s_alloc {t : TypeId} {z : List Value} [TZ P t z] (hs : sf ⟨some d, .alloc t, ty, pos, aft, none⟩ = false) (hks : ks.Sublist is) (hd : Nat.blt d N.n = true)
    (nx : ∀ b, GS P T sf al ks K N w0 S ((d, .pointer (some ⟨b, 0, none⟩)) :: fs) (blk t b z :: is) rest) : GS P T sf al ks K N w0 S fs is (⟨some d, .alloc t, ty, pos, aft, none⟩ :: rest) :=
  s_new none rfl hd hs (fun a w hk => by
    obtain ⟨u, hu, hc⟩ := TZ.run (P := P) (t := t) w
    simp [execOp, Instr.alloc, hu, newVar, newRow, newObj, hc]; rfl) hks nx
theorem s_box {t : TypeId} {cs : List Value} (hx : opv fs x = some v) (hc : v.cells = cs.toArray) (hs : sf ⟨some d, .box t x, ty, pos, aft, none⟩ = false) (hks : ks.Sublist is) (hd : Nat.blt d N.n = true)
    (nx : ∀ b, GS P T sf al ks K N w0 S ((d, .pointer (some ⟨b, 0, none⟩)) :: fs) (blk t b cs :: is) rest) : GS P T sf al ks K N w0 S fs is (⟨some d, .box t x, ty, pos, aft, none⟩ :: rest) :=
  s_new none rfl hd hs (fun a w hk => by
    simp [execOp, Instr.box, hk.eval hx, newVar, newRow, newObj, hc]; rfl) hks nx

theorem s_storeV {t e : TypeId} {agg : Bool} {sz b off : Nat} {cs vs cs' : List Value} {is' : List Itm} [TL P t agg sz] {dd : Option Tmp} (hx : opv fs x = some (.pointer (some ⟨b, off, none⟩))) (hy : opv fs y = some v)
    (hv : v.cells = vs.toArray) (hsz : vs.length = sz) (h1' : vs.all Value.oneCell' = true) (hle : off + vs.length ≤ cs.length) (hcs : splice cs off vs = cs')
    (hu : Upd is (blk e b cs) (blk e b cs') is') (hs : sf ⟨none, .store t x y, ty, pos, aft, none⟩ = false) (hks : ks.Sublist is')
    (nx : GS P T sf al ks K N w0 S fs is' rest) : GS P T sf al ks K N w0 S fs is (⟨none, .store t x y, ty, pos, aft, none⟩ :: rest) :=
  s_eff (V := Unit) (val := fun _ => undef) (its := fun _ => is') rfl rfl hs (fun w1 S1 a w hk hl hl1 => by
    have h1 : ∀ u ∈ vs, u.oneCell' = true := by simpa using h1'
    subst hcs
    obtain ⟨n, h3, rfl⟩ := hu.set
    have hw := hl.holds _ (List.mem_of_getElem? h3)
    obtain ⟨w', hr, hh, ho, ht, hout, hsize, hsame⟩ := run_storeVar_blk (P := P) (t := t) hw hv hsz h1 hle
    refine ⟨(), w', .inr ⟨?_, rfl⟩, hl1.set h3 ho ht hout (by omega) (fun k hk hki => hsame k (fun e => hki (by rw [e]; exact .head _))) _ hh (fun k hk => .inl hk)⟩
    simp [execOp, hk.eval hx, hk.eval hy, Instr.storeAt, Instr.sureAddr, hr]) (fun _ => hks) (fun _ => nx)
theorem s_store1 {t e : TypeId} {agg : Bool} {b off : Nat} {cs cs' : List Value} {is' : List Itm} [TL P t agg 1] (hx : opv fs x = some (.pointer (some ⟨b, off, none⟩))) (hy : opv fs y = some v)
    (hv : v.cells = #[v]) (h1 : v.oneCell' = true) (hu : Upd is (blk e b cs) (blk e b cs') is') (hle : SetL cs off v cs')
    (hs : sf ⟨none, .store t x y, ty, pos, aft, none⟩ = false) (hks : ks.Sublist is')
    (nx : GS P T sf al ks K N w0 S fs is' rest) : GS P T sf al ks K N w0 S fs is (⟨none, .store t x y, ty, pos, aft, none⟩ :: rest) :=
  have hlt := hle.eq.1
  have hcs := hle.eq.2
  s_storeV (vs := [v]) (dd := none) hx hy hv rfl (by simp [h1]) (by simp; omega) (by rw [splice_one _ _ _ hlt, hcs]) hu hs hks nx
/-- The whole of a block. -/
theorem s_storeW {t e : TypeId} {agg : Bool} {sz b : Nat} {cs vs : List Value} {is' : List Itm} [TL P t agg sz] (hx : opv fs x = some (.pointer (some ⟨b, 0, none⟩))) (hy : opv fs y = some v)
    (hv : v.cells = vs.toArray) (hsz : vs.length = sz) (h1 : vs.all Value.oneCell' = true) (hu : Upd is (blk e b cs) (blk e b vs) is') (hlen : cs.length = vs.length)
    (hs : sf ⟨none, .store t x y, ty, pos, aft, none⟩ = false) (hks : ks.Sublist is')
    (nx : GS P T sf al ks K N w0 S fs is' rest) : GS P T sf al ks K N w0 S fs is (⟨none, .store t x y, ty, pos, aft, none⟩ :: rest) :=
  s_storeV (vs := vs) (dd := none) hx hy hv hsz h1 (by omega) (by simp [splice, hlen]) hu hs hks nx

theorem s_fieldAddr {t ft : TypeId} {f off sz b o o' : Nat} {agg : Bool} [h1 : TF P t f off ft] [h2 : TL P ft agg sz] (hz : Nat.beq sz 0 = false) (hx : opv fs x = some (.pointer (some ⟨b, o, none⟩))) (ho : o + off = o') (hd : Nat.blt d N.n = true)
    (nx : GS P T sf al ks K N w0 S ((d, .pointer (some ⟨b, o', none⟩)) :: fs) is rest) : GS P T sf al ks K N w0 S fs is (⟨some d, .fieldAddr t x f, ty, pos, aft, none⟩ :: rest) :=
  s_val rfl hd (fun a w hk _ _ => by
    subst ho
    obtain ⟨fl, z, hu, hz', ho, ht⟩ := h1.run
    subst ho
    have hne : ¬ sz = 0 := by intro e; subst e; simp at hz
    have hsz := TL.sizeOf (P := P) (t := ft) w
    rw [← ht] at hsz
    simp [execOp, hk.eval hx, Instr.fieldAt, run_underlying hu, hz', Instr.sureAddr, fieldPlace, hsz, hne, Addr.add_lit]) nx
theorem s_field {t ft : TypeId} {f off sz : Nat} {agg : Bool} {cs : List Value} [h1 : TF P t f off ft] [h2 : TL P ft agg sz] (hx : opv fs x = some (.agg cs.toArray)) (hv : rdv agg sz cs off = some v) (hd : Nat.blt d N.n = true)
    (nx : GS P T sf al ks K N w0 S ((d, v) :: fs) is rest) : GS P T sf al ks K N w0 S fs is (⟨some d, .field t x f, ty, pos, aft, none⟩ :: rest) :=
  s_val rfl hd (fun a w hk _ _ => by
    obtain ⟨fl, z, hu, hz', ho, ht⟩ := h1.run
    subst ho
    have hp := run_part (P := P) (t := ft) hv w
    rw [← ht] at hp
    simp [execOp, hk.eval hx, Instr.field, run_underlying hu, hz', asAgg, hp]) nx
theorem s_index {t e : TypeId} {len sz o' : Nat} {agg : Bool} {cs : List Value} {i : Int} [h1 : TA P t len e] [h2 : TL P e agg sz] (hx : opv fs x = some (.agg cs.toArray)) (hy : opv fs y = some (.int k i)) (hi : 0 ≤ i ∧ i < len)
    (ho : i.toNat * sz = o') (hv : rdv agg sz cs o' = some v) (hd : Nat.blt d N.n = true)
    (nx : GS P T sf al ks K N w0 S ((d, v) :: fs) is rest) : GS P T sf al ks K N w0 S fs is (⟨some d, .index t x y, ty, pos, aft, none⟩ :: rest) :=
  s_val rfl hd (fun a w hk _ _ => by
    subst ho
    have hp := run_part (P := P) (t := e) hv w
    simp [execOp, hk.eval hx, hk.eval hy, Instr.index, asIntOf, run_underlying h1.u, hi.1, hi.2, TL.sizeOf (P := P) (t := e), hp]) nx
theorem s_indexAddrA {t e : TypeId} {o' len sz b o : Nat} {agg : Bool} {i : Int} [h1 : TA P t len e] [h2 : TL P e agg sz] (hx : opv fs x = some (.pointer (some ⟨b, o, none⟩))) (hy : opv fs y = some (.int k i)) (hi : 0 ≤ i ∧ i < len) (ho : o + i.toNat * sz = o') (hd : Nat.blt d N.n = true)
    (nx : GS P T sf al ks K N w0 S ((d, .pointer (some ⟨b, o', none⟩)) :: fs) is rest) : GS P T sf al ks K N w0 S fs is (⟨some d, .indexAddr t x y, ty, pos, aft, none⟩ :: rest) :=
  s_val rfl hd (fun a w hk _ _ => by
    subst ho
    simp [execOp, hk.eval hx, hk.eval hy, Instr.indexAt, asIntOf, run_underlying h1.u, Instr.sureAddr, hi.1, hi.2, TL.sizeOf (P := P) (t := e), Addr.add_lit]) nx
theorem s_indexAddrS {t e : TypeId} {o' len cap sz b o : Nat} {agg : Bool} {i : Int} [h1 : TS P t e] [h2 : TL P e agg sz] (hx : opv fs x = some (.slice (some ⟨b, o, none⟩) len cap)) (hy : opv fs y = some (.int k i)) (hi : 0 ≤ i ∧ i < len) (ho : o + i.toNat * sz = o') (hd : Nat.blt d N.n = true)
    (nx : GS P T sf al ks K N w0 S ((d, .pointer (some ⟨b, o', none⟩)) :: fs) is rest) : GS P T sf al ks K N w0 S fs is (⟨some d, .indexAddr t x y, ty, pos, aft, none⟩ :: rest) :=
  s_val rfl hd (fun a w hk _ _ => by
    subst ho
    simp [execOp, hk.eval hx, hk.eval hy, Instr.indexAt, asIntOf, run_underlying h1.u, hi.1, hi.2, TL.sizeOf (P := P) (t := e), Addr.add_lit]) nx

/-! calls -/
/-- A call that gives v and leaves alone what was there. -/
def Ret (P : Program) (f : FuncId) (args : List Value) (w : World) (v : Value) : Prop := Calls P f args.toArray w fun e w' => e = .returned v ∧ Loc w [] [] w'
/-- A call that may write the blocks M, and gives what R says. -/
def RetM (P : Program) (f : FuncId) (args : List Value) (w : World) (M : List Nat) (R : Value → List Itm → Prop) : Prop := Calls P f args.toArray w fun e w' => ∃ v its, e = .returned v ∧ R v its ∧ Loc w M its w'

theorem s_callM {dd : Option Tmp} {x : Operand} {F : FuncId} {first captured args : List Value} {xs : List Operand} {ts : Array TypeId} {M : List Nat} {R : Value → List Itm → Prop} {cons keep : List Itm} [hF : CF P F]
    (hx : opv fs x = some (.func (.func F) first.toArray captured.toArray)) (ha : opvs fs xs = some args)
    (hr : ∀ w, Loc w0 S is w → RetM P F (first ++ args ++ captured) w M R) (hsp : Split is cons keep) (hM : ∀ k ∈ M, ∃ i ∈ cons, k ∈ i.foot)
    (hs : sf ⟨dd, .call { callee := .value x, args := xs.toArray, argTypes := ts }, ty, pos, aft, none⟩ = false) (hks : ks.Sublist keep) (hd : dOK N dd = true)
    (nx : ∀ v its, R v its → GS P T sf al ks K N w0 S (pushd dd v fs) (its ++ keep) rest) : GS P T sf al ks K N w0 S fs is (⟨dd, .call { callee := .value x, args := xs.toArray, argTypes := ts }, ty, pos, aft, none⟩ :: rest) := by
  refine ⟨fun G a w hk hl hc => ?_⟩
  unfold wpX
  rw [if_pos (show wantT T a _ = true by rfl), if_neg (by simp [hs]), if_neg (by rw [AlC.ok (al := al) (⟨dd, .call { callee := .value x, args := xs.toArray, argTypes := ts }, ty, pos, aft, none⟩ : Oper) rfl]; exact Bool.false_ne_true)]
  intro w' G' hext
  have hl := hl.ext hext
  have hrun : (execOp a.eval (⟨dd, .call { callee := .value x, args := xs.toArray, argTypes := ts }, ty, pos, aft, none⟩ : Oper)).run P w' = .ok (.enter F (first ++ args ++ captured).toArray) w' := by
    have he := hk.evals ha
    have := hF.c (first ++ args ++ captured).toArray w'
    simp only [execOp, resolve, Deferred.ofValue, hk.eval hx, invoke, Sem.run_bind, Sem.run_pure, Result.andThen_ok, List.map_toArray, he]
    simpa using this
  unfold wpN
  rw [hrun]
  refine Calls.mono (hr w' hl.unfl) fun e w2 ⟨v, its, he, hR, hl'⟩ => ?_
  subst he
  have hl2 : Loc w0 S (flI G' ++ (its ++ keep)) w2 := (hl.call (hsp.pre (flI G')) hM hl').perm (by
    rw [← List.append_assoc, ← List.append_assoc]; exact List.perm_append_comm.append_right _)
  have hsub : ks.Sublist (its ++ keep) := hks.trans (List.sublist_append_right _ _)
  exact ⟨hl2.subfl hsub, (nx v its hR).go G' _ w2 (hk.put hd v) hl2 (hl2.subfl hsub)⟩
theorem s_call {dd : Option Tmp} {x : Operand} {F : FuncId} {first captured args : List Value} {xs : List Operand} {ts : Array TypeId} [hF : CF P F]
    (hx : opv fs x = some (.func (.func F) first.toArray captured.toArray)) (ha : opvs fs xs = some args)
    (hr : ∀ w, Loc w0 S is w → Ret P F (first ++ args ++ captured) w v)
    (hs : sf ⟨dd, .call { callee := .value x, args := xs.toArray, argTypes := ts }, ty, pos, aft, none⟩ = false) (hks : ks.Sublist is) (hd : dOK N dd = true)
    (nx : GS P T sf al ks K N w0 S (pushd dd v fs) is rest) : GS P T sf al ks K N w0 S fs is (⟨dd, .call { callee := .value x, args := xs.toArray, argTypes := ts }, ty, pos, aft, none⟩ :: rest) :=
  s_callM (M := []) (R := fun u its => u = v ∧ its = []) hx ha (fun w hl => Calls.mono (hr w hl) fun e w' ⟨h1, h2⟩ => ⟨v, [], h1, ⟨rfl, rfl⟩, h2⟩) (Split.all is) (fun _ h => by cases h) hs hks hd
    (fun u its ⟨h1, h2⟩ => by subst h1; subst h2; exact nx)
end
end Go.Proofs.YtihboegopigkmaaDoor
