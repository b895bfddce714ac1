/- Equality of structs and arrays whose parts are integers and bools, cell by cell. -/
import Derived.Test.YtihboegopigkmaaDoorSp
import Derived.Laws.StructEq
namespace Go.Proofs.YtihboegopigkmaaDoor
set_option linter.unusedSimpArgs false
set_option linter.unusedVariables false
set_option linter.unnecessarySimpa false
set_option linter.unusedSectionVars false
open Go.RowKit

/-- The kind of a cell. -/
inductive SK
  | i (k : IntKind)
  | b
def skV : SK → Value → Bool
  | .i k, .int k' _ => decide (k = k')
  | .b, .bool _ => true
  | _, _ => false
def skB : List SK → List Value → Bool
  | [], [] => true
  | k :: ks, v :: vs => skV k v && skB ks vs
  | _, _ => false
def eqV : Value → Value → Bool
  | .int _ a, .int _ b => decide (a = b)
  | .bool a, .bool b => a == b
  | _, _ => false
def eqC : List Value → List Value → Bool
  | [], [] => true
  | x :: xs, y :: ys => eqV x y && eqC xs ys
  | _, _ => false

theorem skB_len {ks : List SK} {vs : List Value} (h : skB ks vs = true) : vs.length = ks.length := by
  induction ks generalizing vs with
  | nil => cases vs with
    | nil => rfl
    | cons v vs => cases h
  | cons k ks ih => cases vs with
    | nil => cases h
    | cons v vs => simp only [skB, Bool.and_eq_true] at h; simp [ih h.2]
theorem skB_take {ks1 ks2 : List SK} {vs : List Value} (h : skB (ks1 ++ ks2) vs = true) : skB ks1 (vs.take ks1.length) = true ∧ skB ks2 (vs.drop ks1.length) = true := by
  induction ks1 generalizing vs with
  | nil => exact ⟨rfl, h⟩
  | cons k ks ih => cases vs with
    | nil => cases h
    | cons v vs =>
      simp only [List.cons_append, skB, Bool.and_eq_true] at h
      have := ih h.2
      simp [skB, h.1, this]
theorem skB_app {ks1 ks2 : List SK} {v1 v2 : List Value} (h1 : skB ks1 v1 = true) (h2 : skB ks2 v2 = true) : skB (ks1 ++ ks2) (v1 ++ v2) = true := by
  induction ks1 generalizing v1 with
  | nil => cases v1 with
    | nil => exact h2
    | cons v vs => cases h1
  | cons k ks ih => cases v1 with
    | nil => cases h1
    | cons v vs =>
      simp only [skB, Bool.and_eq_true] at h1
      simp [skB, h1.1, ih h1.2]
theorem eqV_iff {k : SK} {x y : Value} (hx : skV k x = true) (hy : skV k y = true) : eqV x y = true ↔ x = y := by
  cases k with
  | i k =>
    cases x <;> simp only [skV] at hx <;> first | (cases hx; done) | skip
    cases y <;> simp only [skV] at hy <;> first | (cases hy; done) | skip
    have h1 := of_decide_eq_true hx
    have h2 := of_decide_eq_true hy
    subst h1
    subst h2
    simp [eqV]
  | b =>
    cases x <;> simp only [skV] at hx <;> first | (cases hx; done) | skip
    cases y <;> simp only [skV] at hy <;> first | (cases hy; done) | skip
    simp [eqV]
theorem eqC_iff : ∀ {ks : List SK} {xs ys : List Value}, skB ks xs = true → skB ks ys = true → (eqC xs ys = true ↔ xs = ys)
  | [], xs, ys, hx, hy => by
    cases xs with
    | cons => cases hx
    | nil => cases ys with
      | cons => cases hy
      | nil => simp [eqC]
  | k :: ks, xs, ys, hx, hy => by
    cases xs with
    | nil => cases hx
    | cons x xs => cases ys with
      | nil => cases hy
      | cons y ys =>
        simp only [skB, Bool.and_eq_true] at hx hy
        simp [eqC, eqV_iff hx.1 hy.1, eqC_iff hx.2 hy.2]
theorem eqC_refl {ks : List SK} {xs : List Value} (h : skB ks xs = true) : eqC xs xs = true := (eqC_iff h h).2 rfl
theorem eqC_app {a1 a2 b1 b2 : List Value} (h : a1.length = b1.length) : eqC (a1 ++ a2) (b1 ++ b2) = (eqC a1 b1 && eqC a2 b2) := by
  induction a1 generalizing b1 with
  | nil => cases b1 with
    | nil => simp [eqC]
    | cons => simp at h
  | cons x xs ih => cases b1 with
    | nil => simp at h
    | cons y ys => simp [eqC, ih (by simpa using h), Bool.and_assoc]
theorem eqC_split (xs ys : List Value) (n : Nat) (h : xs.length = ys.length) : eqC xs ys = (eqC (xs.take n) (ys.take n) && eqC (xs.drop n) (ys.drop n)) := by
  have := eqC_app (a1 := xs.take n) (a2 := xs.drop n) (b1 := ys.take n) (b2 := ys.drop n) (by simp [h])
  simpa using this

def asV (agg : Bool) (xs : List Value) : Value :=
  match agg with
  | true => .agg xs.toArray
  | false => xs.headD undef

/-- Equality at type t is cell by cell. -/
structure EqT (P : Program) (d : Nat) (t : TypeId) (agg : Bool) (ks : List SK) : Prop where
  tl : TL P t agg ks.length
  one : agg = false → ks.length = 1
  e : ∀ D, d ≤ D → ∀ (xs ys : List Value) (w : World), skB ks xs = true → skB ks ys = true → (Op.equalIn D t (asV agg xs) (asV agg ys)).run P w = .ok (eqC xs ys) w

section
variable {P : Program}
theorem EqT.part {d : Nat} {t : TypeId} {agg : Bool} {ks : List SK} (h : EqT P d t agg ks) (xs : List Value) (off : Nat) (hle : off + ks.length ≤ xs.length) (w : World) :
    (part t xs.toArray off).run P w = .ok (asV agg ((xs.drop off).take ks.length)) w := by
  have := h.tl
  refine run_part (P := P) (t := t) ?_ w
  cases agg with
  | true => simp only [rdv, if_pos hle, asV]
  | false =>
    have h1 := h.one rfl
    rw [h1] at hle ⊢
    simp only [rdv, asV]
    rw [List.getElem?_eq_getElem (by omega)]
    congr 1
    rw [List.take_one]
    simp [List.head?_drop, List.getElem?_eq_getElem (show off < xs.length by omega)]

theorem eqt_int {t : TypeId} {k : IntKind} (h : P.underlying t = some (.int k)) (hl : TL P t false 1) : EqT P 1 t false [.i k] :=
  ⟨hl, fun _ => rfl, fun D hD xs ys w hx hy => by
    obtain ⟨D, rfl⟩ : ∃ n, D = n + 1 := ⟨D - 1, by omega⟩
    obtain ⟨x, rfl⟩ := List.length_eq_one_iff.1 (skB_len hx)
    obtain ⟨y, rfl⟩ := List.length_eq_one_iff.1 (skB_len hy)
    · simp only [skB, Bool.and_true] at hx hy
      cases x <;> simp only [skV] at hx <;> first | (cases hx; done) | skip
      cases y <;> simp only [skV] at hy <;> first | (cases hy; done) | skip
      have h1 := of_decide_eq_true hx
      have h2 := of_decide_eq_true hy
      subst h1
      subst h2
      simp only [asV, List.headD_cons, run_equalIn_int w D t _ _ _ _ h]
      simp [eqC, eqV]; rfl⟩
theorem eqt_bool {t : TypeId} (h : P.underlying t = some .bool) (hl : TL P t false 1) : EqT P 1 t false [.b] :=
  ⟨hl, fun _ => rfl, fun D hD xs ys w hx hy => by
    obtain ⟨D, rfl⟩ : ∃ n, D = n + 1 := ⟨D - 1, by omega⟩
    obtain ⟨x, rfl⟩ := List.length_eq_one_iff.1 (skB_len hx)
    obtain ⟨y, rfl⟩ := List.length_eq_one_iff.1 (skB_len hy)
    · simp only [skB, Bool.and_true] at hx hy
      cases x <;> simp only [skV] at hx <;> first | (cases hx; done) | skip
      cases y <;> simp only [skV] at hy <;> first | (cases hy; done) | skip
      simp only [asV, List.headD_cons, run_equalIn_bool' w D t _ _ h]
      simp [eqC, eqV]⟩

/-- The fields of a struct, one behind another. -/
inductive FldOK (P : Program) (d : Nat) : Nat → List Field → List SK → Prop
  | nil {off} : FldOK P d off [] []
  | cons {off off' f fs agg ks1 ks2 d'} : f.name ≠ "_" → f.offset = off → EqT P d' f.type agg ks1 → d' ≤ d → off + ks1.length = off' → FldOK P d off' fs ks2 → FldOK P d off (f :: fs) (ks1 ++ ks2)
theorem FldOK.run {d off : Nat} {fs : List Field} {ks : List SK} (h : FldOK P d off fs ks) (D : Nat) (hD : d ≤ D) (xs ys : List Value) (w : World) (hx : skB ks (xs.drop off) = true) (hy : skB ks (ys.drop off) = true) (hox : off ≤ xs.length) (hoy : off ≤ ys.length) :
    (Op.eqFields D xs.toArray ys.toArray fs).run P w = .ok (eqC (xs.drop off) (ys.drop off)) w := by
  induction h with
  | nil =>
    have h1 := skB_len hx
    have h2 := skB_len hy
    simp only [Op.eqFields]
    rw [List.eq_nil_of_length_eq_zero h1, List.eq_nil_of_length_eq_zero h2]
    rfl
  | @cons off off' f fs agg ks1 ks2 d' h1 h2 h3 h4 h5 _ ih =>
    subst h2
    subst h5
    have lx := skB_len hx
    have ly := skB_len hy
    simp at lx ly
    obtain ⟨ax, bx⟩ := skB_take hx
    obtain ⟨ay, by_⟩ := skB_take hy
    rw [List.drop_drop] at bx by_
    have e1 := h3.part xs f.offset (by omega) w
    have e2 := h3.part ys f.offset (by omega) w
    have e3 := h3.e D (by omega) _ _ w ax ay
    simp only [Op.eqFields, ne_eq, h1, not_false_eq_true, if_true, Sem.run_bind, e1, e2, e3, Result.andThen_ok]
    have hs := eqC_split (xs.drop f.offset) (ys.drop f.offset) ks1.length (by simp; omega)
    rw [List.drop_drop, List.drop_drop] at hs
    rw [hs]
    cases hb : eqC ((xs.drop f.offset).take ks1.length) ((ys.drop f.offset).take ks1.length) with
    | false => simp
    | true =>
      simp only [Bool.not_true, Bool.false_eq_true, if_false, Bool.true_and]
      exact ih bx by_ (by omega) (by omega)
theorem eqt_struct {t : TypeId} {fs : List Field} {ks : List SK} {d : Nat} (h : P.underlying t = some (.struct fs.toArray)) (hp : P.stoodInHeld t = false) (hl : TL P t true ks.length) (hf : FldOK P d 0 fs ks) : EqT P (d + 1) t true ks :=
  ⟨hl, (fun h => by cases h), fun D hD xs ys w hx hy => by
    obtain ⟨D, rfl⟩ : ∃ n, D = n + 1 := ⟨D - 1, by omega⟩
    have hfo : P.fieldsOf t = fs.toArray := by simp [Program.fieldsOf, h]
    simp only [asV]
    rw [run_equalIn_struct w D t _ _ (by rw [hfo]; exact h) hp, hfo]
    have := hf.run D (by omega) xs ys w (by simpa using hx) (by simpa using hy) (Nat.zero_le _) (Nat.zero_le _)
    simpa using this⟩

def fldsOf (P : Program) (t : TypeId) : Option (List (Bool × Nat × TypeId)) :=
  match P.underlying t with
  | some (.struct fs) => some (fs.toList.map fun f => (f.name != "_", f.offset, f.type))
  | _ => none
inductive FldL (P : Program) (d : Nat) : Nat → List (Bool × Nat × TypeId) → List SK → Prop
  | nil {off} : FldL P d off [] []
  | cons {off off' ft L agg ks1 ks2 ks d'} : EqT P d' ft agg ks1 → d' ≤ d → off + ks1.length = off' → ks1 ++ ks2 = ks → FldL P d off' L ks2 → FldL P d off ((true, off, ft) :: L) ks
theorem FldL.ok {d off : Nat} {L : List (Bool × Nat × TypeId)} {ks : List SK} (h : FldL P d off L ks) : ∀ fs : List Field, fs.map (fun f => (f.name != "_", f.offset, f.type)) = L → FldOK P d off fs ks := by
  induction h with
  | nil => intro fs h; simp at h; subst h; exact .nil
  | cons h1 h2 h3 h4 _ ih =>
    intro fs h
    cases fs with
    | nil => simp at h
    | cons f fs =>
      simp only [List.map_cons, List.cons.injEq, Prod.mk.injEq] at h
      obtain ⟨⟨e1, e2, e3⟩, e4⟩ := h
      subst h4
      subst e3
      exact .cons (by simpa using e1) e2 h1 h2 h3 (ih fs e4)
theorem eqt_structL {t : TypeId} {L : List (Bool × Nat × TypeId)} {ks : List SK} {d : Nat} (h : fldsOf P t = some L) (hp : P.stoodInHeld t = false) (hl : TL P t true ks.length) (hf : FldL P d 0 L ks) : EqT P (d + 1) t true ks := by
  unfold fldsOf at h
  cases hu : P.underlying t with
  | none => simp [hu] at h
  | some D =>
    cases D <;> simp [hu] at h
    rename_i fs
    exact eqt_struct (fs := fs.toList) (by simpa using hu) hp hl (hf.ok _ h)

def eqElems (d : Nat) (e : TypeId) (sz : Nat) (xs ys : Array Value) : List Nat → Sem Bool
  | [] => pure true
  | i :: l => do
    let a ← part e xs (i * sz)
    let b ← part e ys (i * sz)
    let r ← Op.equalIn d e a b
    if (!r) = true then pure false else eqElems d e sz xs ys l
theorem run_equalIn_array (w : World) (d : Nat) (t e : TypeId) (n sz : Nat) (xs ys : Array Value) (ht : P.underlying t = some (.array n e)) (hs : (P.info? e).map (·.size) = some sz) :
    (Op.equalIn (d + 1) t (.agg xs) (.agg ys)).run P w = (eqElems d e sz xs ys (List.range n)).run P w := by
  have hsz : ∀ w, (sizeOf e).run P w = .ok sz w := fun w => by
    cases hi : P.info? e with
    | none => simp [hi] at hs
    | some i => simp [hi] at hs; simp [sizeOf, typeInfo, hi, hs]
  simp only [Op.equalIn, Sem.run_bind, run_underlying ht, Result.andThen_ok, hsz]
  rw [Std.Legacy.Range.forIn_eq_forIn_range']
  simp only [Std.Legacy.Range.size, Nat.sub_zero, Nat.add_sub_cancel, Nat.div_one]
  rw [List.range_eq_range']
  generalize List.range' 0 n = l
  induction l generalizing w with
  | nil => simp [eqElems]
  | cons i l ih =>
    simp only [List.forIn_cons, eqElems, Sem.run_bind, Sem.run_ite]
    generalize (part e xs (i * sz)).run P w = r1
    cases r1 with
    | ok a w1 =>
      simp only [Result.andThen_ok]
      generalize (part e ys (i * sz)).run P w1 = r2
      cases r2 with
      | ok b w2 =>
        simp only [Result.andThen_ok]
        generalize (Op.equalIn d e a b).run P w2 = r3
        cases r3 with
        | ok r w3 =>
          cases r
          · simp only [Result.andThen_ok, Bool.not_false, if_true, Sem.run_pure]
          · simp only [Result.andThen_ok, Bool.not_true, Bool.false_eq_true, if_false, Sem.run_pure]
            exact ih w3
        | halt x w3 => simp [Result.andThen]
      | halt x w2 => simp [Result.andThen]
    | halt x w1 => simp [Result.andThen]

def rep (n : Nat) (ks : List SK) : List SK :=
  match n with
  | 0 => []
  | n + 1 => ks ++ rep n ks
theorem rep_len (n : Nat) (ks : List SK) : (rep n ks).length = n * ks.length := by
  induction n with
  | zero => simp [rep]
  | succ n ih => simp [rep, ih, Nat.add_mul]; omega
theorem eqElems_run {d : Nat} {e : TypeId} {agg : Bool} {ks : List SK} (h : EqT P d e agg ks) (D : Nat) (hD : d ≤ D) (xs ys : List Value) (w : World) : ∀ (m i : Nat), skB (rep m ks) (xs.drop (i * ks.length)) = true → skB (rep m ks) (ys.drop (i * ks.length)) = true →
    (eqElems D e ks.length xs.toArray ys.toArray (List.range' i m)).run P w = .ok (eqC (xs.drop (i * ks.length)) (ys.drop (i * ks.length))) w
  | 0, i, hx, hy => by
    have h1 := skB_len hx
    have h2 := skB_len hy
    simp only [rep, List.length_nil] at h1 h2
    rw [List.eq_nil_of_length_eq_zero h1, List.eq_nil_of_length_eq_zero h2]
    rfl
  | m + 1, i, hx, hy => by
    have lx := skB_len hx
    have ly := skB_len hy
    rw [rep_len, Nat.add_mul] at lx ly
    simp at lx ly
    obtain ⟨ax, bx⟩ := skB_take hx
    obtain ⟨ay, by_⟩ := skB_take hy
    rw [List.drop_drop] at bx by_
    have e0 : i * ks.length + ks.length = (i + 1) * ks.length := by rw [Nat.add_mul]; omega
    rw [e0] at bx by_
    by_cases hk : ks.length = 0
    · have hks := List.eq_nil_of_length_eq_zero hk
      subst hks
      have e1 := h.part xs (i * 0) (by simp) w
      have e2 := h.part ys (i * 0) (by simp) w
      have e3 := h.e D hD _ _ w ax ay
      have ih := eqElems_run h D hD xs ys w m (i + 1) bx by_
      simp only [List.range'_succ, eqElems, Sem.run_bind, List.length_nil, e1, e2, e3, Result.andThen_ok] at *
      simp [eqC] at ih ⊢
      simpa using ih
    · have e1 := h.part xs (i * ks.length) (by omega) w
      have e2 := h.part ys (i * ks.length) (by omega) w
      have e3 := h.e D hD _ _ w ax ay
      have ih := eqElems_run h D hD xs ys w m (i + 1) bx by_
      simp only [List.range'_succ, eqElems, Sem.run_bind, e1, e2, e3, Result.andThen_ok]
      have hs := eqC_split (xs.drop (i * ks.length)) (ys.drop (i * ks.length)) ks.length (by simp; omega)
      rw [List.drop_drop, List.drop_drop, e0] at hs
      rw [hs]
      cases hb : eqC ((xs.drop (i * ks.length)).take ks.length) ((ys.drop (i * ks.length)).take ks.length) with
      | false => simp
      | true =>
        simp only [Bool.not_true, Bool.false_eq_true, if_false, Bool.true_and]
        exact ih
theorem eqt_array {t e : TypeId} {agg : Bool} {ks ks' : List SK} {n d : Nat} (h : P.underlying t = some (.array n e)) (he : EqT P d e agg ks) (hk : rep n ks = ks') (hl : TL P t true ks'.length) : EqT P (d + 1) t true ks' := by
  subst hk
  refine ⟨hl, (fun h => by cases h), fun D hD xs ys w hx hy => ?_⟩
  obtain ⟨D, rfl⟩ : ∃ n, D = n + 1 := ⟨D - 1, by omega⟩
  simp only [asV]
  rw [run_equalIn_array w D t e n ks.length _ _ h he.tl.i, List.range_eq_range']
  have := eqElems_run he D (by omega) xs ys w n 0 (by simpa using hx) (by simpa using hy)
  simpa using this

class TQ (P : Program) (t : TypeId) (ks : outParam (List SK)) : Prop where
  q : ∃ d, d ≤ 10000 ∧ EqT P d t true ks
  g : P.eqGuardType P.depth t = false

variable {T : List (Option Tmp)} {sf al : Oper → Bool} {ks : List Itm} {K : Act → World → Prop} {N : FN} {w0 : World} {S : List Nat} {fs : List (Nat × Value)} {is : List Itm} {rest : List Oper} [AlC al]
variable {d : Tmp} {ty : TypeId} {pos : String} {aft : Array Edge} {op : Op} {x y : Operand} {v : Value} {xt yt : TypeId}
theorem s_eqA {ss : List SK} {xs ys : List Value} [h : TQ P xt ss] (hx : opv fs x = some (.agg xs.toArray)) (hy : opv fs y = some (.agg ys.toArray)) (h1 : skB ss xs = true) (h2 : skB ss ys = true) (hd : Nat.blt d N.n = true)
    (nx : GS P T sf al ks K N w0 S ((d, .bool (eqC xs ys)) :: fs) is rest) : GS P T sf al ks K N w0 S fs is (⟨some d, .binOp .eql xt x y yt, ty, pos, aft, none⟩ :: rest) :=
  s_val rfl hd (fun a w hk _ _ => by
    obtain ⟨D, hD, hq⟩ := h.q
    have := hq.e 10000 hD xs ys w h1 h2
    simp only [asV] at this
    simp only [execOp, hk.eval hx, hk.eval hy, Sem.run_bind, run_eqGuard_agg w _ _ _ _ _ _ h.g, Result.andThen_ok, run_eql_struct, this]
    rfl) nx
theorem s_eqAT {ss : List SK} {xs ys : List Value} [h : TQ P xt ss] (hx : opv fs x = some (.agg xs.toArray)) (hy : opv fs y = some (.agg ys.toArray)) (h1 : skB ss xs = true) (he : xs = ys) (hd : Nat.blt d N.n = true)
    (nx : GS P T sf al ks K N w0 S ((d, .bool true) :: fs) is rest) : GS P T sf al ks K N w0 S fs is (⟨some d, .binOp .eql xt x y yt, ty, pos, aft, none⟩ :: rest) := by
  subst he
  exact s_eqA hx hy h1 h1 hd (by rw [eqC_refl h1]; exact nx)
theorem s_neA {ss : List SK} {xs ys : List Value} [h : TQ P xt ss] (hx : opv fs x = some (.agg xs.toArray)) (hy : opv fs y = some (.agg ys.toArray)) (h1 : skB ss xs = true) (h2 : skB ss ys = true) (hd : Nat.blt d N.n = true)
    (nx : GS P T sf al ks K N w0 S ((d, .bool (!eqC xs ys)) :: fs) is rest) : GS P T sf al ks K N w0 S fs is (⟨some d, .binOp .neq xt x y yt, ty, pos, aft, none⟩ :: rest) :=
  s_val rfl hd (fun a w hk _ _ => by
    obtain ⟨D, hD, hq⟩ := h.q
    have := hq.e 10000 hD xs ys w h1 h2
    simp only [asV] at this
    simp only [execOp, hk.eval hx, hk.eval hy, Sem.run_bind, run_eqGuard_agg w _ _ _ _ _ _ h.g, Result.andThen_ok, run_neq_struct, this]
    rfl) nx
theorem s_neAF {ss : List SK} {xs ys : List Value} [h : TQ P xt ss] (hx : opv fs x = some (.agg xs.toArray)) (hy : opv fs y = some (.agg ys.toArray)) (h1 : skB ss xs = true) (he : xs = ys) (hd : Nat.blt d N.n = true)
    (nx : GS P T sf al ks K N w0 S ((d, .bool false) :: fs) is rest) : GS P T sf al ks K N w0 S fs is (⟨some d, .binOp .neq xt x y yt, ty, pos, aft, none⟩ :: rest) := by
  subst he
  exact s_neA hx hy h1 h1 hd (by rw [eqC_refl h1]; exact nx)
end
end Go.Proofs.YtihboegopigkmaaDoor
