/- The walk by reckoning, part 2: what an operation does. -/
import Derived.Test.YtihboegopigkmaaDoorGa
namespace Go.Proofs.YtihboegopigkmaaDoor
set_option linter.unusedSimpArgs false
set_option linter.unusedVariables false
set_option linter.unnecessarySimpa false
set_option linter.unusedSectionVars false
open Go.RowKit

/-! ### What the reckoning leaves to be shown -/
structure LAr (k : IntKind) (e : Int) (X : Int → Prop) : Prop where
  go : ∃ z, k.wrap e = z ∧ X z
structure LQuo (k : IntKind) (m n : Int) (X : Int → Prop) : Prop where
  go : n ≠ 0 ∧ ∃ z, k.wrap (m.tdiv n) = z ∧ X z
structure LRem (m n : Int) (X : Int → Prop) : Prop where
  go : n ≠ 0 ∧ ∃ z, m.tmod n = z ∧ X z
structure LEx (e : Int) (X : Int → Prop) : Prop where
  go : ∃ z, e = z ∧ X z
structure LSh (n e : Int) (X : Int → Prop) : Prop where
  go : 0 ≤ n ∧ ∃ z, e = z ∧ X z
structure LBr (p : Prop) (X Y : Prop) : Prop where
  t : p → X
  f : ¬ p → Y
structure LSide (p : Prop) (X : Prop) : Prop where
  p : p
  x : X
structure LNew (X : Nat → Prop) : Prop where
  go : ∀ b, X b
structure LIx (n : Int) (len : Nat) (X Y : Nat → Prop) : Prop where
  go : ∃ j, 0 ≤ n ∧ n < len ∧ n.toNat = j ∧ (X j ∨ Y j)
structure LIxS (A : Option Addr) (n : Int) (len sz : Nat) (X : Nat → Nat → Prop) : Prop where
  go : 0 ≤ n ∧ n < len ∧ ∃ b o, A = some ⟨b, o, none⟩ ∧ X b (o + n.toNat * sz)
structure LGet (agg : Bool) (sz : Nat) (cs : List SV) (o : Nat) (X : SV → Prop) : Prop where
  go : ∃ v : SV, rdv agg sz (dens cs) o = some v.den ∧ X v
structure LMk (by_ : Nat) (l c : Int) (X Y : Nat → Prop) : Prop where
  go : ∃ n : Nat, l = n ∧ c = n ∧ by_ * n ≤ 281474976710656 ∧ n ≤ 9223372036854775807 ∧ (X n ∨ Y n)
structure LSl (A : Option Addr) (c sz : Nat) (lo hi : Int) (X : SV → Prop) : Prop where
  go : 0 ≤ lo ∧ lo ≤ hi ∧ hi ≤ c ∧ ∃ sv : SV, sv.den = .slice (if c = lo.toNat then A else A.map (·.add (lo.toNat * sz))) (hi.toNat - lo.toNat) (c - lo.toNat) ∧ X sv
structure LApp (n m by_ : Nat) (xs ys : List Value) (X : Option Addr → Nat → Nat → List Value → Prop) : Prop where
  go : ∃ nm zs, n + m = nm ∧ xs ++ ys = zs ∧ nm * by_ ≤ 140737488355328 ∧ 1 ≤ by_ ∧ ∀ A c, RF A nm c → X A c nm zs

section
variable (P : Program) (tab : Tr) (N : FN) (w0 : World) (S : List Nat) (km : Mem)

structure LLoad (t : TypeId) (p : Addr) (sf : Bool) (mem : Mem) (X : SV → Prop) : Prop where
  go : ∃ v : SV, (∀ w, Loc w0 S (denM km) w → (sf = true ∨ Loc w0 S (denM mem) w) → (loadVar t p).run P w = .ok v.den w) ∧ X v
structure LVal (sf : Bool) (o : Oper) (fs : Fr) (mem : Mem) (X : SV → Prop) : Prop where
  go : ∃ v : SV, (∀ a w, Kn N (denF fs) a → Loc w0 S (denM km) w → (sf = true ∨ Loc w0 S (denM mem) w) → (execOp a.eval o).run P w = .ok (.value v.den) w) ∧ X v
structure LEff (o : Oper) (fs : Fr) (mem : Mem) (X : SV → Mem → Prop) : Prop where
  go : ∃ (V : Type) (val : V → SV) (its : V → Mem), (∀ w1 S1 a w, Kn N (denF fs) a → Loc w0 S (denM mem) w → Loc w1 S1 (denM mem) w → ∃ u w', ((execOp a.eval o).run P w = .ok (.value (val u).den) w' ∨ ((execOp a.eval o).run P w = .ok .skip w' ∧ (val u).den = undef)) ∧ Loc w1 S1 (denM (its u)) w') ∧
    ∀ u, (km.Sublist mem → km.Sublist (its u)) ∧ X (val u) (its u)
/-- A call: what it gives, and what is in memory then. -/
structure LCall (F : FuncId) (args : List SV) (mem : Mem) (X : SV → Mem → Prop) : Prop where
  go : CF P F ∧ ∃ (M : List Nat) (cons keep : Mem) (R : SV → Mem → Prop), (∀ w, Loc w0 S (denM mem) w → RetM P F (dens args) w M fun v its => ∃ sv mi, v = SV.den sv ∧ its = denM mi ∧ R sv mi) ∧
    Split (denM mem) (denM cons) (denM keep) ∧ (∀ k ∈ M, ∃ i ∈ denM cons, k ∈ i.foot) ∧ (km.Sublist mem → km.Sublist keep) ∧ ∀ sv mi, R sv mi → X sv (mi ++ keep)

def xput (dst : Option Tmp) (v : SV) (fs : Fr) (mem : Mem) (k : Fr → Mem → Prop) : Prop :=
  match dst with
  | some d => match Nat.blt d N.n with
    | true => k ((d, v) :: fs) mem
    | false => False
  | none => k fs mem
def pushX (d : Option Tmp) (v : SV) (fs : Fr) : Fr :=
  match d with
  | some d => (d, v) :: fs
  | none => fs
/-- What lacks a rule. -/
def xany (sf : Bool) (o : Oper) (fs : Fr) (mem : Mem) (k : Fr → Mem → Prop) : Prop :=
  match alOf o with
  | true => False
  | false => match o.dst with
    | some d => match Nat.blt d N.n with
      | true => match sf with
        | true => LVal P N w0 S km sf o fs mem fun v => k ((d, v) :: fs) mem
        | false => LEff P N w0 S km o fs mem fun v m => k ((d, v) :: fs) m
      | false => False
    | none => match sf with
      | true => LVal P N w0 S km sf o fs mem fun _ => k fs mem
      | false => LEff P N w0 S km o fs mem fun _ m => k fs m
def ptrOf : SV → Option Addr
  | .ptr _ b o => some ⟨b, o, none⟩
  | .ptrS _ b o => some ⟨b, o, none⟩
  | .val v => match v with
    | .pointer (some p) => some p
    | _ => none
  | _ => none
def xload (sf : Bool) (o : Oper) (t : TypeId) (x : Operand) (fs : Fr) (mem : Mem) (k : Fr → Mem → Prop) : Prop :=
  match opx fs x with
  | none => False
  | some v => match v with
    | .ptr h b off => match findB (bif sf then km else mem) h with
      | some i => match i with
        | .blk _ e b' cs => match tab.get t with
          | some ti => match rdX ti.agg ti.sz cs off with
            | some v => LSide (b = b') (xput N o.dst v fs mem k)
            | none => False
          | none => False
        | _ => LLoad P w0 S km t ⟨b, off, none⟩ sf mem fun v => xput N o.dst v fs mem k
      | none => LLoad P w0 S km t ⟨b, off, none⟩ sf mem fun v => xput N o.dst v fs mem k
    | v => match ptrOf v with
      | some p => LLoad P w0 S km t p sf mem fun v => xput N o.dst v fs mem k
      | none => xany P N w0 S km sf o fs mem k
def hasVal : List SV → Bool
  | [] => false
  | v :: vs => match v with
    | .agg _ | .tup _ | .val _ => true
    | _ => hasVal vs
theorem hasVal_one : ∀ {vs : List SV}, hasVal vs = false → allOne vs
  | [], _ => trivial
  | v :: vs, h => by
    cases v <;> simp only [hasVal] at h <;> first | (cases h; done) | exact hasVal_one (vs := vs) h
def xones (vs : List SV) (X : Prop) : Prop :=
  match hasVal vs with
  | false => X
  | true => LSide (allOne vs) X
theorem xones_ok {vs : List SV} {X : Prop} (h : xones vs X) : allOne vs ∧ X := by
  unfold xones at h
  split at h
  · rename_i h1; exact ⟨hasVal_one h1, h⟩
  · exact ⟨h.p, h.x⟩
def xstore (sf : Bool) (o : Oper) (t : TypeId) (x y : Operand) (fs : Fr) (mem : Mem) (k : Fr → Mem → Prop) : Prop :=
  match sf with
  | true => False
  | false => match o.dst with
    | some _ => False
    | none => match opx fs x with
      | none => False
      | some xv => match opx fs y with
        | none => False
        | some v => match xv with
          | .ptr h b off => match findB mem h with
            | some i => match i with
              | .blk _ e b' cs => match tab.get t with
                | some ti => match cellsO v with
                  | some vs => match lenX vs ti.sz with
                    | true => match splX cs off vs with
                      | some cs' => match updB mem h (.blk h e b' cs') with
                        | some mem' => match noTag km h with
                          | true => LSide (b = b') (xones vs (k fs mem'))
                          | false => False
                        | none => False
                      | none => False
                    | false => False
                  | none => False
                | none => False
              | _ => xany P N w0 S km false o fs mem k
            | none => xany P N w0 S km false o fs mem k
          | _ => xany P N w0 S km false o fs mem k
def xalloc (sf : Bool) (o : Oper) (t : TypeId) (fs : Fr) (mem : Mem) (k : Fr → Mem → Prop) : Prop :=
  match sf with
  | true => False
  | false => match o.dst with
    | none => False
    | some d => match tab.get t with
      | none => False
      | some ti => match ti.zero with
        | none => False
        | some z => match Nat.blt d N.n with
          | false => False
          | true => LNew fun b => k ((d, .ptr d b 0) :: fs) (.blk d t b z :: mem)
def xbox (sf : Bool) (o : Oper) (t : TypeId) (x : Operand) (fs : Fr) (mem : Mem) (k : Fr → Mem → Prop) : Prop :=
  match sf with
  | true => False
  | false => match o.dst with
    | none => False
    | some d => match opx fs x with
      | none => False
      | some v => match Nat.blt d N.n with
        | false => False
        | true => match cellsO v with
          | some vs => xones vs (LNew fun b => k ((d, .ptr d b 0) :: fs) (.blk d t b vs :: mem))
          | none => False
def nthP : List (Nat × Nat) → Nat → Option (Nat × Nat)
  | [], _ => none
  | v :: _, 0 => some v
  | _ :: vs, n + 1 => nthP vs n
theorem nthP_eq : ∀ (l : List (Nat × Nat)) (n : Nat), l[n]? = nthP l n
  | [], n => by simp [nthP]
  | v :: vs, 0 => by simp [nthP]
  | v :: vs, n + 1 => by simp [nthP, nthP_eq vs n]
/-- A field's offset, size and whether it is of several parts. -/
def fldX (t f : Nat) : Option (Nat × Bool × Nat) :=
  match tab.get t with
  | none => none
  | some ti => match ti.d with
    | .struct fl => match nthP fl f with
      | none => none
      | some p => match p with
        | (off, ft) => match tab.get ft with
          | none => none
          | some fi => some (off, fi.agg, fi.sz)
    | _ => none
theorem fldX_ok {P : Program} {tab : Tr} (ht : tab.ok P) {t f off sz : Nat} {agg : Bool} (h : fldX tab t f = some (off, agg, sz)) : ∃ ft, TF P t f off ft ∧ TL P ft agg sz := by
  unfold fldX at h
  split at h
  · cases h
  · rename_i ti hti
    split at h
    · rename_i fl hd
      split at h
      · cases h
      · rename_i p hp
        obtain ⟨off', ft⟩ := p
        simp only at h
        split at h
        · cases h
        · rename_i fi hfi
          injection h with h
          injection h with h1 h
          injection h with h2 h3
          subst h1 h2 h3
          exact ⟨ft, (Tr.get_ok ht hti).tf fl hd f _ _ (by rw [nthP_eq]; exact hp), (Tr.get_ok ht hfi).tl⟩
    · cases h
def xfieldAddr (sf : Bool) (o : Oper) (t : TypeId) (x : Operand) (f : Nat) (fs : Fr) (mem : Mem) (k : Fr → Mem → Prop) : Prop :=
  match opx fs x with
  | none => False
  | some v => match fldX tab t f with
    | none => False
    | some p => match p with
      | (off, _, sz) => match Nat.beq sz 0 with
        | true => False
        | false => match o.dst with
          | none => False
          | some d => match Nat.blt d N.n with
            | false => False
            | true => match v with
              | .ptr h b o' => k ((d, .ptr h b (o' + off)) :: fs) mem
              | .ptrS h b o' => k ((d, .ptrS h b (o' + off)) :: fs) mem
              | _ => xany P N w0 S km sf o fs mem k
def xfield (sf : Bool) (o : Oper) (t : TypeId) (x : Operand) (f : Nat) (fs : Fr) (mem : Mem) (k : Fr → Mem → Prop) : Prop :=
  match opx fs x with
  | none => False
  | some v => match fldX tab t f with
    | none => False
    | some p => match p with
      | (off, agg, sz) => match v with
        | .agg cs => match rdX agg sz cs off with
          | some v => xput N o.dst v fs mem k
          | none => False
        | _ => xany P N w0 S km sf o fs mem k
/-- An array's or a slice's element. -/
def elX (t : Nat) : Option (Option Nat × Nat × Bool × Nat) :=
  match tab.get t with
  | none => none
  | some ti => match ti.d with
    | .arr n e => match tab.get e with
      | none => none
      | some ei => some (some n, e, ei.agg, ei.sz)
    | .slice e => match tab.get e with
      | none => none
      | some ei => some (none, e, ei.agg, ei.sz)
    | _ => none
theorem elX_arr {P : Program} {tab : Tr} (ht : tab.ok P) {t n e sz : Nat} {agg : Bool} (h : elX tab t = some (some n, e, agg, sz)) : TA P t n e ∧ TL P e agg sz := by
  unfold elX at h
  split at h
  · cases h
  · rename_i ti hti
    split at h
    · rename_i n' e' hd
      split at h
      · cases h
      · rename_i ei hei
        simp only [Option.some.injEq, Prod.mk.injEq] at h
        obtain ⟨rfl, rfl, rfl, rfl⟩ := h
        exact ⟨(Tr.get_ok ht hti).ta _ _ hd, (Tr.get_ok ht hei).tl⟩
    · split at h
      · cases h
      · simp at h
    · cases h
theorem elX_sl {P : Program} {tab : Tr} (ht : tab.ok P) {t e sz : Nat} {agg : Bool} (h : elX tab t = some (none, e, agg, sz)) : TS P t e ∧ TL P e agg sz := by
  unfold elX at h
  split at h
  · cases h
  · rename_i ti hti
    split at h
    · split at h
      · cases h
      · simp at h
    · rename_i e' hd
      split at h
      · cases h
      · rename_i ei hei
        simp only [Option.some.injEq, Prod.mk.injEq, true_and] at h
        obtain ⟨rfl, rfl, rfl⟩ := h
        exact ⟨(Tr.get_ok ht hti).ts _ hd, (Tr.get_ok ht hei).tl⟩
    · cases h
def xindexAddr (sf : Bool) (o : Oper) (t : TypeId) (x y : Operand) (fs : Fr) (mem : Mem) (k : Fr → Mem → Prop) : Prop :=
  match opx fs x with
  | none => False
  | some v => match opx fs y with
    | none => False
    | some yv => match yv with
      | .int ik n => match elX tab t with
        | none => False
        | some q => match q with
          | (l, _, _, sz) => match o.dst with
            | none => False
            | some d => match Nat.blt d N.n with
              | false => False
              | true => match l with
                | some len => match v with
                  | .ptr h b o' => LIx n len (fun j => k ((d, .ptr h b (o' + j * sz)) :: fs) mem) (fun j => k ((d, .ptrS h b (o' + j * sz)) :: fs) mem)
                  | .ptrS h b o' => LIx n len (fun j => k ((d, .ptrS h b (o' + j * sz)) :: fs) mem) (fun j => k ((d, .ptrS h b (o' + j * sz)) :: fs) mem)
                  | _ => xany P N w0 S km sf o fs mem k
                | none => match v with
                  | .sl h A len _ => LIxS A n len sz fun b o' => k ((d, .ptrS h b o') :: fs) mem
                  | .slB h b o' len _ => LIx n len (fun j => k ((d, .ptr h b (o' + j * sz)) :: fs) mem) (fun j => k ((d, .ptrS h b (o' + j * sz)) :: fs) mem)
                  | _ => xany P N w0 S km sf o fs mem k
      | _ => False
def xindex (sf : Bool) (o : Oper) (t : TypeId) (x y : Operand) (fs : Fr) (mem : Mem) (k : Fr → Mem → Prop) : Prop :=
  match opx fs x with
  | none => False
  | some v => match opx fs y with
    | none => False
    | some yv => match yv with
      | .int ik n => match elX tab t with
        | none => xany P N w0 S km sf o fs mem k
        | some q => match q with
          | (l, _, agg, sz) => match l with
            | some len => match v with
              | .agg cs => LIx n len (fun j => match rdX agg sz cs (j * sz) with
                  | some v => xput N o.dst v fs mem k
                  | none => False) (fun j => LGet agg sz cs (j * sz) fun v => xput N o.dst v fs mem k)
              | _ => xany P N w0 S km sf o fs mem k
            | none => xany P N w0 S km sf o fs mem k
      | _ => xany P N w0 S km sf o fs mem k
end

/-! reckoning -/
def toB : SV → Option Bool
  | .lit b => some b
  | .dec p i => some (@decide p i)
  | .boo b => some b
  | _ => none
theorem toB_den {v : SV} {b : Bool} (h : toB v = some b) : v.den = .bool b := by
  cases v <;> simp only [toB] at h <;> first | (cases h; done) | (injection h with h; subst h; rfl)
def cmpX (op : BinOp) (m n : Int) : Option SV :=
  match op with
  | .eql => some (.dec (m = n) (Int.instDecidableEq m n))
  | .neq => some (.dec (¬ m = n) inferInstance)
  | .lss => some (.dec (m < n) inferInstance)
  | .leq => some (.dec (m ≤ n) inferInstance)
  | .gtr => some (.dec (n < m) inferInstance)
  | .geq => some (.dec (n ≤ m) inferInstance)
  | _ => none
def cellEq : List SV → List SV → Prop
  | [], [] => True
  | x :: xs, y :: ys => match x with
    | .int _ m => match y with
      | .int _ n => m = n ∧ cellEq xs ys
      | _ => False
    | x => match toB x with
      | some b => match toB y with
        | some c => b = c ∧ cellEq xs ys
        | none => False
      | none => False
  | _, _ => False
noncomputable def cellEq_dec (xs ys : List SV) : Decidable (cellEq xs ys) := Classical.propDecidable _
def skX : List SK → List SV → Bool
  | [], [] => true
  | s :: ss, v :: vs => match s with
    | .i k => match v with
      | .int k' _ => match decide (k = k') with
        | true => skX ss vs
        | false => false
      | _ => false
    | .b => match toB v with
      | some _ => skX ss vs
      | none => false
  | _, _ => false
theorem skX_ok : ∀ {ss : List SK} {vs : List SV}, skX ss vs = true → skB ss (dens vs) = true
  | [], [], _ => rfl
  | [], _ :: _, h => by simp [skX] at h
  | s :: ss, [], h => by cases s <;> simp [skX] at h
  | .i k :: ss, v :: vs, h => by
    cases v <;> simp only [skX] at h <;> first | (cases h; done) | skip
    split at h
    · rename_i hk
      simp only [dens, SV.den, skB, skV, hk, Bool.true_and]
      exact skX_ok h
    · cases h
  | .b :: ss, v :: vs, h => by
    simp only [skX] at h
    split at h
    · rename_i b hb
      simp only [dens, toB_den hb, skB, skV, Bool.true_and]
      exact skX_ok h
    · cases h
theorem cellEq_eqC : ∀ {ss : List SK} {xs ys : List SV}, skX ss xs = true → skX ss ys = true → (cellEq xs ys ↔ eqC (dens xs) (dens ys) = true)
  | [], [], [], _, _ => by simp [cellEq, dens, eqC]
  | [], _ :: _, _, h, _ => by simp [skX] at h
  | [], [], _ :: _, _, h => by simp [skX] at h
  | s :: ss, [], _, h, _ => by cases s <;> simp [skX] at h
  | s :: ss, _ :: _, [], _, h => by cases s <;> simp [skX] at h
  | .i k :: ss, x :: xs, y :: ys, hx, hy => by
    cases x <;> simp only [skX] at hx <;> first | (cases hx; done) | skip
    cases y <;> simp only [skX] at hy <;> first | (cases hy; done) | skip
    split at hx
    · split at hy
      · have ih := cellEq_eqC hx hy
        simp [cellEq, dens, SV.den, eqC, eqV, ih]
      · cases hy
    · cases hx
  | .b :: ss, x :: xs, y :: ys, hx, hy => by
    simp only [skX] at hx hy
    split at hx
    · rename_i b hb
      split at hy
      · rename_i c hc
        have ih := cellEq_eqC hx hy
        have e1 : cellEq (x :: xs) (y :: ys) ↔ (b = c ∧ cellEq xs ys) := by cases x <;> first | (simp [toB] at hb; done) | simp [cellEq, hb, hc]
        rw [e1]
        simp [dens, toB_den hb, toB_den hc, eqC, eqV, ih]
      · cases hy
    · cases hx
theorem cellEq_dec_eq {ss : List SK} {xs ys : List SV} (hx : skX ss xs = true) (hy : skX ss ys = true) : @decide (cellEq xs ys) (cellEq_dec xs ys) = eqC (dens xs) (dens ys) := by
  have := cellEq_eqC hx hy
  cases h : eqC (dens xs) (dens ys) with
  | true => rw [h] at this; simpa using this
  | false => rw [h] at this; simpa using this
section
variable (P : Program) (tab : Tr) (N : FN) (w0 : World) (S : List Nat) (km : Mem)
def xbin (sf : Bool) (o : Oper) (op : BinOp) (xt : TypeId) (x y : Operand) (fs : Fr) (mem : Mem) (k : Fr → Mem → Prop) : Prop :=
  match opx fs x with
  | none => False
  | some xv => match opx fs y with
    | none => False
    | some yv => match o.dst with
      | none => False
      | some d => match Nat.blt d N.n with
        | false => False
        | true => match xv with
          | .int ik m => match yv with
            | .int ik' n => match op with
              | .shl => LSh n (ik.wrap (m * 2 ^ (min n.toNat ik.bits))) fun z => k ((d, .int ik z) :: fs) mem
              | .shr => LSh n (m / (2 ^ (min n.toNat ik.bits))) fun z => k ((d, .int ik z) :: fs) mem
              | op => match decide (ik = ik') with
                | false => False
                | true => match op with
                  | .add => LAr ik (m + n) fun z => k ((d, .int ik z) :: fs) mem
                  | .sub => LAr ik (m - n) fun z => k ((d, .int ik z) :: fs) mem
                  | .mul => LAr ik (m * n) fun z => k ((d, .int ik z) :: fs) mem
                  | .quo => LQuo ik m n fun z => k ((d, .int ik z) :: fs) mem
                  | .rem => LRem m n fun z => k ((d, .int ik z) :: fs) mem
                  | .and => LEx (bits .and ik m n) fun z => k ((d, .int ik z) :: fs) mem
                  | .or => LEx (bits .or ik m n) fun z => k ((d, .int ik z) :: fs) mem
                  | .xor => LEx (bits .xor ik m n) fun z => k ((d, .int ik z) :: fs) mem
                  | .andNot => LEx (bits .andNot ik m n) fun z => k ((d, .int ik z) :: fs) mem
                  | op => match cmpX op m n with
                    | some c => k ((d, c) :: fs) mem
                    | none => False
            | _ => xany P N w0 S km sf o fs mem k
          | .agg xs => match yv with
            | .agg ys => match tab.get xt with
              | none => False
              | some ti => match ti.eqk with
                | none => xany P N w0 S km sf o fs mem k
                | some ss => match skX ss xs with
                  | false => xany P N w0 S km sf o fs mem k
                  | true => match skX ss ys with
                    | false => xany P N w0 S km sf o fs mem k
                    | true => match op with
                      | .eql => k ((d, .dec (cellEq xs ys) (cellEq_dec xs ys)) :: fs) mem
                      | .neq => k ((d, .dec (¬ cellEq xs ys) (@instDecidableNot _ (cellEq_dec xs ys))) :: fs) mem
                      | _ => False
            | _ => xany P N w0 S km sf o fs mem k
          | xv => match toB xv with
            | some b => match toB yv with
              | some c => match tab.get xt with
                | none => False
                | some ti => match ti.d with
                  | .bool => match op with
                    | .eql => k ((d, .boo (b == c)) :: fs) mem
                    | .neq => k ((d, .boo (b != c)) :: fs) mem
                    | _ => False
                  | _ => False
              | none => xany P N w0 S km sf o fs mem k
            | none => xany P N w0 S km sf o fs mem k
def xun (sf : Bool) (o : Oper) (op : UnOp) (x : Operand) (fs : Fr) (mem : Mem) (k : Fr → Mem → Prop) : Prop :=
  match opx fs x with
  | none => False
  | some xv => match o.dst with
    | none => False
    | some d => match Nat.blt d N.n with
      | false => False
      | true => match op with
        | .not => match xv with
          | .lit b => match b with
            | true => k ((d, .lit false) :: fs) mem
            | false => k ((d, .lit true) :: fs) mem
          | .dec p i => k ((d, .dec (¬ p) (@instDecidableNot p i)) :: fs) mem
          | .boo b => k ((d, .boo (!b)) :: fs) mem
          | _ => False
        | .neg => match xv with
          | .int ik m => LAr ik (-m) fun z => k ((d, .int ik z) :: fs) mem
          | _ => xany P N w0 S km sf o fs mem k
        | _ => xany P N w0 S km sf o fs mem k
def xconv (sf : Bool) (o : Oper) (xt yt : TypeId) (x : Operand) (fs : Fr) (mem : Mem) (k : Fr → Mem → Prop) : Prop :=
  match opx fs x with
  | none => False
  | some xv => match o.dst with
    | none => False
    | some d => match Nat.blt d N.n with
      | false => False
      | true => match xv with
        | .int ik m => match tab.get xt with
          | none => False
          | some t1 => match t1.d with
            | .int k1 => match decide (k1 = ik) with
              | false => False
              | true => match tab.get yt with
                | none => False
                | some t2 => match t2.d with
                  | .int k2 => LAr k2 m fun z => k ((d, .int k2 z) :: fs) mem
                  | _ => xany P N w0 S km sf o fs mem k
            | _ => False
        | _ => xany P N w0 S km sf o fs mem k
def xpick (sf : Bool) (o : Oper) (c x y : Operand) (fs : Fr) (mem : Mem) (k : Fr → Mem → Prop) : Prop :=
  match opx fs c with
  | none => False
  | some cv => match opx fs x with
    | none => False
    | some xv => match opx fs y with
      | none => False
      | some yv => match o.dst with
        | none => False
        | some d => match Nat.blt d N.n with
          | false => False
          | true => match cv with
            | .lit b => match b with
              | true => k ((d, xv) :: fs) mem
              | false => k ((d, yv) :: fs) mem
            | .dec p i => LBr p (k ((d, xv) :: fs) mem) (k ((d, yv) :: fs) mem)
            | .boo b => LBr (b = true) (k ((d, xv) :: fs) mem) (k ((d, yv) :: fs) mem)
            | _ => False
def appK : List SV → List SV → (List SV → Prop) → Prop
  | [], ys, X => X ys
  | x :: xs, ys, X => appK xs ys fun r => X (x :: r)
theorem appK_eq : ∀ {xs ys : List SV} {X : List SV → Prop}, appK xs ys X → X (xs ++ ys)
  | [], _, _, h => h
  | x :: xs, ys, X, h => by
    have := appK_eq (X := fun r => X (x :: r)) h
    simpa using this
/-- Items of a tag are taken away. -/
def oneTy (ts : List TypeId) : TypeId := match ts with
  | t :: _ => t
  | [] => 0
def xlen (sf : Bool) (o : Oper) (t : TypeId) (x : Operand) (fs : Fr) (mem : Mem) (k : Fr → Mem → Prop) : Prop :=
  match opx fs x with
  | none => False
  | some xv => match o.dst with
    | none => False
    | some d => match Nat.blt d N.n with
      | false => False
      | true => match elX tab t with
        | none => xany P N w0 S km sf o fs mem k
        | some q => match q with
          | (l, _, _, _) => match l with
            | some n => k ((d, .int .i64 n) :: fs) mem
            | none => match xv with
              | .sl _ _ n _ => k ((d, .int .i64 n) :: fs) mem
              | .slB _ _ _ n _ => k ((d, .int .i64 n) :: fs) mem
              | _ => xany P N w0 S km sf o fs mem k
def xmm (mx : Bool) (sf : Bool) (o : Oper) (x y : Operand) (fs : Fr) (mem : Mem) (k : Fr → Mem → Prop) : Prop :=
  match opx fs x with
  | some (.int k1 m) => match opx fs y with
    | some (.int k2 n) => match decide (k1 = k2) with
      | true => match o.dst with
        | none => False
        | some d => match Nat.blt d N.n with
          | false => False
          | true => match mx with
            | true => LEx (max m n) fun z => k ((d, .int k1 z) :: fs) mem
            | false => LEx (min m n) fun z => k ((d, .int k1 z) :: fs) mem
      | false => False
    | _ => xany P N w0 S km sf o fs mem k
  | _ => xany P N w0 S km sf o fs mem k
def xappend (sf : Bool) (o : Oper) (t : TypeId) (x y : Operand) (fs : Fr) (mem : Mem) (k : Fr → Mem → Prop) : Prop :=
  match sf with
  | true => False
  | false => match opx fs x with
    | some (.sl h A n c) => match opx fs y with
      | some (.slB h2 b2 o2 m c2) => match o.dst with
        | none => False
        | some d => match Nat.blt d N.n with
          | false => False
          | true => match elX tab t with
            | some (none, e, _, _) => match tab.get e with
              | some ei => match ei.zero with
                | some (z :: zs) => match findB mem h2 with
                  | some (.blk _ e2 b' cs) => match dropX o2 cs with
                    | some r => match takeX (m * ei.sz) r with
                      | some news => match findB mem h with
                        | some (.row _ e' sz' A' n' c' xs) => match decide (e' = e) with
                          | false => False
                          | true => match decide (sz' = ei.sz) with
                            | false => False
                            | true => match noTag km h with
                              | false => False
                              | true => LSide (b2 = b' ∧ A = A' ∧ n = n' ∧ c = c') (xones news (LApp n m ei.by_ xs (dens news) fun A1 c1 nm ys =>
                                match updB mem h (.row h e ei.sz A1 nm c1 ys) with
                                | some mem' => k ((d, .sl h A1 nm c1) :: fs) mem'
                                | none => False))
                        | some _ => xany P N w0 S km false o fs mem k
                        | none => LSide (b2 = b' ∧ A = none ∧ n = 0 ∧ c = 0) (xones news (LApp 0 m ei.by_ [] (dens news) fun A1 c1 nm ys => k ((d, .sl d A1 nm c1) :: fs) (.row d e ei.sz A1 nm c1 ys :: mem)))
                      | none => xany P N w0 S km false o fs mem k
                    | none => xany P N w0 S km false o fs mem k
                  | _ => xany P N w0 S km false o fs mem k
                | _ => False
              | none => False
            | _ => False
      | _ => xany P N w0 S km false o fs mem k
    | _ => xany P N w0 S km false o fs mem k
def xcall (sf : Bool) (o : Oper) (c : Call) (fs : Fr) (mem : Mem) (k : Fr → Mem → Prop) : Prop :=
  match c.callee with
  | .value f => match sf with
    | true => False
    | false => match opx fs f with
      | none => False
      | some fv => match opxs fs c.args.toList with
        | none => False
        | some vs => match fv with
          | .fn fn first cap => match fn with
            | .func F => match o.dst with
              | some d => match Nat.blt d N.n with
                | false => False
                | true => appK vs cap fun r => appK first r fun args => LCall P w0 S km F args mem fun v mem' => k ((d, v) :: fs) mem'
              | none => appK vs cap fun r => appK first r fun args => LCall P w0 S km F args mem fun v mem' => k fs mem'
            | _ => xany P N w0 S km false o fs mem k
          | _ => xany P N w0 S km false o fs mem k
  | .invoke _ _ => xany P N w0 S km sf o fs mem k
  | .builtin b => match c.args.toList with
    | x :: rest => match rest with
      | [] => match b with
        | .len => match c.argTypes.toList with
          | t :: [] => xlen P tab N w0 S km sf o t x fs mem k
          | _ => xany P N w0 S km sf o fs mem k
        | _ => xany P N w0 S km sf o fs mem k
      | y :: rest => match rest with
        | [] => match b with
          | .max => xmm P N w0 S km true sf o x y fs mem k
          | .min => xmm P N w0 S km false sf o x y fs mem k
          | .append => match c.argTypes.toList with
            | t :: t' :: [] => match Nat.beq t t' with
              | true => xappend P tab N w0 S km sf o t x y fs mem k
              | false => xany P N w0 S km sf o fs mem k
            | _ => xany P N w0 S km sf o fs mem k
          | _ => xany P N w0 S km sf o fs mem k
        | _ => xany P N w0 S km sf o fs mem k
    | _ => xany P N w0 S km sf o fs mem k
def xmakeFunc (o : Oper) (fn : Fn) (f c : List Operand) (fs : Fr) (mem : Mem) (k : Fr → Mem → Prop) : Prop :=
  match opxs fs f with
  | none => False
  | some vf => match opxs fs c with
    | none => False
    | some vc => match o.dst with
      | none => False
      | some d => match Nat.blt d N.n with
        | false => False
        | true => k ((d, .fn fn vf vc) :: fs) mem
def xextract (sf : Bool) (o : Oper) (x : Operand) (ix : Nat) (fs : Fr) (mem : Mem) (k : Fr → Mem → Prop) : Prop :=
  match opx fs x with
  | some (.tup vs) => match nthX vs ix with
    | some v => match o.dst with
      | none => False
      | some d => match Nat.blt d N.n with
        | false => False
        | true => k ((d, v) :: fs) mem
    | none => False
  | _ => xany P N w0 S km sf o fs mem k
def hasValP : List (Nat × SV) → Bool
  | [] => false
  | p :: r => match p with
    | (_, v) => match v with
      | .val _ => true
      | _ => hasValP r
def xbuild (o : Oper) (t : TypeId) (parts : List (Nat × Operand)) (fs : Fr) (mem : Mem) (k : Fr → Mem → Prop) : Prop :=
  match opxps fs parts with
  | none => False
  | some ps => match tab.get t with
    | none => False
    | some ti => match ti.zero with
      | none => False
      | some z => match ti.bld with
        | none => False
        | some pl => match fillX pl z ps with
          | none => False
          | some cs => match o.dst with
            | none => False
            | some d => match Nat.blt d N.n with
              | false => False
              | true => match hasValP ps with
                | false => k ((d, .agg cs) :: fs) mem
                | true => LSide (partsOne ps) (k ((d, .agg cs) :: fs) mem)
def zerosX : Nat → List SV → Option (List SV)
  | 0, _ => some []
  | n + 1, z => match zerosX n z with
    | some r => match splX (z ++ r) 0 z with
      | some r' => some r'
      | none => none
    | none => none
def xbuildSlice (sf : Bool) (o : Oper) (t : TypeId) (len : Nat) (parts : List (Nat × Operand)) (fs : Fr) (mem : Mem) (k : Fr → Mem → Prop) : Prop :=
  match sf with
  | true => False
  | false => match opxps fs parts with
    | none => False
    | some ps => match elX tab t with
      | some (none, e, _, _) => match tab.get e with
        | none => False
        | some ei => match ei.zero with
          | some (z :: zs) => match Nat.ble (len * ei.sz) 16777216 with
            | false => False
            | true => match zerosX len (z :: zs) with
              | none => False
              | some zz => match fillX (fun i => some (i * ei.sz, ei.sz)) zz ps with
                | none => False
                | some cs => match o.dst with
                  | none => False
                  | some d => match Nat.blt d N.n with
                    | false => False
                    | true => match hasValP ps with
                      | false => LNew fun b => k ((d, .slB d b 0 len len) :: fs) (.blk d e b cs :: mem)
                      | true => LSide (partsOne ps) (LNew fun b => k ((d, .slB d b 0 len len) :: fs) (.blk d e b cs :: mem))
          | _ => False
      | _ => False
def xmakeSlice (sf : Bool) (o : Oper) (t : TypeId) (x y : Operand) (fs : Fr) (mem : Mem) (k : Fr → Mem → Prop) : Prop :=
  match sf with
  | true => False
  | false => match opx fs x with
    | some (.int _ l) => match opx fs y with
      | some (.int _ c) => match elX tab t with
        | some (none, e, _, _) => match tab.get e with
          | none => False
          | some ei => match ei.zero with
            | some (z :: zs) => match o.dst with
              | none => False
              | some d => match Nat.blt d N.n with
                | false => False
                | true => LMk ei.by_ l c (fun n => match zerosX n (z :: zs) with
                  | some cs => LNew fun b => k ((d, .slB d b 0 n n) :: fs) (.blk d e b cs :: mem)
                  | none => False) (fun n => LNew fun b => k ((d, .slB d b 0 n n) :: fs) (.blkV d e b (zeros n (dens (z :: zs))) :: mem))
            | _ => False
        | _ => False
      | _ => False
    | _ => False
def oInt (fs : Fr) (d : Int) : Option Operand → Option Int
  | none => some d
  | some x => match opx fs x with
    | some (.int _ n) => some n
    | _ => none
def xslice (sf : Bool) (o : Oper) (t : TypeId) (x : Operand) (lo hi mx : Option Operand) (fs : Fr) (mem : Mem) (k : Fr → Mem → Prop) : Prop :=
  match opx fs x with
  | none => False
  | some xv => match o.dst with
    | none => False
    | some d => match Nat.blt d N.n with
      | false => False
      | true => match mx with
        | some _ => xany P N w0 S km sf o fs mem k
        | none => match elX tab t with
          | some (l, _, _, sz) => match l with
            | none => match xv with
              | .sl _ A n c => match oInt fs 0 lo with
                | none => False
                | some a => match oInt fs n hi with
                  | none => False
                  | some b => LSl A c sz a b fun sv => k ((d, sv) :: fs) mem
              | .slB _ b' o' n c => match oInt fs 0 lo with
                | none => False
                | some a => match oInt fs n hi with
                  | none => False
                  | some b => LSl (some ⟨b', o', none⟩) c sz a b fun sv => k ((d, sv) :: fs) mem
              | _ => xany P N w0 S km sf o fs mem k
            | some len => match xv with
              | .ptr _ b' o' => match oInt fs 0 lo with
                | none => False
                | some a => match oInt fs len hi with
                  | none => False
                  | some b => LSl (some ⟨b', o', none⟩) len sz a b fun sv => k ((d, sv) :: fs) mem
              | _ => xany P N w0 S km sf o fs mem k
          | none => xany P N w0 S km sf o fs mem k
def xnil (sf : Bool) (o : Oper) (x : Operand) (fs : Fr) (mem : Mem) (k : Fr → Mem → Prop) : Prop :=
  match opx fs x with
  | none => False
  | some v => match ptrOf v with
    | some _ => xput N o.dst v fs mem k
    | none => xany P N w0 S km sf o fs mem k
def xmove (o : Oper) (x : Operand) (fs : Fr) (mem : Mem) (k : Fr → Mem → Prop) : Prop :=
  match opx fs x with
  | none => False
  | some v => match o.dst with
    | none => False
    | some d => match Nat.blt d N.n with
      | false => False
      | true => k ((d, v) :: fs) mem
def xop (sf : Bool) (o : Oper) (fs : Fr) (mem : Mem) (k : Fr → Mem → Prop) : Prop :=
  match o.op with
  | .move x => xmove N o x fs mem k
  | .assign x => xmove N o x fs mem k
  | .pick c x y => xpick N sf o c x y fs mem k
  | .alloc t => xalloc tab N sf o t fs mem k
  | .box t x => xbox N sf o t x fs mem k
  | .build t ps => xbuild tab N o t ps.toList fs mem k
  | .buildSlice t len ps => xbuildSlice tab N sf o t len ps.toList fs mem k
  | .makeSlice t x y => xmakeSlice tab N sf o t x y fs mem k
  | .load t x => xload P tab N w0 S km sf o t x fs mem k
  | .store t x y => xstore P tab N w0 S km sf o t x y fs mem k
  | .nilCheck x => xnil P N w0 S km sf o x fs mem k
  | .binOp op t x y _ => xbin P tab N w0 S km sf o op t x y fs mem k
  | .unOp op _ x => xun P N w0 S km sf o op x fs mem k
  | .convert a b x => xconv P tab N w0 S km sf o a b x fs mem k
  | .makeFunc fn f c => xmakeFunc N o fn f.toList c.toList fs mem k
  | .slice t x lo hi mx => xslice P tab N w0 S km sf o t x lo hi mx fs mem k
  | .fieldAddr t x f => xfieldAddr P tab N w0 S km sf o t x f fs mem k
  | .field t x f => xfield P tab N w0 S km sf o t x f fs mem k
  | .indexAddr t x y => xindexAddr P tab N w0 S km sf o t x y fs mem k
  | .index t x y => xindex P tab N w0 S km sf o t x y fs mem k
  | .extract x ix => xextract P N w0 S km sf o x ix fs mem k
  | .call c => xcall P tab N w0 S km sf o c fs mem k
  | _ => xany P N w0 S km sf o fs mem k
/-- A guard. -/
def isBX (b want : Bool) : Bool := match b with
  | true => want
  | false => match want with
    | true => false
    | false => true
def xguard (T : List (Option Tmp)) (sf : Oper → Bool) (o : Oper) (fs : Fr) (mem : Mem) (k : Fr → Mem → Prop) : Prop :=
  match o.guard with
  | none => xop P tab N w0 S km (sf o) o fs mem k
  | some gw => match gw with
    | (g, want) => match T.getD g none with
      | none => False
      | some d => match fgetX fs d with
        | none => False
        | some v => match v with
          | .lit b => match isBX b want with
            | true => xop P tab N w0 S km (sf ⟨o.dst, o.op, o.type, o.pos, o.after, none⟩) ⟨o.dst, o.op, o.type, o.pos, o.after, none⟩ fs mem k
            | false => xput N o.dst (.val undef) fs mem k
          | .dec p i => match want with
            | true => LBr p (xop P tab N w0 S km (sf ⟨o.dst, o.op, o.type, o.pos, o.after, none⟩) ⟨o.dst, o.op, o.type, o.pos, o.after, none⟩ ((d, .lit true) :: fs) mem k) (xput N o.dst (.val undef) ((d, .lit false) :: fs) mem k)
            | false => LBr p (xput N o.dst (.val undef) ((d, .lit true) :: fs) mem k) (xop P tab N w0 S km (sf ⟨o.dst, o.op, o.type, o.pos, o.after, none⟩) ⟨o.dst, o.op, o.type, o.pos, o.after, none⟩ ((d, .lit false) :: fs) mem k)
          | .boo b => match want with
            | true => LBr (b = true) (xop P tab N w0 S km (sf ⟨o.dst, o.op, o.type, o.pos, o.after, none⟩) ⟨o.dst, o.op, o.type, o.pos, o.after, none⟩ ((d, .lit true) :: fs) mem k) (xput N o.dst (.val undef) ((d, .lit false) :: fs) mem k)
            | false => LBr (b = true) (xput N o.dst (.val undef) ((d, .lit true) :: fs) mem k) (xop P tab N w0 S km (sf ⟨o.dst, o.op, o.type, o.pos, o.after, none⟩) ⟨o.dst, o.op, o.type, o.pos, o.after, none⟩ ((d, .lit false) :: fs) mem k)
          | .val v => LSide (v = undef) (xput N o.dst (.val undef) fs mem k)
          | _ => False
def xs (T : List (Option Tmp)) (sf : Oper → Bool) (K : Fr → Mem → Prop) : List Oper → Fr → Mem → Prop
  | [], fs, mem => K fs mem
  | o :: rest, fs, mem => xguard P tab N w0 S km T sf o fs mem (xs T sf K rest)
end
end Go.Proofs.YtihboegopigkmaaDoor
