/- The walk by reckoning, part 1: values with marks, frames and memory with marks; what the operations do to them as a function that the kernel reckons; that it tells the truth. -/
import Derived.Test.YtihboegopigkmaaDoorSq
namespace Go.Proofs.YtihboegopigkmaaDoor
set_option linter.unusedSimpArgs false
set_option linter.unusedVariables false
set_option linter.unnecessarySimpa false
set_option linter.unusedSectionVars false
open Go.RowKit

/-! ### Values -/
inductive SV
  | int (k : IntKind) (n : Int)
  | lit (b : Bool)
  | dec (p : Prop) (i : Decidable p)
  | boo (b : Bool)
  | ptr (h b o : Nat)
  | ptrS (h b o : Nat)
  | agg (vs : List SV)
  | tup (vs : List SV)
  | fn (f : Fn) (first cap : List SV)
  | sl (h : Nat) (A : Option Addr) (n c : Nat)
  | slB (h b o n c : Nat)
  | val (v : Value)

mutual
def SV.den : SV → Value
  | .int k n => .int k n
  | .lit b => .bool b
  | .dec p i => .bool (@decide p i)
  | .boo b => .bool b
  | .ptr _ b o => .pointer (some ⟨b, o, none⟩)
  | .ptrS _ b o => .pointer (some ⟨b, o, none⟩)
  | .agg vs => .agg (dens vs).toArray
  | .tup vs => .tuple (dens vs).toArray
  | .fn f a c => .func f (dens a).toArray (dens c).toArray
  | .sl _ A n c => .slice A n c
  | .slB _ b o n c => .slice (some ⟨b, o, none⟩) n c
  | .val v => v
def dens : List SV → List Value
  | [] => []
  | v :: vs => v.den :: dens vs
end
theorem dens_map (vs : List SV) : dens vs = vs.map SV.den := by
  induction vs with
  | nil => rfl
  | cons v vs ih => simp [dens, ih]
theorem dens_length (vs : List SV) : (dens vs).length = vs.length := by simp [dens_map]
theorem dens_append (xs ys : List SV) : dens (xs ++ ys) = dens xs ++ dens ys := by simp [dens_map]

def svC : Value → SV
  | .int k n => .int k n
  | .bool b => .lit b
  | .slice A n c => .sl 0 A n c
  | v => .val v
theorem svC_den (v : Value) : (svC v).den = v := by cases v <;> rfl
def svCs : List Value → List SV
  | [] => []
  | v :: vs => svC v :: svCs vs
theorem svCs_den (vs : List Value) : dens (svCs vs) = vs := by
  induction vs with
  | nil => rfl
  | cons v vs ih => simp [svCs, dens, svC_den, ih]
def svOf : Value → SV
  | .agg cs => .agg (svCs cs.toList)
  | v => svC v
theorem svOf_den (v : Value) : (svOf v).den = v := by
  cases v <;> first | rfl | simp [svOf, SV.den, svCs_den]

def svCO : Value → Option SV
  | .int k n => some (.int k n)
  | .bool b => some (.lit b)
  | .slice A n c => some (.sl 0 A n c)
  | v => some (.val v)
theorem svCO_some {v : Value} {u : SV} (h : svCO v = some u) : u.den = v := by
  cases v <;> simp only [svCO, Option.some.injEq] at h <;> subst h <;> rfl
def svCsO : List Value → Option (List SV)
  | [] => some []
  | v :: vs => match svCO v with
    | some u => match svCsO vs with
      | some us => some (u :: us)
      | none => none
    | none => none
theorem svCsO_some : ∀ {vs : List Value} {us : List SV}, svCsO vs = some us → dens us = vs
  | [], us, h => by simp [svCsO] at h; subst h; rfl
  | v :: vs, us, h => by
    simp only [svCsO] at h
    split at h
    · rename_i u hu
      split at h
      · rename_i us' hus
        injection h with h
        subst h
        simp [dens, svCO_some hu, svCsO_some hus]
      · cases h
    · cases h
def svO : Value → Option SV
  | .agg cs => match svCsO cs.toList with
    | some us => some (.agg us)
    | none => none
  | v => svCO v
theorem svO_some {v : Value} {u : SV} (h : svO v = some u) : u.den = v := by
  unfold svO at h
  split at h
  · split at h
    · rename_i cs us hus
      injection h with h
      subst h
      simp [SV.den, svCsO_some hus]
    · cases h
  · exact svCO_some h

/-! ### Frames -/
abbrev Fr := List (Nat × SV)
def denF : Fr → List (Nat × Value)
  | [] => []
  | (t, v) :: r => (t, v.den) :: denF r
def fgetX : Fr → Nat → Option SV
  | [], _ => none
  | (k, v) :: r, t => match Nat.beq k t with
    | true => some v
    | false => fgetX r t
theorem fgetX_den (fs : Fr) (t : Nat) : fget (denF fs) t = (fgetX fs t).map SV.den := by
  induction fs with
  | nil => rfl
  | cons p r ih =>
    obtain ⟨k, v⟩ := p
    simp only [denF, fget, fgetX]
    cases Nat.beq k t <;> simp [ih]
def opx (fs : Fr) : Operand → Option SV
  | .tmp t => fgetX fs t
  | .const v => svO v
  | .global g => some (.ptrS 0 g 0)
  | .func f => some (.fn (.func f) [] [])
theorem opx_some {fs : Fr} {x : Operand} {v : SV} (h : opx fs x = some v) : opv (denF fs) x = some v.den := by
  cases x with
  | tmp t => simp only [opx] at h; simp only [opv, fgetX_den, h]; rfl
  | const c => simp only [opx] at h; simp only [opv, svO_some h]
  | global g => simp only [opx, Option.some.injEq] at h; subst h; rfl
  | func f => simp only [opx, Option.some.injEq] at h; subst h; rfl
def opxs (fs : Fr) : List Operand → Option (List SV)
  | [] => some []
  | x :: xs => match opx fs x with
    | some v => match opxs fs xs with
      | some vs => some (v :: vs)
      | none => none
    | none => none
theorem opxs_some {fs : Fr} : ∀ {xs : List Operand} {vs : List SV}, opxs fs xs = some vs → opvs (denF fs) xs = some (dens vs)
  | [], vs, h => by simp [opxs] at h; subst h; rfl
  | x :: xs, vs, h => by
    simp only [opxs] at h
    split at h
    · rename_i v hv
      split at h
      · rename_i vs' hvs
        injection h with h
        subst h
        simp [opvs, opx_some hv, opxs_some hvs, dens]
      · cases h
    · cases h
def opxps (fs : Fr) : List (Nat × Operand) → Option (List (Nat × SV))
  | [] => some []
  | (i, x) :: xs => match opx fs x with
    | some v => match opxps fs xs with
      | some vs => some ((i, v) :: vs)
      | none => none
    | none => none
theorem opxps_some {fs : Fr} : ∀ {xs : List (Nat × Operand)} {vs : List (Nat × SV)}, opxps fs xs = some vs → opvps (denF fs) xs = some (denF vs)
  | [], vs, h => by simp [opxps] at h; subst h; rfl
  | (i, x) :: xs, vs, h => by
    simp only [opxps] at h
    split at h
    · rename_i v hv
      split at h
      · rename_i vs' hvs
        injection h with h
        subst h
        simp [opvps, opx_some hv, opxps_some hvs, denF]
      · cases h
    · cases h

/-! ### Memory -/
inductive MI
  | blk (h : Nat) (t : TypeId) (b : Nat) (cs : List SV)
  | blkV (h : Nat) (t : TypeId) (b : Nat) (cs : List Value)
  | row (h : Nat) (e : TypeId) (sz : Nat) (A : Option Addr) (n c : Nat) (xs : List Value)
  | oth (h : Nat) (i : Itm)
def MI.itm : MI → Itm
  | .blk _ t b cs => Go.Proofs.YtihboegopigkmaaDoor.blk t b (dens cs)
  | .blkV _ t b cs => Go.Proofs.YtihboegopigkmaaDoor.blk t b cs
  | .row _ e sz A n c xs => own e sz (.slice A n c) n xs
  | .oth _ i => i
def MI.tag : MI → Nat
  | .blk h .. | .blkV h .. | .row h .. | .oth h _ => h
abbrev Mem := List MI
def denM : Mem → List Itm
  | [] => []
  | i :: r => i.itm :: denM r
theorem denM_map (m : Mem) : denM m = m.map MI.itm := by
  induction m with
  | nil => rfl
  | cons i m ih => simp [denM, ih]
theorem denM_append (a b : Mem) : denM (a ++ b) = denM a ++ denM b := by simp [denM_map]

def findB : Mem → Nat → Option MI
  | [], _ => none
  | i :: r, h => match Nat.beq i.tag h with
    | true => some i
    | false => findB r h
theorem findB_at {m : Mem} {h : Nat} {i : MI} (hf : findB m h = some i) : At (denM m) i.itm := by
  induction m with
  | nil => cases hf
  | cons j r ih =>
    simp only [findB] at hf
    split at hf
    · injection hf with hf; subst hf; exact .head
    · exact .tail (ih hf)
/-- The first item of a tag gives way to another. -/
def updB : Mem → Nat → MI → Option Mem
  | [], _, _ => none
  | i :: r, h, j => match Nat.beq i.tag h with
    | true => some (j :: r)
    | false => match updB r h j with
      | some r' => some (i :: r')
      | none => none
theorem updB_upd {m m' : Mem} {h : Nat} {i j : MI} (hf : findB m h = some i) (hu : updB m h j = some m') : Upd (denM m) i.itm j.itm (denM m') := by
  induction m generalizing m' with
  | nil => cases hf
  | cons k r ih =>
    simp only [findB, updB] at hf hu
    cases hb : Nat.beq k.tag h with
    | true =>
      rw [hb] at hf hu
      injection hf with hf; injection hu with hu
      subst hf hu
      exact .head
    | false =>
      rw [hb] at hf hu
      simp only at hf hu
      cases hr : updB r h j with
      | none => rw [hr] at hu; cases hu
      | some r' =>
        rw [hr] at hu
        injection hu with hu
        subst hu
        exact .tail (ih hf hr)
theorem updB_some {m : Mem} {h : Nat} {i j : MI} (hf : findB m h = some i) : ∃ m', updB m h j = some m' := by
  induction m with
  | nil => cases hf
  | cons k r ih =>
    simp only [findB, updB] at hf ⊢
    cases hb : Nat.beq k.tag h with
    | true => exact ⟨_, rfl⟩
    | false =>
      rw [hb] at hf
      obtain ⟨r', hr⟩ := ih hf
      exact ⟨k :: r', by simp [hr]⟩
def noTag : Mem → Nat → Bool
  | [], _ => true
  | i :: r, h => match Nat.beq i.tag h with
    | true => false
    | false => noTag r h
theorem updB_sub {m m' km : Mem} {h : Nat} {j : MI} (hs : km.Sublist m) (hn : noTag km h = true) (hu : updB m h j = some m') : km.Sublist m' := by
  induction hs generalizing m' with
  | slnil => exact List.nil_sublist _
  | @cons l1 l2 a _ ih =>
    simp only [updB] at hu
    cases hb : Nat.beq a.tag h with
    | true => rw [hb] at hu; injection hu with hu; subst hu; exact .cons _ (by assumption)
    | false =>
      rw [hb] at hu
      simp only at hu
      cases hr : updB l2 h j with
      | none => rw [hr] at hu; cases hu
      | some r' => rw [hr] at hu; injection hu with hu; subst hu; exact .cons _ (ih hn hr)
  | @cons_cons l1 l2 a _ ih =>
    simp only [updB] at hu
    simp only [noTag] at hn
    cases hb : Nat.beq a.tag h with
    | true => rw [hb] at hn; cases hn
    | false =>
      rw [hb] at hu hn
      simp only at hu hn
      cases hr : updB l2 h j with
      | none => rw [hr] at hu; cases hu
      | some r' => rw [hr] at hu; injection hu with hu; subst hu; exact .cons_cons _ (ih hn hr)
theorem denM_sub {a b : Mem} (h : a.Sublist b) : (denM a).Sublist (denM b) := by rw [denM_map, denM_map]; exact h.map _

/-! ### Lists of cells -/
def nthX : List SV → Nat → Option SV
  | [], _ => none
  | v :: _, 0 => some v
  | _ :: vs, n + 1 => nthX vs n
theorem nthX_den : ∀ (vs : List SV) (n : Nat), (dens vs)[n]? = (nthX vs n).map SV.den
  | [], n => by simp [dens, nthX]
  | v :: vs, 0 => by simp [dens, nthX]
  | v :: vs, n + 1 => by simp [dens, nthX, nthX_den vs n]
def takeX : Nat → List SV → Option (List SV)
  | 0, _ => some []
  | _ + 1, [] => none
  | n + 1, v :: vs => match takeX n vs with
    | some r => some (v :: r)
    | none => none
theorem takeX_some : ∀ {n : Nat} {vs r : List SV}, takeX n vs = some r → vs.take n = r ∧ n ≤ vs.length
  | 0, vs, r, h => by simp [takeX] at h; simp [h]
  | n + 1, [], r, h => by simp [takeX] at h
  | n + 1, v :: vs, r, h => by
    simp only [takeX] at h
    cases hr : takeX n vs with
    | none => rw [hr] at h; cases h
    | some r' =>
      rw [hr] at h; injection h with h; subst h
      obtain ⟨h1, h2⟩ := takeX_some hr
      exact ⟨by simp [h1], by simp; exact h2⟩
def dropX : Nat → List SV → Option (List SV)
  | 0, vs => some vs
  | _ + 1, [] => none
  | n + 1, _ :: vs => dropX n vs
theorem dropX_some : ∀ {n : Nat} {vs r : List SV}, dropX n vs = some r → vs.drop n = r ∧ n ≤ vs.length
  | 0, vs, r, h => by simp [dropX] at h; simp [h]
  | n + 1, [], r, h => by simp [dropX] at h
  | n + 1, v :: vs, r, h => by
    simp only [dropX] at h
    obtain ⟨h1, h2⟩ := dropX_some h
    exact ⟨by simp [h1], by simp; exact h2⟩
def rdX (agg : Bool) (sz : Nat) (cs : List SV) (off : Nat) : Option SV :=
  match agg with
  | true => match dropX off cs with
    | some r => match takeX sz r with
      | some vs => some (.agg vs)
      | none => none
    | none => none
  | false => nthX cs off
theorem rdX_some {agg : Bool} {sz : Nat} {cs : List SV} {off : Nat} {v : SV} (h : rdX agg sz cs off = some v) : rdv agg sz (dens cs) off = some v.den := by
  cases agg with
  | false => simp only [rdX] at h; simp only [rdv]; rw [nthX_den, h]; rfl
  | true =>
    simp only [rdX] at h
    cases h1 : dropX off cs with
    | none => rw [h1] at h; cases h
    | some r =>
      rw [h1] at h
      simp only at h
      cases h2 : takeX sz r with
      | none => rw [h2] at h; cases h
      | some vs =>
        rw [h2] at h
        injection h with h
        subst h
        obtain ⟨e1, l1⟩ := dropX_some h1
        obtain ⟨e2, l2⟩ := takeX_some h2
        subst e1 e2
        simp at l2
        simp only [rdv, dens_length, SV.den]
        rw [if_pos (by omega)]
        simp [dens_map, List.map_take, List.map_drop]
def cellsX : SV → List SV
  | .agg vs => vs
  | v => [v]
def cellsO : SV → Option (List SV)
  | .agg vs => some vs
  | v => some [v]
theorem cellsO_some {v : SV} {cs : List SV} (h : cellsO v = some cs) : cellsX v = cs := by
  cases v <;> simp only [cellsO, Option.some.injEq] at h <;> exact h
theorem cellsX_den {v : SV} (hv : ∀ u, v = .val u → u.cells = #[u]) : v.den.cells = (dens (cellsX v)).toArray := by
  cases v <;> first | rfl | (simp [SV.den, Value.cells, cellsX, dens]; done) | skip
  rename_i u
  have := hv u rfl
  simp [SV.den, cellsX, dens, this]
/-- A value of one cell that is none of a struct. -/
def oneX : SV → Prop
  | .agg _ | .tup _ => False
  | .val u => u.cells = #[u] ∧ u.oneCell' = true
  | _ => True
def allOne : List SV → Prop
  | [] => True
  | v :: vs => match v with
    | .agg _ | .tup _ => False
    | .val u => u.cells = #[u] ∧ u.oneCell' = true ∧ allOne vs
    | _ => allOne vs
theorem oneX_den {v : SV} (h : oneX v) : v.den.oneCell' = true := by
  cases v <;> simp only [oneX] at h <;> first | rfl | exact h.elim | exact h.2
theorem allOne_den : ∀ {vs : List SV}, allOne vs → (dens vs).all Value.oneCell' = true
  | [], _ => rfl
  | v :: vs, h => by
    simp only [dens, List.all_cons, Bool.and_eq_true]
    cases v <;> simp only [allOne] at h <;> first | exact h.elim | exact ⟨rfl, allOne_den h⟩ | exact ⟨h.2.1, allOne_den h.2.2⟩
theorem allOne_cells {v : SV} (h : allOne (cellsX v)) : v.den.cells = (dens (cellsX v)).toArray := by
  refine cellsX_den fun u hu => ?_
  subst hu
  exact h.1
def splX : List SV → Nat → List SV → Option (List SV)
  | l, 0, [] => some l
  | [], 0, _ :: _ => none
  | _ :: l, 0, v :: vs => match splX l 0 vs with
    | some r => some (v :: r)
    | none => none
  | [], _ + 1, _ => none
  | x :: l, n + 1, vs => match splX l n vs with
    | some r => some (x :: r)
    | none => none
theorem splX_spl : ∀ {l : List SV} {n : Nat} {vs r : List SV}, splX l n vs = some r → Spl (dens l) n (dens vs) (dens r)
  | l, 0, [], r, h => by
    have : l = r := by cases l <;> simpa [splX] using h
    subst this; exact .z
  | [], 0, _ :: _, r, h => by simp [splX] at h
  | x :: l, 0, v :: vs, r, h => by
    simp only [splX] at h
    cases hr : splX l 0 vs with
    | none => rw [hr] at h; cases h
    | some r' => rw [hr] at h; injection h with h; subst h; exact .c (splX_spl hr)
  | [], n + 1, vs, r, h => by cases vs <;> simp [splX] at h
  | x :: l, n + 1, vs, r, h => by
    have h : (match splX l n vs with | some r => some (x :: r) | none => none) = some r := by cases vs <;> simpa [splX] using h
    cases hr : splX l n vs with
    | none => rw [hr] at h; cases h
    | some r' => rw [hr] at h; injection h with h; subst h; exact .s (splX_spl hr)
def lenX : List SV → Nat → Bool
  | [], 0 => true
  | _ :: l, n + 1 => lenX l n
  | _, _ => false
theorem lenX_eq : ∀ {l : List SV} {n : Nat}, lenX l n = true → l.length = n
  | [], 0, _ => rfl
  | [], n + 1, h => by simp [lenX] at h
  | _ :: l, 0, h => by simp [lenX] at h
  | _ :: l, n + 1, h => by simp [lenX] at h; simp [lenX_eq h]
/-- Parts laid into cells. -/
def fillX (place : Nat → Option (Nat × Nat)) : List SV → List (Nat × SV) → Option (List SV)
  | cs, [] => some cs
  | cs, (i, v) :: ps => match place i with
    | some (off, sz) => match lenX (cellsX v) sz with
      | true => match splX cs off (cellsX v) with
        | some cs' => fillX place cs' ps
        | none => none
      | false => none
    | none => none
def partsOne : List (Nat × SV) → Prop
  | [] => True
  | (_, .val u) :: r => u.cells = #[u] ∧ partsOne r
  | _ :: r => partsOne r
theorem fillX_fil {place : Nat → Option (Nat × Nat)} : ∀ {ps : List (Nat × SV)} {cs r : List SV}, fillX place cs ps = some r → partsOne ps → FilL place (dens cs) (denF ps) (dens r)
  | [], cs, r, h, _ => by simp [fillX] at h; subst h; exact .nil
  | (i, v) :: ps, cs, r, h, ho => by
    simp only [fillX] at h
    cases hp : place i with
    | none => rw [hp] at h; cases h
    | some os =>
      obtain ⟨off, sz⟩ := os
      rw [hp] at h
      simp only at h
      cases hl : lenX (cellsX v) sz with
      | false => rw [hl] at h; cases h
      | true =>
        rw [hl] at h
        simp only at h
        cases hs : splX cs off (cellsX v) with
        | none => rw [hs] at h; cases h
        | some cs' =>
          rw [hs] at h
          simp only at h
          have hlen := lenX_eq hl
          have hc : v.den.cells = (dens (cellsX v)).toArray := cellsX_den fun u hu => by subst hu; exact ho.1
          have ho' : partsOne ps := by cases v <;> first | exact ho | exact ho.2
          exact .cons hc (by rw [hp, dens_length, hlen]) rfl (splX_spl hs) (fillX_fil h ho')

/-! ### Facts on types -/
inductive TD
  | int (k : IntKind)
  | bool
  | struct (fs : List (Nat × Nat))
  | arr (n e : Nat)
  | slice (e : Nat)
  | oth
structure TIn where
  agg : Bool
  sz : Nat
  by_ : Nat
  zero : Option (List SV)
  d : TD
  bld : Option (Nat → Option (Nat × Nat))
  eqk : Option (List SK)
structure Facts (P : Program) (t : TypeId) (i : TIn) : Prop where
  tl : TL P t i.agg i.sz
  tz : ∀ z, i.zero = some z → TZ P t (dens z)
  tb : TB P t i.by_
  ti : ∀ k, i.d = .int k → TI P t k
  tb' : i.d = .bool → TO P t
  tf : ∀ fs, i.d = .struct fs → ∀ f off ft, fs[f]? = some (off, ft) → TF P t f off ft
  ta : ∀ n e, i.d = .arr n e → TA P t n e
  ts : ∀ e, i.d = .slice e → TS P t e
  tw : ∀ z, i.zero = some z → z ≠ [] → TRw P t i.sz (dens z)
  tbd : ∀ p z, i.bld = some p → i.zero = some z → TBd P t p (dens z)
  tq : ∀ s, i.eqk = some s → TQ P t s
inductive Tr
  | leaf
  | node (k : Nat) (i : TIn) (l r : Tr)
def Tr.get : Tr → Nat → Option TIn
  | .leaf, _ => none
  | .node k i l r, t => match Nat.beq t k with
    | true => some i
    | false => match Nat.blt t k with
      | true => l.get t
      | false => r.get t
def Tr.ok (P : Program) : Tr → Prop
  | .leaf => True
  | .node k i l r => Facts P k i ∧ l.ok P ∧ r.ok P
theorem Tr.get_ok {P : Program} : ∀ {T : Tr} {t : Nat} {i : TIn}, T.ok P → T.get t = some i → Facts P t i
  | .leaf, t, i, _, h => by simp [Tr.get] at h
  | .node k j l r, t, i, ho, h => by
    simp only [Tr.get] at h
    cases hb : Nat.beq t k with
    | true =>
      rw [hb] at h
      injection h with h
      have : t = k := by simpa using hb
      subst this h
      exact ho.1
    | false =>
      rw [hb] at h
      simp only at h
      cases hl : Nat.blt t k with
      | true => rw [hl] at h; exact Tr.get_ok ho.2.1 h
      | false => rw [hl] at h; exact Tr.get_ok ho.2.2 h
end Go.Proofs.YtihboegopigkmaaDoor
