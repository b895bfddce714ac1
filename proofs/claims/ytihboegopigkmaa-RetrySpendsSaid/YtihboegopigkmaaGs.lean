/- The walk by reckoning, part 7: slices of integers; what may be known of the world at a place. -/
import Derived.Test.YtihboegopigkmaaGf
import Derived.Test.YtihboegopigkmaaMem
namespace Go.Proofs.Ytihboegopigkmaa
set_option linter.unusedSimpArgs false
set_option linter.unusedVariables false
set_option linter.unnecessarySimpa false
set_option linter.unusedSectionVars false
open Go.RowKit

section
variable {P : Program} {tab : Tr} {N : Nat} {w0 : World} {S : List Nat} {km mem : Mem} {k : Kt} {fs : Fr} {c : Code} {e : Exit}
theorem am_blk {h t b : Nat} {cs : List SV} {r : Mem} : At (denM (.blk h t b cs :: r)) (blk t b (dens cs)) := .head
theorem am_blkV {h t b : Nat} {cs : List Value} {r : Mem} : At (denM (.blkV h t b cs :: r)) (blk t b cs) := .head
theorem am_row {h e sz : Nat} {A : Option Addr} {n c : Nat} {xs : List Value} {r : Mem} : At (denM (.row h e sz A n c xs :: r)) (own e sz (.slice A n c) n xs) := .head
theorem am_oth {h : Nat} {i : Itm} {r : Mem} : At (denM (.oth h i :: r)) i := .head
theorem am_tail {i : Itm} {j : MI} {r : Mem} (h : At (denM r) i) : At (denM (j :: r)) i := .tail h
/-- A fact that holds in every world at the place. -/
theorem x_knowL {Φ : Prop} (hΦ : ∀ w, Loc w0 S (denM mem) w → Φ) (h : Φ → XLoop P N w0 S k fs mem c) : XLoop P N w0 S k fs mem c := ⟨⟨fun a w hk hl => (h (hΦ w hl)).go.go a w hk hl⟩⟩
theorem x_knowC {Φ : Prop} (hΦ : ∀ w, Loc w0 S (denM mem) w → Φ) (h : Φ → XC P N w0 S k fs mem c) : XC P N w0 S k fs mem c := ⟨⟨fun a w hk hl => (h (hΦ w hl)).go.go a w hk hl⟩⟩
theorem x_knowE {Φ : Prop} (hΦ : ∀ w, Loc w0 S (denM mem) w → Φ) (h : Φ → XE P N w0 S k fs mem e) : XE P N w0 S k fs mem e := ⟨⟨fun a w hk hl => (h (hΦ w hl)).go.go a w hk hl⟩⟩

/-- An own row of some length lies somewhere, from the start of a block on. -/
theorem own_some {w : World} {e : TypeId} {sz : Nat} {A : Option Addr} {n c : Nat} {xs : List Value} (h : (own e sz (.slice A n c) n xs).holds w) : 0 < n → ∃ b, A = some ⟨b, 0, none⟩ := by
  intro hn
  rcases h.2 with ⟨_, h0⟩ | ⟨g, cap', cur, hv, _⟩
  · omega
  · injection hv with hA _ _
    exact ⟨g, hA⟩
theorem row_some {w : World} {e : TypeId} {sz : Nat} {A : Option Addr} {n c : Nat} {xs : List Value} (hl : Loc w0 S (denM mem) w) (hat : At (denM mem) (own e sz (.slice A n c) n xs)) : 0 < n → ∃ b, A = some ⟨b, 0, none⟩ := own_some (hl.holds _ hat.mem)
theorem row_irow {w : World} {ik : IntKind} {e : TypeId} {A : Option Addr} {n c : Nat} {xs : List Int} (hl : Loc w0 S (denM mem) w) (hat : At (denM mem) (own e 1 (.slice A n c) n (xs.map (Value.int ik)))) : IRow ik w A n xs := IRow.of_own (hl.holds _ hat.mem)
/-- What was there reads as it did. -/
theorem irow_loc {w : World} {is : List Itm} {ik : IntKind} {A : Option Addr} {n : Nat} {xs : List Int} (hr : IRow ik w0 A n xs) (hl : Loc w0 [] is w) : IRow ik w A n xs := hr.below hl.below
/-- A block that reads as a list, by its tag. -/
def IRt (_ : Nat) (ik : IntKind) (w : World) (A : Option Addr) (n : Nat) (zs : List Int) : Prop := IRow ik w A n zs
theorem irow_tag {w : World} {ik : IntKind} {h b : Nat} {e : TypeId} {cs : List SV} {zs : List Int} (hl : Loc w0 S (denM mem) w) (hf : findB mem h = some (.blk h e b cs)) (hx : dens cs = zs.map (Value.int ik)) : IRt h ik w (some ⟨b, 0, none⟩) zs.length zs := by
  have hb := hl.holds _ (findB_at hf).mem
  refine irow_blk (t := e) ?_
  rw [← hx]
  exact hb

theorem ixs_irow {ik : IntKind} {A : Option Addr} {n : Nat} {xs : List Int} {i : Int} {X : Nat → Nat → Prop} (hr : IRow ik w0 A n xs) (h : 0 ≤ i ∧ i < n)
    (nx : ∀ b o, w0.cell? ⟨b, o + i.toNat * 1, none⟩ = some (SV.int ik (xs.getD i.toNat 0)).den → X b (o + i.toNat * 1)) : LIxS A i n 1 X := by
  obtain ⟨b, o, hA, hc⟩ := hr.2 (by omega)
  exact ⟨h.1, h.2, b, o, hA, nx b o (by rw [Nat.mul_one]; exact hc _ (by omega))⟩
theorem ixs_nat {ik : IntKind} {A : Option Addr} {n j : Nat} {xs : List Int} {X : Nat → Nat → Prop} (hr : IRow ik w0 A n xs) (h : j < n)
    (nx : ∀ b o, w0.cell? ⟨b, o + (j : Int).toNat * 1, none⟩ = some (SV.int ik (xs.getD j 0)).den → X b (o + (j : Int).toNat * 1)) : LIxS A (j : Int) n 1 X := by
  obtain ⟨b, o, hA, hc⟩ := hr.2 (by omega)
  exact ⟨by omega, by omega, b, o, hA, nx b o (by rw [Int.toNat_natCast, Nat.mul_one]; exact hc _ h)⟩
theorem ixs_row {A : Option Addr} {n sz : Nat} {i : Int} {X : Nat → Nat → Prop} (hr : 0 < n → ∃ b, A = some ⟨b, 0, none⟩) (h : 0 ≤ i ∧ i < n)
    (nx : ∀ b, A = some ⟨b, 0, none⟩ → X b (0 + i.toNat * sz)) : LIxS A i n sz X := by
  obtain ⟨b, hA⟩ := hr (by omega)
  exact ⟨h.1, h.2, b, 0, hA, nx b hA⟩
theorem load_row {t : TypeId} {e : TypeId} {sz : Nat} {A : Option Addr} {n c : Nat} {zs : List Int} {ik : IntKind} {b j : Nat} {X : SV → Prop} [TL P t false sz] (hA : A = some ⟨b, 0, none⟩) (hat : At (denM mem) (own e 1 (.slice A n c) n (zs.map (Value.int ik)))) (hj : j < n)
    (nx : X (.int ik (zs.getD j 0))) : LLoad P w0 S km t ⟨b, 0 + j * 1, none⟩ false mem X := by
  refine ⟨_, fun w _ h => ?_, nx⟩
  rcases h with h | h
  · cases h
  · obtain ⟨b', o', hA', hc⟩ := (row_irow h hat).2 (by omega)
    rw [hA] at hA'
    injection hA' with e
    injection e with e1 e2
    subst e1 e2
    have := hc j hj
    rw [Nat.zero_add] at this
    simp [loadVar, TL.isAgg (P := P) (t := t), this, SV.den]
theorem load_rowN {t : TypeId} {e : TypeId} {sz : Nat} {A : Option Addr} {n c : Nat} {zs : List Int} {ik : IntKind} {b j : Nat} {X : SV → Prop} [TL P t false sz] (hA : A = some ⟨b, 0, none⟩) (hat : At (denM mem) (own e 1 (.slice A n c) n (zs.map (Value.int ik)))) (hj : j < n)
    (nx : X (.int ik (zs.getD j 0))) : LLoad P w0 S km t ⟨b, 0 + (j : Int).toNat * 1, none⟩ false mem X := by
  rw [Int.toNat_natCast]; exact load_row hA hat hj nx
/-- A load at a symbolic place of a known block. -/
theorem load_rowV {t : TypeId} {e : TypeId} {sz : Nat} {A : Option Addr} {n c : Nat} {zs : List Int} {ik : IntKind} {b j : Nat} {X : SV → Prop} [TL P t false sz] (hA : A = some ⟨b, 0, none⟩) (hat : At (denM mem) (own e 1 (.slice A n c) n (zs.map (Value.int ik)))) (hj : j < n) {x : Int} (hx : zs.getD j 0 = x)
    (nx : X (.int ik x)) : LLoad P w0 S km t ⟨b, 0 + (j : Int).toNat * 1, none⟩ false mem X := by
  subst hx; exact load_rowN hA hat hj nx
theorem load_hold {t : TypeId} {e : TypeId} {sz b off : Nat} {cs : List Value} {v : SV} [TL P t false sz] {w : World} (hw : (blk e b cs).holds w) (hv : cs[off]? = some v.den) : (loadVar t ⟨b, off, none⟩).run P w = .ok v.den w := by
  have hw : w.heap[b]? = some (.cells cs.toArray e (0, 0)) := hw
  have h3 : w.cell? ⟨b, off, none⟩ = some v.den := by
    rw [cell_of_row _ _ _ _ _ _ hw]
    simpa using hv
  simp [loadVar, TL.isAgg (P := P) (t := t), h3]
theorem load_atK {t : TypeId} {e : TypeId} {sz b off : Nat} {cs : List Value} {sf : Bool} {X : SV → Prop} [TL P t false sz] (v : SV) (hat : At (denM km) (blk e b cs)) (hv : cs[off]? = some v.den)
    (nx : X v) : LLoad P w0 S km t ⟨b, off, none⟩ sf mem X := ⟨v, fun w h1 _ => load_hold (h1.holds _ hat.mem) hv, nx⟩
theorem load_atM {t : TypeId} {e : TypeId} {sz b off : Nat} {cs : List Value} {X : SV → Prop} [TL P t false sz] (v : SV) (hat : At (denM mem) (blk e b cs)) (hv : cs[off]? = some v.den)
    (nx : X v) : LLoad P w0 S km t ⟨b, off, none⟩ false mem X := ⟨v, fun w _ h2 => load_hold ((h2.resolve_left (by simp)).holds _ hat.mem) hv, nx⟩
theorem lcall_mk {F : FuncId} {args : List SV} {X : SV → Mem → Prop} [hF : CF P F] {R : SV → Mem → Prop} (hr : ∀ w, Loc w0 S (denM mem) w → RetX P F args w [] R) (nx : ∀ sv mi mm, R sv mi → mm = mi ++ mem → X sv mm) : LCall P w0 S km F args mem X :=
  lcall_new hr fun sv mi h => nx sv mi _ h rfl
/-- A call that writes items (tags) that are handed to it. -/
theorem lcall_wr {F : FuncId} {args : List SV} {X : SV → Mem → Prop} [hF : CF P F] {R : SV → Mem → Prop} {M : List Nat} (tags : List Nat) (hr : ∀ w, Loc w0 S (denM mem) w → RetX P F args w M R) (hM : ∀ k ∈ M, ∃ i ∈ denM (splitT tags mem).1, k ∈ i.foot) (hkm : km = [])
    (nx : ∀ sv mi mm, R sv mi → mm = mi ++ (splitT tags mem).2 → X sv mm) : LCall P w0 S km F args mem X :=
  lcall_mem tags hr hM hkm fun sv mi h => nx sv mi _ h rfl
/-- The end of a call that leaves items: tags may be changed. -/
theorem fin_retT {w : World} {M : List Nat} {u : SV} {R : SV → Mem → Prop} (v : SV) (m m' : Mem) (hv : v.den = u.den) (hm : msub m mem) (he : denM m' = denM m) (h : R v m') : XRet w M (fun e w' => ∃ v its, e = .returned v ∧ (∃ sv mi, v = SV.den sv ∧ its = denM mi ∧ R sv mi) ∧ Loc w M its w') mem u :=
  ⟨fun w' hl => ⟨_, _, rfl, ⟨v, m', hv.symm, rfl, h⟩, by rw [he]; exact msub_ok hm hl⟩⟩
/-- The world behind a call of an old row. -/
theorem irow_nilS (ik : IntKind) (w : World) (A : Option Addr) : IRow ik w A 0 [] := IRow.nil ik w A
end
end Go.Proofs.Ytihboegopigkmaa
