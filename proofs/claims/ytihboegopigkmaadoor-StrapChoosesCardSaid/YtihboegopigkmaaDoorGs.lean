/- The walk by reckoning, part 7: slices of integers; what may be known of the world at a place. -/
import Derived.Test.YtihboegopigkmaaDoorGf
import Derived.Test.YtihboegopigkmaaDoorGx
import Derived.Test.YtihboegopigkmaaDoorMem
import Derived.Laws.BitsLemmas
namespace Go.Proofs.YtihboegopigkmaaDoor
set_option linter.unusedSimpArgs false
set_option linter.unusedVariables false
set_option linter.unnecessarySimpa false
set_option linter.unusedSectionVars false
open Go.RowKit

section
variable {P : Program} {tab : Tr} {N : FN} {w0 : World} {S : List Nat} {km mem : Mem} {k : Kt} {fs : Fr} {c : Code} {e : Exit}
theorem am_blk {h t b : Nat} {cs : List SV} {r : Mem} : At (denM (.blk h t b cs :: r)) (blk t b (dens cs)) := .head
theorem am_blkV {h t b : Nat} {cs : List Value} {r : Mem} : At (denM (.blkV h t b cs :: r)) (blk t b cs) := .head
theorem am_row {h e sz : Nat} {A : Option Addr} {n c : Nat} {xs : List Value} {r : Mem} : At (denM (.row h e sz A n c xs :: r)) (own e sz (.slice A n c) n xs) := .head
theorem am_oth {h : Nat} {i : Itm} {r : Mem} : At (denM (.oth h i :: r)) i := .head
theorem am_tail {i : Itm} {j : MI} {r : Mem} (h : At (denM r) i) : At (denM (j :: r)) i := .tail h
/-- A fact that holds in every world at the place. -/
theorem x_knowL {Φ : Prop} (hΦ : ∀ w, Loc w0 S (denM mem) w → Φ) (h : Φ → XLoop P N w0 S k fs mem c) : XLoop P N w0 S k fs mem c := ⟨⟨fun a w hk hl => (h (hΦ w hl)).go.go a w hk hl⟩⟩
theorem x_knowC {Φ : Prop} (hΦ : ∀ w, Loc w0 S (denM mem) w → Φ) (h : Φ → XC P N w0 S k fs mem c) : XC P N w0 S k fs mem c := ⟨⟨fun a w hk hl => (h (hΦ w hl)).go.go a w hk hl⟩⟩
theorem x_knowE {Φ : Prop} (hΦ : ∀ w, Loc w0 S (denM mem) w → Φ) (h : Φ → XE P N w0 S k fs mem e) : XE P N w0 S k fs mem e := ⟨⟨fun a w hk hl => (h (hΦ w hl)).go.go a w hk hl⟩⟩

/-- An own row of some length lies somewhere, from the start of a block on. -/
theorem own_some {w : World} {e : TypeId} {sz : Nat} {A : Option Addr} {n c : Nat} {xs : List Value} (h : (own e sz (.slice A n c) n xs).holds w) : 0 < n → ∃ b, A = some ⟨b, 0, none⟩ := by
  intro hn
  rcases h.2 with ⟨_, h0⟩ | ⟨g, cap', cur, hv, _⟩
  · omega
  · injection hv with hA _ _
    exact ⟨g, hA⟩
theorem row_some {w : World} {e : TypeId} {sz : Nat} {A : Option Addr} {n c : Nat} {xs : List Value} (hl : Loc w0 S (denM mem) w) (hat : At (denM mem) (own e sz (.slice A n c) n xs)) : 0 < n → ∃ b, A = some ⟨b, 0, none⟩ := own_some (hl.holds _ hat.mem)
theorem row_irow {w : World} {ik : IntKind} {e : TypeId} {A : Option Addr} {n c : Nat} {xs : List Int} (hl : Loc w0 S (denM mem) w) (hat : At (denM mem) (own e 1 (.slice A n c) n (xs.map (Value.int ik)))) : IRow ik w A n xs := IRow.of_own (hl.holds _ hat.mem)
/-- What was there reads as it did. -/
theorem irow_loc {w : World} {is : List Itm} {ik : IntKind} {A : Option Addr} {n : Nat} {xs : List Int} (hr : IRow ik w0 A n xs) (hl : Loc w0 [] is w) : IRow ik w A n xs := hr.below hl.below
/-- A block that reads as a list, by its tag. -/
def IRt (_ : Nat) (ik : IntKind) (w : World) (A : Option Addr) (n : Nat) (zs : List Int) : Prop := IRow ik w A n zs
theorem irow_tag {w : World} {ik : IntKind} {h b : Nat} {e : TypeId} {cs : List SV} {zs : List Int} (hl : Loc w0 S (denM mem) w) (hf : findB mem h = some (.blk h e b cs)) (hx : dens cs = zs.map (Value.int ik)) : IRt h ik w (some ⟨b, 0, none⟩) zs.length zs := by
  have hb := hl.holds _ (findB_at hf).mem
  refine irow_blk (t := e) ?_
  rw [← hx]
  exact hb

theorem ixs_irow {ik : IntKind} {A : Option Addr} {n : Nat} {xs : List Int} {i : Int} {X : Nat → Nat → Prop} (hr : IRow ik w0 A n xs) (h : 0 ≤ i ∧ i < n)
    (nx : ∀ b o, w0.cell? ⟨b, o + i.toNat * 1, none⟩ = some (SV.int ik (xs.getD i.toNat 0)).den → X b (o + i.toNat * 1)) : LIxS A i n 1 X := by
  obtain ⟨b, o, hA, hc⟩ := hr.2 (by omega)
  exact ⟨h.1, h.2, b, o, hA, nx b o (by rw [Nat.mul_one]; exact hc _ (by omega))⟩
theorem ixs_nat {ik : IntKind} {A : Option Addr} {n j : Nat} {xs : List Int} {X : Nat → Nat → Prop} (hr : IRow ik w0 A n xs) (h : j < n)
    (nx : ∀ b o, w0.cell? ⟨b, o + (j : Int).toNat * 1, none⟩ = some (SV.int ik (xs.getD j 0)).den → X b (o + (j : Int).toNat * 1)) : LIxS A (j : Int) n 1 X := by
  obtain ⟨b, o, hA, hc⟩ := hr.2 (by omega)
  exact ⟨by omega, by omega, b, o, hA, nx b o (by rw [Int.toNat_natCast, Nat.mul_one]; exact hc _ h)⟩
theorem ixs_row {A : Option Addr} {n sz : Nat} {i : Int} {X : Nat → Nat → Prop} (hr : 0 < n → ∃ b, A = some ⟨b, 0, none⟩) (h : 0 ≤ i ∧ i < n)
    (nx : ∀ b, A = some ⟨b, 0, none⟩ → X b (0 + i.toNat * sz)) : LIxS A i n sz X := by
  obtain ⟨b, hA⟩ := hr (by omega)
  exact ⟨h.1, h.2, b, 0, hA, nx b hA⟩
theorem load_row {t : TypeId} {e : TypeId} {sz : Nat} {A : Option Addr} {n c : Nat} {zs : List Int} {ik : IntKind} {b j : Nat} {X : SV → Prop} [TL P t false sz] (hA : A = some ⟨b, 0, none⟩) (hat : At (denM mem) (own e 1 (.slice A n c) n (zs.map (Value.int ik)))) (hj : j < n)
    (nx : X (.int ik (zs.getD j 0))) : LLoad P w0 S km t ⟨b, 0 + j * 1, none⟩ false mem X := by
  refine ⟨_, fun w _ h => ?_, nx⟩
  rcases h with h | h
  · cases h
  · obtain ⟨b', o', hA', hc⟩ := (row_irow h hat).2 (by omega)
    rw [hA] at hA'
    injection hA' with e
    injection e with e1 e2
    subst e1 e2
    have := hc j hj
    rw [Nat.zero_add] at this
    simp [loadVar, TL.isAgg (P := P) (t := t), this, SV.den]
theorem load_rowN {t : TypeId} {e : TypeId} {sz : Nat} {A : Option Addr} {n c : Nat} {zs : List Int} {ik : IntKind} {b j : Nat} {X : SV → Prop} [TL P t false sz] (hA : A = some ⟨b, 0, none⟩) (hat : At (denM mem) (own e 1 (.slice A n c) n (zs.map (Value.int ik)))) (hj : j < n)
    (nx : X (.int ik (zs.getD j 0))) : LLoad P w0 S km t ⟨b, 0 + (j : Int).toNat * 1, none⟩ false mem X := by
  rw [Int.toNat_natCast]; exact load_row hA hat hj nx
/-- A load at a symbolic place of a known block. -/
theorem load_rowV {t : TypeId} {e : TypeId} {sz : Nat} {A : Option Addr} {n c : Nat} {zs : List Int} {ik : IntKind} {b j : Nat} {X : SV → Prop} [TL P t false sz] (hA : A = some ⟨b, 0, none⟩) (hat : At (denM mem) (own e 1 (.slice A n c) n (zs.map (Value.int ik)))) (hj : j < n) {x : Int} (hx : zs.getD j 0 = x)
    (nx : X (.int ik x)) : LLoad P w0 S km t ⟨b, 0 + (j : Int).toNat * 1, none⟩ false mem X := by
  subst hx; exact load_rowN hA hat hj nx
theorem load_hold {t : TypeId} {e : TypeId} {sz b off : Nat} {cs : List Value} {v : SV} [TL P t false sz] {w : World} (hw : (blk e b cs).holds w) (hv : cs[off]? = some v.den) : (loadVar t ⟨b, off, none⟩).run P w = .ok v.den w := by
  have hw : w.heap[b]? = some (.cells cs.toArray e (0, 0)) := hw
  have h3 : w.cell? ⟨b, off, none⟩ = some v.den := by
    rw [cell_of_row _ _ _ _ _ _ hw]
    simpa using hv
  simp [loadVar, TL.isAgg (P := P) (t := t), h3]
theorem load_atK {t : TypeId} {e : TypeId} {sz b off : Nat} {cs : List Value} {sf : Bool} {X : SV → Prop} [TL P t false sz] (v : SV) (hat : At (denM km) (blk e b cs)) (hv : cs[off]? = some v.den)
    (nx : X v) : LLoad P w0 S km t ⟨b, off, none⟩ sf mem X := ⟨v, fun w h1 _ => load_hold (h1.holds _ hat.mem) hv, nx⟩
theorem load_atM {t : TypeId} {e : TypeId} {sz b off : Nat} {cs : List Value} {X : SV → Prop} [TL P t false sz] (v : SV) (hat : At (denM mem) (blk e b cs)) (hv : cs[off]? = some v.den)
    (nx : X v) : LLoad P w0 S km t ⟨b, off, none⟩ false mem X := ⟨v, fun w _ h2 => load_hold ((h2.resolve_left (by simp)).holds _ hat.mem) hv, nx⟩
theorem lcall_mk {F : FuncId} {args : List SV} {X : SV → Mem → Prop} [hF : CF P F] {R : SV → Mem → Prop} (hr : ∀ w, Loc w0 S (denM mem) w → RetX P F args w [] R) (nx : ∀ sv mi mm, R sv mi → mm = mi ++ mem → X sv mm) : LCall P w0 S km F args mem X :=
  lcall_new hr fun sv mi h => nx sv mi _ h rfl
/-- A call that writes items (tags) that are handed to it. -/
theorem lcall_wr {F : FuncId} {args : List SV} {X : SV → Mem → Prop} [hF : CF P F] {R : SV → Mem → Prop} {M : List Nat} (tags : List Nat) (hr : ∀ w, Loc w0 S (denM mem) w → RetX P F args w M R) (hM : ∀ k ∈ M, ∃ i ∈ denM (splitT tags mem).1, k ∈ i.foot) (hkm : km = [])
    (nx : ∀ sv mi mm, R sv mi → mm = mi ++ (splitT tags mem).2 → X sv mm) : LCall P w0 S km F args mem X :=
  lcall_mem tags hr hM hkm fun sv mi h => nx sv mi _ h rfl
/-- The end of a call that leaves items: tags may be changed. -/
theorem fin_retT {w : World} {M : List Nat} {u : SV} {R : SV → Mem → Prop} (v : SV) (m m' : Mem) (hv : v.den = u.den) (hm : msub m mem) (he : denM m' = denM m) (h : R v m') : XRet w M (fun e w' => ∃ v its, e = .returned v ∧ (∃ sv mi, v = SV.den sv ∧ its = denM mi ∧ R sv mi) ∧ Loc w M its w') mem u :=
  ⟨fun w' hl => ⟨_, _, rfl, ⟨v, m', hv.symm, rfl, h⟩, by rw [he]; exact msub_ok hm hl⟩⟩
/-- The world behind a call of an old row. -/
theorem irow_nilS (ik : IntKind) (w : World) (A : Option Addr) : IRow ik w A 0 [] := IRow.nil ik w A
theorem blk_owns {w : World} {e : TypeId} {b n : Nat} {cs : List Value} (h : (blk e b cs).holds w) (hl : cs.length = n) (hn : n ≤ maxLen) : w.ownsRow 0 e 1 (.slice (some ⟨b, 0, none⟩) n n) n cs := by
  refine ⟨by omega, .inr ⟨b, n, cs.toArray, rfl, Nat.zero_le _, h, Nat.le_refl _, hn, by simp [hl], ?_⟩⟩
  simp [← hl]
/-- Appending what reads as a list onto what is the call's own. -/
theorem eff_append {t e : TypeId} {by_ n m c c2 tag : Nat} {ik : IntKind} {z xs : List Value} {ys : List Int} {A A2 : Option Addr} {vx vy : SV} {i : Itm} {its : Option Addr → Nat → Mem} {x y : Operand} {d : Tmp} {ty : TypeId} {pos : String} {aft : Array Edge} {gd : Option (Nat × Bool)} {X : SV → Mem → Prop}
    [h1 : TS P t e] [h2 : TRw P e 1 z] [h3 : TB P e by_]
    (hx : opx fs x = some vx) (hxd : vx.den = .slice A n c) (hy : opx fs y = some vy) (hyd : vy.den = .slice A2 m c2)
    (hi : ∀ w, i.holds w → w.ownsRow 0 e 1 (.slice A n c) n xs) (hif : i.foot = (Value.slice A n c).ownBlock.toList) (hat : At (denM mem) i)
    (hr : ∀ w, Loc w0 S (denM mem) w → IRow ik w A2 m ys) (hn0 : A2 = none → c2 = 0) (hb : (n + m) * by_ ≤ 140737488355328) (hby : 1 ≤ by_)
    (hU : ∀ A' c', Upd (denM mem) i (own e 1 (.slice A' (n + m) c') (n + m) (xs ++ ys.map (Value.int ik))) (denM (its A' c')))
    (nx : ∀ A' c', RF A' (n + m) c' → (km.Sublist mem → km.Sublist (its A' c')) ∧ X (.sl tag A' (n + m) c') (its A' c')) :
    LEff P N w0 S km ⟨some d, .call { callee := .builtin .append, args := #[x, y], argTypes := #[t, t] }, ty, pos, aft, gd⟩ fs mem X := by
  refine ⟨{u : Option Addr × Nat // RF u.1 (n + m) u.2}, fun u => .sl tag u.1.1 (n + m) u.1.2, fun u => its u.1.1 u.1.2, fun w1 S1 a w hk hlc hl1 => ?_, fun u => nx u.1.1 u.1.2 u.2⟩
  have ho := hi w (hlc.holds _ hat.mem)
  have ex : a.eval x = .slice A n c := by rw [hk.eval (opx_some hx), hxd]
  have ey : a.eval y = .slice A2 m c2 := by rw [hk.eval (opx_some hy), hyd]
  obtain ⟨hsz, u, hu', hc⟩ := TRw.run (P := P) (e := e) w
  have hbi := h3.i
  cases hif' : P.info? e with
  | none => simp [hif'] at hbi
  | some inf =>
    have hz := h2.zc
    have hsi := h2.s
    simp [hif'] at hbi hsi
    cases A2 with
    | none =>
      obtain rfl := hn0 rfl
      have hm : m = 0 := by
        rcases Nat.eq_zero_or_pos m with h0 | h0
        · exact h0
        · obtain ⟨_, _, e, _⟩ := (hr w hlc).2 h0; cases e
      subst hm
      obtain rfl : ys = [] := List.eq_nil_of_length_eq_zero (hr w hlc).1
      have hrun := run_append_owned_none (P := P) (w := w) 0 t ty e inf 1 h1.u hif' _ n xs ho
      refine ⟨⟨(A, c), rf_own ho⟩, w, .inl ?_, ?_⟩
      · simp [execOp, resolve, invoke, builtin, ex, ey, hrun, SV.den]
      · obtain ⟨k, hk1, hk2⟩ := (hU A c).set
        show Loc w1 S1 (denM (its A c)) w
        rw [hk2]
        refine hl1.set hk1 rfl rfl rfl (Nat.le_refl _) (fun k' hk' hki => rfl) _ ?_ (fun k' hk' => ?_)
        · show w.ownsRow 0 e 1 (.slice A (n + 0) c) (n + 0) (xs ++ [])
          rw [List.append_nil]; exact ho
        · left; rw [hif]; exact hk'
    | some ad =>
      cases hzz : inf.zero with
      | none => simp [hif', hzz] at hz
      | some zz =>
        simp [hif', hzz] at hz
        have hnm : n + m ≤ maxLen := by
          have : (n + m) * 1 ≤ (n + m) * by_ := Nat.mul_le_mul_left _ hby
          unfold maxLen; omega
        have hlen := (hr w hlc).1
        have hnews : ∀ j u, (ys.map (Value.int ik))[j]? = some u → w.cell? (ad.add j) = some u := by
          intro j u hu
          have hj : j < m := by
            have := (List.getElem?_eq_some_iff.1 hu).1
            rw [List.length_map, hlen] at this
            exact this
          obtain ⟨b, off, e, hc⟩ := (hr w hlc).2 (by omega)
          injection e with e
          subst e
          have h2 : (⟨b, off, none⟩ : Addr).add j = ⟨b, off + j, none⟩ := by unfold Addr.add; split <;> simp_all
          rw [h2, hc j hj, ← hu]
          simp [List.getD, List.getElem?_eq_getElem (show j < ys.length by omega)]
        obtain ⟨v', w', hr', hown', hg, _, hat'⟩ := run_append_own_at (P := P) w 0 t ty e inf zz 1 by_ h1.u hif' hzz hsi hbi (by rw [hz]; simp [h2.l]) h2.p _ n xs ho ad m c2 (ys.map (Value.int ik)) (by simp [hlen]) hnews (by
          intro u hu
          obtain ⟨y, _, rfl⟩ := List.mem_map.1 hu
          rfl) hnm hb (Nat.zero_le _)
        obtain ⟨A', c', rfl⟩ := ownForm hown'
        obtain ⟨k, hk1, hk2⟩ := (hU A' c').set
        refine ⟨⟨(A', c'), rf_own hown'⟩, w', .inl ?_, ?_⟩
        · simp [execOp, resolve, invoke, builtin, ex, ey, hr', SV.den]
        · show Loc w1 S1 (denM (its A' c')) w'
          rw [hk2]
          refine hl1.set hk1 hg.os hg.tape hg.output hg.size (fun k' hk' hki => hg.block k' hk' (fun e => hki ?_)) _ hown' (fun k' hk' => ?_)
          · rw [hif, ← e]; simp
          · have hk'' : (Value.slice A' (n + m) c').ownBlock = some k' := by simpa [own] using hk'
            rcases hat' with hat' | hat'
            · left; rw [hif, ← hat', hk'']; simp
            · right; rw [hat'] at hk''; injection hk'' with hk''; omega
/-- .. onto a row. -/
theorem app_row {t e : TypeId} {by_ n m c c2 h : Nat} {ik : IntKind} {z xs : List Value} {ys : List Int} {A A2 : Option Addr} {vy : SV} {its : Option Addr → Nat → Mem} {x y : Operand} {d : Tmp} {ty : TypeId} {pos : String} {aft : Array Edge} {gd : Option (Nat × Bool)} {X : SV → Mem → Prop}
    [h1 : TS P t e] [h2 : TRw P e 1 z] [h3 : TB P e by_]
    (hx : opx fs x = some (.sl h A n c)) (hf : findB mem h = some (.row h e 1 A n c xs)) (hy : opx fs y = some vy) (hyd : vy.den = .slice A2 m c2)
    (hr : ∀ w, Loc w0 S (denM mem) w → IRow ik w A2 m ys) (hn0 : A2 = none → c2 = 0) (hb : (n + m) * by_ ≤ 140737488355328) (hby : 1 ≤ by_)
    (hu : ∀ A' c', updB mem h (.row h e 1 A' (n + m) c' (xs ++ ys.map (Value.int ik))) = some (its A' c')) (hn : noTag km h = true)
    (nx : ∀ A' c', RF A' (n + m) c' → X (.sl h A' (n + m) c') (its A' c')) :
    LEff P N w0 S km ⟨some d, .call { callee := .builtin .append, args := #[x, y], argTypes := #[t, t] }, ty, pos, aft, gd⟩ fs mem X :=
  eff_append hx rfl hy hyd (i := own e 1 (.slice A n c) n xs) (fun w h => h) rfl (findB_at hf) hr hn0 hb hby (fun A' c' => updB_upd hf (hu A' c')) (fun A' c' hf' => ⟨fun hs => updB_sub hs hn (hu A' c'), nx A' c' hf'⟩)
/-- .. onto a block that was just built. -/
theorem app_blk {t e : TypeId} {by_ n m c2 h b : Nat} {ik : IntKind} {z : List Value} {cs : List SV} {ys : List Int} {A2 : Option Addr} {vy : SV} {its : Option Addr → Nat → Mem} {x y : Operand} {d : Tmp} {ty : TypeId} {pos : String} {aft : Array Edge} {gd : Option (Nat × Bool)} {X : SV → Mem → Prop}
    [h1 : TS P t e] [h2 : TRw P e 1 z] [h3 : TB P e by_]
    (hx : opx fs x = some (.slB h b 0 n n)) (hf : findB mem h = some (.blk h e b cs)) (hl : lenX cs n = true) (hy : opx fs y = some vy) (hyd : vy.den = .slice A2 m c2)
    (hr : ∀ w, Loc w0 S (denM mem) w → IRow ik w A2 m ys) (hn0 : A2 = none → c2 = 0) (hb : (n + m) * by_ ≤ 140737488355328) (hby : 1 ≤ by_)
    (hu : ∀ A' c', updB mem h (.row h e 1 A' (n + m) c' (dens cs ++ ys.map (Value.int ik))) = some (its A' c')) (hn : noTag km h = true)
    (nx : ∀ A' c', RF A' (n + m) c' → X (.sl h A' (n + m) c') (its A' c')) :
    LEff P N w0 S km ⟨some d, .call { callee := .builtin .append, args := #[x, y], argTypes := #[t, t] }, ty, pos, aft, gd⟩ fs mem X :=
  eff_append hx rfl hy hyd (i := blk e b (dens cs)) (fun w h => blk_owns h (by rw [dens_length, lenX_eq hl]) (by
    have : (n + m) * 1 ≤ (n + m) * by_ := Nat.mul_le_mul_left _ hby
    unfold maxLen; omega)) rfl (findB_at hf) hr hn0 hb hby (fun A' c' => updB_upd hf (hu A' c')) (fun A' c' hf' => ⟨fun hs => updB_sub hs hn (hu A' c'), nx A' c' hf'⟩)
/-- .. and it reads as a list of integers. -/
theorem app_blkI {t e : TypeId} {by_ n m c2 h b : Nat} {ik : IntKind} {z : List Value} {cs : List SV} {ys : List Int} (zs : List Int) {A2 : Option Addr} {vy : SV} {its : Option Addr → Nat → Mem} {x y : Operand} {d : Tmp} {ty : TypeId} {pos : String} {aft : Array Edge} {gd : Option (Nat × Bool)} {X : SV → Mem → Prop}
    [h1 : TS P t e] [h2 : TRw P e 1 z] [h3 : TB P e by_]
    (hx : opx fs x = some (.slB h b 0 n n)) (hf : findB mem h = some (.blk h e b cs)) (hl : lenX cs n = true) (hz : dens cs = zs.map (Value.int ik)) (hy : opx fs y = some vy) (hyd : vy.den = .slice A2 m c2)
    (hr : ∀ w, Loc w0 S (denM mem) w → IRow ik w A2 m ys) (hn0 : A2 = none → c2 = 0) (hb : (n + m) * by_ ≤ 140737488355328) (hby : 1 ≤ by_)
    (hu : ∀ A' c', updB mem h (.row h e 1 A' (n + m) c' ((zs ++ ys).map (Value.int ik))) = some (its A' c')) (hn : noTag km h = true)
    (nx : ∀ A' c', RF A' (n + m) c' → X (.sl h A' (n + m) c') (its A' c')) :
    LEff P N w0 S km ⟨some d, .call { callee := .builtin .append, args := #[x, y], argTypes := #[t, t] }, ty, pos, aft, gd⟩ fs mem X :=
  app_blk hx hf hl hy hyd hr hn0 hb hby (fun A' c' => by rw [hz, ← List.map_append]; exact hu A' c') hn nx
theorem own_facts {w : World} {e : TypeId} {sz : Nat} {A : Option Addr} {n c : Nat} {xs : List Value} (h : (own e sz (.slice A n c) n xs).holds w) : (n ≤ c ∧ c ≤ maxLen) ∧ (A = none → c = 0) ∧ (0 < n → ∃ b, A = some ⟨b, 0, none⟩) := by
  refine ⟨?_, ?_, own_some h⟩
  · rcases h.2 with ⟨hv, h0⟩ | ⟨g, cap', cur, hv, _, _, h1, h2, _⟩
    · injection hv with _ _ hc; subst hc; subst h0; exact ⟨Nat.le_refl _, Nat.zero_le _⟩
    · injection hv with _ _ hc; subst hc; exact ⟨h1, h2⟩
  · intro hA
    rcases h.2 with ⟨hv, h0⟩ | ⟨g, cap', cur, hv, _⟩
    · injection hv
    · injection hv with hA'; rw [hA] at hA'; cases hA'
theorem row_facts {w : World} {e : TypeId} {sz : Nat} {A : Option Addr} {n c : Nat} {xs : List Value} (hl : Loc w0 S (denM mem) w) (hat : At (denM mem) (own e sz (.slice A n c) n xs)) : (n ≤ c ∧ c ≤ maxLen) ∧ (A = none → c = 0) ∧ (0 < n → ∃ b, A = some ⟨b, 0, none⟩) := own_facts (hl.holds _ hat.mem)
/-- The end of a call that leaves items: what holds in its world may be used. -/
theorem fin_retW {w : World} {M : List Nat} {u : SV} {R : SV → Mem → Prop} (v : SV) (m m' : Mem) (hv : v.den = u.den) (hm : msub m mem) (he : denM m' = denM m) (h : ∀ w', Loc w M (denM mem) w' → R v m') : XRet w M (fun e w' => ∃ v its, e = .returned v ∧ (∃ sv mi, v = SV.den sv ∧ its = denM mi ∧ R sv mi) ∧ Loc w M its w') mem u :=
  ⟨fun w' hl => ⟨_, _, rfl, ⟨v, m', hv.symm, rfl, h w' hl⟩, by rw [he]; exact msub_ok hm hl⟩⟩
/-- A row of one's own, as a result. -/
def RowR (tag : Nat) (e : TypeId) (ik : IntKind) (zs : List Int) (v : SV) (mi : Mem) : Prop :=
  ∃ A c, v = .sl tag A zs.length c ∧ mi = [.row tag e 1 A zs.length c (zs.map (Value.int ik))] ∧ (zs.length ≤ c ∧ c ≤ maxLen) ∧ (A = none → c = 0) ∧ (0 < zs.length → ∃ b, A = some ⟨b, 0, none⟩)
theorem fin_row {w : World} {M : List Nat} {e : TypeId} {ik : IntKind} {h n c : Nat} {A : Option Addr} {xs : List Value} {zs : List Int} (tag : Nat) (hm : msub [.row h e 1 A n c xs] mem) (hn : zs.length = n) (hx : xs = zs.map (Value.int ik)) (hat : At (denM mem) (own e 1 (.slice A n c) n xs)) :
    XRet w M (fun e' w' => ∃ v its, e' = .returned v ∧ (∃ sv mi, v = SV.den sv ∧ its = denM mi ∧ RowR tag e ik zs sv mi) ∧ Loc w M its w') mem (.sl h A n c) := by
  subst hx hn
  exact fin_retW (.sl tag A zs.length c) [.row h e 1 A zs.length c (zs.map (Value.int ik))] [.row tag e 1 A zs.length c (zs.map (Value.int ik))] rfl hm rfl (fun w' hl => ⟨A, c, rfl, rfl, row_facts hl hat⟩)

theorem ixs_old {ik : IntKind} {A : Option Addr} {n j : Nat} {xs : List Int} {i : Int} {X : Nat → Nat → Prop} (hr : IRow ik w0 A n xs) (h : 0 ≤ i ∧ i < n) (hj : i.toNat = j)
    (nx : ∀ b o, w0.cell? ⟨b, o + i.toNat * 1, none⟩ = some (SV.int ik (xs.getD j 0)).den → X b (o + i.toNat * 1)) : LIxS A i n 1 X := by
  subst hj; exact ixs_irow hr h nx
theorem load_rowI {t : TypeId} {e : TypeId} {sz : Nat} {A : Option Addr} {n c : Nat} {zs : List Int} {ik : IntKind} {b j : Nat} {i : Int} {X : SV → Prop} [TL P t false sz] (hA : A = some ⟨b, 0, none⟩) (hat : At (denM mem) (own e 1 (.slice A n c) n (zs.map (Value.int ik)))) (hi : i.toNat = j) (hj : j < n)
    (nx : X (.int ik (zs.getD j 0))) : LLoad P w0 S km t ⟨b, 0 + i.toNat * 1, none⟩ false mem X := by
  subst hi; exact load_row hA hat hj nx
theorem load_rowK {t : TypeId} {e : TypeId} {sz : Nat} {A : Option Addr} {n c : Nat} {zs : List Int} {ik : IntKind} {b j : Nat} {i : Int} {sf : Bool} {X : SV → Prop} [TL P t false sz] (hA : A = some ⟨b, 0, none⟩) (hat : At (denM km) (own e 1 (.slice A n c) n (zs.map (Value.int ik)))) (hi : i.toNat = j) (hj : j < n)
    (nx : X (.int ik (zs.getD j 0))) : LLoad P w0 S km t ⟨b, 0 + i.toNat * 1, none⟩ sf mem X := by
  subst hi
  obtain ⟨v, h1, h2⟩ := (load_row (w0 := w0) (S := S) (km := km) (mem := km) (P := P) (t := t) hA hat hj nx).go
  exact ⟨v, fun w hk _ => h1 w hk (.inr hk), h2⟩
theorem irow_sub {ik : IntKind} {w : World} {A : Option Addr} {n lo hi c : Nat} {zs : List Int} (hr : IRow ik w A n zs) (h1 : lo ≤ hi) (h2 : hi ≤ n) : IRow ik w (if c = lo then A else A.map (·.add (lo * 1))) (hi - lo) ((zs.take hi).drop lo) ∨ (c = lo ∧ lo < hi) := by
  by_cases hc : c = lo ∧ lo < hi
  · exact .inr hc
  left
  refine ⟨by rw [List.length_drop, List.length_take, hr.1]; omega, fun hp => ?_⟩
  have hne : c ≠ lo := fun e => hc ⟨e, by omega⟩
  obtain ⟨b, off, e, hcell⟩ := hr.2 (by omega)
  rw [if_neg hne, e]
  refine ⟨b, off + lo, ?_, fun j hj => ?_⟩
  · show some ((⟨b, off, none⟩ : Addr).add (lo * 1)) = _
    rw [Addr.add_lit, Nat.mul_one]
  · rw [Nat.add_assoc, hcell (lo + j) (by omega)]
    simp [List.getD, List.getElem?_drop, List.getElem?_take, show lo + j < hi by omega]
/-- A part of a slice. -/
theorem sl_any {A : Option Addr} {c lo' hi' : Nat} {lo hi : Int} {X : SV → Prop} (tag : Nat) (h : 0 ≤ lo ∧ lo ≤ hi ∧ hi ≤ c) (hlo : lo.toNat = lo') (hhi : hi.toNat = hi')
    (nx : ∀ A2, (∀ ik w n zs, hi' ≤ n → IRow ik w A n zs → IRow ik w A2 (hi' - lo') ((zs.take hi').drop lo')) → ((A = none → c = 0) → A2 = none → c - lo' = 0) → X (.sl tag A2 (hi' - lo') (c - lo'))) : LSl A c 1 lo hi X := by
  subst hlo hhi
  refine ⟨h.1, h.2.1, h.2.2, .sl tag (if c = lo.toNat then A else A.map (·.add (lo.toNat * 1))) (hi.toNat - lo.toNat) (c - lo.toNat), rfl, nx _ (fun ik w n zs hn hr => ?_) (fun h1 h2 => ?_)⟩
  · rcases irow_sub (c := c) (lo := lo.toNat) (hi := hi.toNat) hr (by omega) hn with h1 | h1
    · exact h1
    · omega
  · split at h2
    · omega
    · cases A with
      | none => have := h1 rfl; omega
      | some a => cases h2
/-- The first part of a slice. -/
theorem sl_pre {A : Option Addr} {c hi' : Nat} {hi : Int} {X : SV → Prop} (tag : Nat) (h : 0 ≤ hi ∧ hi ≤ c) (hhi : hi.toNat = hi') (nx : X (.sl tag A hi' c)) : LSl A c 1 0 hi X := by
  subst hhi
  refine ⟨by omega, h.1, h.2, .sl tag A hi.toNat c, ?_, nx⟩
  show Value.slice A hi.toNat c = _
  congr 1
  split
  · rfl
  · cases A with
    | none => rfl
    | some a => simp [Addr.add]
/-- The end of a call that gives nothing. -/
theorem fin_nil {w : World} {M : List Nat} {e : TypeId} {ik : IntKind} {u : SV} (tag : Nat) (hu : u.den = .slice none 0 0) :
    XRet w M (fun e' w' => ∃ v its, e' = .returned v ∧ (∃ sv mi, v = SV.den sv ∧ its = denM mi ∧ RowR tag e ik [] sv mi) ∧ Loc w M its w') mem u :=
  ⟨fun w' hl => ⟨_, _, rfl, ⟨.sl tag none 0 0, [.row tag e 1 none 0 0 []], hu, rfl, ⟨none, 0, rfl, rfl, ⟨Nat.le_refl _, Nat.zero_le _⟩, fun _ => rfl, fun h => absurd h (Nat.lt_irrefl _)⟩⟩,
    (hl.sub (List.nil_sublist _)).free (own e 1 (.slice none 0 0) 0 []) rfl (ownNil e 1 w')⟩⟩
/-! bits, shifts, conversions -/
theorem shr_lit {n m : Int} {k : IntKind} {X : Int → Prop} (p : Int) (hp : (2 : Int) ^ (min n.toNat k.bits) = p) (h0 : 0 ≤ n) (nx : X (m / p)) : LSh n (m / 2 ^ (min n.toNat k.bits)) X := ⟨h0, _, rfl, by rw [hp]; exact nx⟩
theorem shl_lit {n m : Int} {k : IntKind} {X : Int → Prop} (p : Int) (hp : (2 : Int) ^ (min n.toNat k.bits) = p) (h0 : 0 ≤ n) (hr : inR k (m * p)) (nx : X (m * p)) : LSh n (k.wrap (m * 2 ^ (min n.toNat k.bits))) X := ⟨h0, _, rfl, by rw [hp, wrap_in hr]; exact nx⟩
theorem shr_litE {n m z : Int} {k : IntKind} {X : Int → Prop} (p : Int) (hp : (2 : Int) ^ (min n.toNat k.bits) = p) (h0 : 0 ≤ n) (hz : m / p = z) (nx : X z) : LSh n (m / 2 ^ (min n.toNat k.bits)) X := ⟨h0, _, rfl, by rw [hp, hz]; exact nx⟩
theorem shl_litW {n m z : Int} {k : IntKind} {X : Int → Prop} (p : Int) (hp : (2 : Int) ^ (min n.toNat k.bits) = p) (h0 : 0 ≤ n) (hz : k.wrap (m * p) = z) (nx : X z) : LSh n (k.wrap (m * 2 ^ (min n.toNat k.bits))) X := ⟨h0, _, rfl, by rw [hp, hz]; exact nx⟩
theorem wrap_u16 (n : Int) : IntKind.u16.wrap n = n % 65536 := IntKind.wrap_u16 n
theorem ar_u8 {m : Int} {X : Int → Prop} (nx : X (m % 256)) : LAr .u8 m X := ⟨_, rfl, by rw [IntKind.wrap_u8]; exact nx⟩
theorem ar_u8v {m z : Int} {X : Int → Prop} (h : m % 256 = z) (nx : X z) : LAr .u8 m X := ⟨_, rfl, by rw [IntKind.wrap_u8, h]; exact nx⟩
theorem ar_u16 {m : Int} {X : Int → Prop} (nx : X (m % 65536)) : LAr .u16 m X := ⟨_, rfl, by rw [IntKind.wrap_u16]; exact nx⟩
theorem ar_u32 {m : Int} {X : Int → Prop} (nx : X (m % 4294967296)) : LAr .u32 m X := ⟨_, rfl, by rw [IntKind.wrap_u32]; exact nx⟩
theorem or_u8 {x y : Int} (i : Nat) (hx : 0 ≤ x ∧ x < 256) (hy : 0 ≤ y ∧ y < 256) (h1 : x % 2 ^ i = 0) (h2 : y < 2 ^ i) : bits .or .u8 x y = x + y :=
  bits_join .u8 8 (by decide) (fun n h0 h1 => wrap_in (by dsimp only [inR]; have : (2 : Int) ^ 8 = 256 := (by decide); omega)) i x y hx.1 h1 (by have : (2 : Int) ^ 8 = 256 := (by decide); omega) hy.1 h2 (by have : (2 : Int) ^ 8 = 256 := (by decide); omega)
theorem or_u16 {x y : Int} (i : Nat) (hx : 0 ≤ x ∧ x < 65536) (hy : 0 ≤ y ∧ y < 65536) (h1 : x % 2 ^ i = 0) (h2 : y < 2 ^ i) : bits .or .u16 x y = x + y :=
  bits_join .u16 16 (by decide) (fun n h0 h1 => wrap_in (by dsimp only [inR]; have : (2 : Int) ^ 16 = 65536 := (by decide); omega)) i x y hx.1 h1 (by have : (2 : Int) ^ 16 = 65536 := (by decide); omega) hy.1 h2 (by have : (2 : Int) ^ 16 = 65536 := (by decide); omega)
theorem or_u32 {x y : Int} (i : Nat) (hx : 0 ≤ x ∧ x < 4294967296) (hy : 0 ≤ y ∧ y < 4294967296) (h1 : x % 2 ^ i = 0) (h2 : y < 2 ^ i) : bits .or .u32 x y = x + y :=
  bits_join .u32 32 (by decide) (fun n h0 h1 => wrap_in (by dsimp only [inR]; have : (2 : Int) ^ 32 = 4294967296 := (by decide); omega)) i x y hx.1 h1 (by have : (2 : Int) ^ 32 = 4294967296 := (by decide); omega) hy.1 h2 (by have : (2 : Int) ^ 32 = 4294967296 := (by decide); omega)
theorem low4_u8 {x : Int} (hx : 0 ≤ x ∧ x < 256) : bits .and .u8 x 15 = x % 16 ∧ bits .andNot .u8 x 15 = x - x % 16 := by
  have key : ∀ n : Fin 256, bits .and .u8 (n.val : Int) 15 = (n.val : Int) % 16 ∧ bits .andNot .u8 (n.val : Int) 15 = (n.val : Int) - (n.val : Int) % 16 := by decide +kernel
  have := key ⟨x.toNat, by omega⟩
  rw [show ((⟨x.toNat, by omega⟩ : Fin 256).val : Int) = x by show (x.toNat : Int) = x; omega] at this
  exact this

/-! slices that are made -/
theorem Loc.conv {w : World} {is : List Itm} {i i' : Itm} (h : Loc w0 S (i :: is) w) (hf : i'.foot = i.foot) (hh : i.holds w → i'.holds w) : Loc w0 S (i' :: is) w := by
  refine ⟨h.os, h.tape, h.output, h.size, h.same, fun j hj => ?_, fun j hj k hk => ?_, ?_⟩
  · rcases List.mem_cons.1 hj with rfl | hj
    · exact hh (h.holds i (.head _))
    · exact h.holds j (.tail _ hj)
  · rcases List.mem_cons.1 hj with rfl | hj
    · rw [hf] at hk; exact h.owned i (.head _) k hk
    · exact h.owned j (.tail _ hj) k hk
  · have := List.pairwise_cons.1 h.disj
    exact List.pairwise_cons.2 ⟨fun j hj k hk => by rw [hf] at hk; exact this.1 j hj k hk, this.2⟩
theorem made_zero (v : Value) (n : Nat) : (madeCells #[v] n).toList = List.replicate n v := by
  apply List.ext_getElem?
  intro i
  by_cases h : i < n
  · simp [madeCells, h, Nat.mod_one]
  · simp [madeCells, h]
/-- A whole struct or array, loaded. -/
theorem load_aggM {t : TypeId} {e : TypeId} {agg : Bool} {sz b off : Nat} {cs : List Value} {X : SV → Prop} [TL P t agg sz] (v : SV) (hat : At (denM mem) (blk e b cs)) (hv : rdv agg sz cs off = some v.den)
    (nx : X v) : LLoad P w0 S km t ⟨b, off, none⟩ false mem X := ⟨v, fun w _ h2 => run_loadVar_blk ((h2.resolve_left (by simp)).holds _ hat.mem) hv, nx⟩
theorem load_aggK {t : TypeId} {e : TypeId} {agg : Bool} {sz b off : Nat} {cs : List Value} {sf : Bool} {X : SV → Prop} [TL P t agg sz] (v : SV) (hat : At (denM km) (blk e b cs)) (hv : rdv agg sz cs off = some v.den)
    (nx : X v) : LLoad P w0 S km t ⟨b, off, none⟩ sf mem X := ⟨v, fun w h1 _ => run_loadVar_blk (h1.holds _ hat.mem) hv, nx⟩
/-- A store into a block whose cells are a list. -/
theorem eff_stV {t e : TypeId} {agg : Bool} {sz b off h : Nat} {cs : List Value} {xv yv : SV} {mem' : Mem} {x y : Operand} {ty : TypeId} {pos : String} {aft : Array Edge} {gd : Option (Nat × Bool)} {X : SV → Mem → Prop} [TL P t agg sz]
    (hx : opx fs x = some xv) (hxd : xv.den = .pointer (some ⟨b, off, none⟩)) (hy : opx fs y = some yv) (hf : findB mem h = some (.blkV h e b cs)) (hlen : (cellsX yv).length = sz) (hone : allOne (cellsX yv)) (hle : off + sz ≤ cs.length)
    (hu : updB mem h (.blkV h e b (splice cs off (dens (cellsX yv)))) = some mem') (hn : noTag km h = true) (nx : X (.val undef) mem') :
    LEff P N w0 S km ⟨none, .store t x y, ty, pos, aft, gd⟩ fs mem X := by
  refine ⟨Unit, fun _ => .val undef, fun _ => mem', fun w1 S1 a w hk hl hl1 => ?_, fun _ => ⟨fun hs => updB_sub hs hn hu, nx⟩⟩
  obtain ⟨n, h3, h4⟩ := (updB_upd hf hu).set
  have hw := hl.holds _ (findB_at hf).mem
  have ex : a.eval x = .pointer (some ⟨b, off, none⟩) := by rw [hk.eval (opx_some hx), hxd]
  have ey : a.eval y = yv.den := hk.eval (opx_some hy)
  obtain ⟨w', hr, hh, ho, ht, hout, hsize, hsame⟩ := run_storeVar_blk (P := P) (t := t) hw (allOne_cells hone) (by rw [dens_length, hlen]) (fun u hu => List.all_eq_true.1 (allOne_den hone) u hu) (by rw [dens_length, hlen]; exact hle)
  refine ⟨(), w', .inr ⟨?_, rfl⟩, ?_⟩
  · simp [execOp, ex, ey, Instr.storeAt, Instr.sureAddr, hr]
  · rw [h4]
    exact hl1.set h3 ho ht hout (by omega) (fun k hk hki => hsame k (fun e => hki (by rw [e]; exact .head _))) _ hh (fun k hk => .inl hk)
/-- A store into a row of the call's own. -/
theorem eff_stR {t e : TypeId} {b j h n c : Nat} {xs : List Value} {xv yv : SV} {u : Value} {mem' : Mem} {x y : Operand} {ty : TypeId} {pos : String} {aft : Array Edge} {gd : Option (Nat × Bool)} {X : SV → Mem → Prop} [TL P t false 1]
    (hx : opx fs x = some xv) (hxd : xv.den = .pointer (some ⟨b, j, none⟩)) (hy : opx fs y = some yv) (hyd : yv.den = u) (hc : u.cells = #[u]) (hc1 : u.oneCell' = true) (hf : findB mem h = some (.row h e 1 (some ⟨b, 0, none⟩) n c xs)) (hlt : j < n)
    (hu : updB mem h (.row h e 1 (some ⟨b, 0, none⟩) n c (xs.set j u)) = some mem') (hn : noTag km h = true) (nx : X (.val undef) mem') :
    LEff P N w0 S km ⟨none, .store t x y, ty, pos, aft, gd⟩ fs mem X := by
  refine ⟨Unit, fun _ => .val undef, fun _ => mem', fun w1 S1 a w hk hl hl1 => ?_, fun _ => ⟨fun hs => updB_sub hs hn hu, nx⟩⟩
  obtain ⟨m, h3, h4⟩ := (updB_upd hf hu).set
  have hw : w.ownsRow 0 e 1 (.slice (some ⟨b, 0, none⟩) n c) n xs := hl.holds _ (findB_at hf).mem
  have ex : a.eval x = .pointer (some ⟨b, j, none⟩) := by rw [hk.eval (opx_some hx), hxd]
  have ey : a.eval y = u := by rw [hk.eval (opx_some hy), hyd]
  rcases hw.2 with ⟨h', _⟩ | ⟨g', cap', cur, h', hb, hg, hnc, hcm, hcs, htake⟩
  · simp at h'
  · simp only [Value.slice.injEq, Option.some.injEq, Addr.mk.injEq, and_true, true_and] at h'
    obtain ⟨rfl, rfl⟩ := h'
    have hblk : (blk e b cur.toList).holds w := hg
    obtain ⟨w', hr, hh, ho, ht, hout, hsize, hsame⟩ := run_storeVar_blk (P := P) (t := t) (off := j) (v := u) (vs := [u]) hblk hc rfl (fun v hv => by rcases List.mem_singleton.1 hv with rfl; exact hc1) (by simp [hcs]; omega)
    refine ⟨(), w', .inr ⟨?_, rfl⟩, ?_⟩
    · simp [execOp, ex, ey, Instr.storeAt, Instr.sureAddr, hr]
    · rw [h4]
      refine hl1.set h3 ho ht hout (by omega) (fun k hk hki => hsame k (fun e => hki (by rw [e]; exact (show b ∈ (Value.slice (some ⟨b, 0, none⟩) n c).ownBlock.toList by simp [Value.ownBlock])))) _ ?_ (fun k hk => .inl hk)
      show w'.ownsRow 0 e 1 (.slice (some ⟨b, 0, none⟩) n c) n (xs.set j u)
      have hh' : w'.heap[b]? = some (.cells (splice cur.toList j [u]).toArray e (0, 0)) := hh
      rw [splice_one _ _ _ (by simp [hcs]; omega)] at hh'
      refine ⟨by simpa using hw.1, .inr ⟨b, c, (cur.toList.set j u).toArray, rfl, Nat.zero_le _, hh', hnc, hcm, by simp [hcs], ?_⟩⟩
      rw [← htake]
      simp [List.take_set]
/-- .. a row that reads as a list of integers. -/
theorem eff_stI {t e : TypeId} {b j h n c : Nat} {ik : IntKind} {zs zs' : List Int} {z : Int} {A : Option Addr} {xv yv : SV} {mem' : Mem} {x y : Operand} {ty : TypeId} {pos : String} {aft : Array Edge} {gd : Option (Nat × Bool)} {X : SV → Mem → Prop} [TL P t false 1]
    (hx : opx fs x = some xv) (hA : A = some ⟨b, 0, none⟩) (hxd : xv.den = .pointer (some ⟨b, j, none⟩)) (hy : opx fs y = some yv) (hyd : yv.den = .int ik z) (hf : findB mem h = some (.row h e 1 A n c (zs.map (Value.int ik)))) (hlt : j < n) (hz : zs.set j z = zs')
    (hu : updB mem h (.row h e 1 A n c (zs'.map (Value.int ik))) = some mem') (hn : noTag km h = true) (nx : X (.val undef) mem') :
    LEff P N w0 S km ⟨none, .store t x y, ty, pos, aft, gd⟩ fs mem X := by
  subst hA hz
  exact eff_stR hx hxd hy hyd rfl rfl hf hlt (by rw [← List.map_set]; exact hu) hn nx
theorem row_irowL {w : World} {ik : IntKind} {e : TypeId} {A : Option Addr} {n c : Nat} {xs : List Int} (hl : Loc w0 S (denM mem) w) (hat : At (denM mem) (own e 1 (.slice A n c) n (xs.map (Value.int ik)))) (hn : xs.length = n) : IRow ik w A xs.length xs := by
  subst hn
  exact row_irow hl hat
/-- A block that was made, handed back as a row. -/
theorem fin_rowB {w : World} {M : List Nat} {e : TypeId} {ik : IntKind} {h b n : Nat} {cs : List SV} {zs : List Int} (tag : Nat) (hm : msub [.blk h e b cs] mem) (hn : zs.length = n) (hx : dens cs = zs.map (Value.int ik)) (hmx : n ≤ maxLen) :
    XRet w M (fun e' w' => ∃ v its, e' = .returned v ∧ (∃ sv mi, v = SV.den sv ∧ its = denM mi ∧ RowR tag e ik zs sv mi) ∧ Loc w M its w') mem (.slB h b 0 n n) := by
  subst hn
  refine ⟨fun w' hl => ⟨_, _, rfl, ⟨.sl tag (some ⟨b, 0, none⟩) zs.length zs.length, [.row tag e 1 (some ⟨b, 0, none⟩) zs.length zs.length (zs.map (Value.int ik))], rfl, rfl, ⟨_, _, rfl, rfl, ⟨Nat.le_refl _, hmx⟩, fun h => by simp at h, fun _ => ⟨b, rfl⟩⟩⟩, ?_⟩⟩
  have h1 := msub_ok hm hl
  exact h1.conv rfl fun h => blk_owns (h := by rw [← hx]; exact h) (by simp) hmx
theorem fin_rowBV {w : World} {M : List Nat} {e : TypeId} {ik : IntKind} {h b n : Nat} {cs : List Value} {zs : List Int} (tag : Nat) (hm : msub [.blkV h e b cs] mem) (hn : zs.length = n) (hx : cs = zs.map (Value.int ik)) (hmx : n ≤ maxLen) :
    XRet w M (fun e' w' => ∃ v its, e' = .returned v ∧ (∃ sv mi, v = SV.den sv ∧ its = denM mi ∧ RowR tag e ik zs sv mi) ∧ Loc w M its w') mem (.slB h b 0 n n) := by
  subst hn hx
  refine ⟨fun w' hl => ⟨_, _, rfl, ⟨.sl tag (some ⟨b, 0, none⟩) zs.length zs.length, [.row tag e 1 (some ⟨b, 0, none⟩) zs.length zs.length (zs.map (Value.int ik))], rfl, rfl, ⟨_, _, rfl, rfl, ⟨Nat.le_refl _, hmx⟩, fun h => by simp at h, fun _ => ⟨b, rfl⟩⟩⟩, ?_⟩⟩
  have h1 := msub_ok hm hl
  exact h1.conv rfl fun h => blk_owns h (by simp) hmx
end
end Go.Proofs.YtihboegopigkmaaDoor
