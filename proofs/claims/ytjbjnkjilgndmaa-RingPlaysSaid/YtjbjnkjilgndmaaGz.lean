/- Appending structs that are read elsewhere. No program. -/
import Derived.Test.YtjbjnkjilgndmaaGs
import Derived.Test.YtjbjnkjilgndmaaGy
namespace Go.Proofs.Ytjbjnkjilgndmaa
set_option linter.unusedSimpArgs false
set_option linter.unusedVariables false
set_option linter.unnecessarySimpa false
set_option linter.unusedSectionVars false
open Go.RowKit

section
variable {P : Program} {tab : Tr} {N : FN} {w0 : World} {S : List Nat} {km mem : Mem} {k : Kt} {fs : Fr}
/-- Appending what reads as a list onto what is the call's own. -/
theorem eff_appendS {t e : TypeId} {by_ n m c c2 tag sz : Nat} {z xs ys : List Value} {A A2 : Option Addr} {vx vy : SV} {i : Itm} {its : Option Addr → Nat → Mem} {x y : Operand} {d : Tmp} {ty : TypeId} {pos : String} {aft : Array Edge} {gd : Option (Nat × Bool)} {X : SV → Mem → Prop}
    [h1 : TS P t e] [h2 : TRw P e sz z] [h3 : TB P e by_]
    (hx : opx fs x = some vx) (hxd : vx.den = .slice A n c) (hy : opx fs y = some vy) (hyd : vy.den = .slice A2 m c2)
    (hi : ∀ w, i.holds w → w.ownsRow 0 e sz (.slice A n c) n xs) (hif : i.foot = (Value.slice A n c).ownBlock.toList) (hat : At (denM mem) i)
    (hlen : ys.length = m * sz) (hone : ∀ u ∈ ys, u.oneCell' = true) (hr : ∀ w, Loc w0 S (denM mem) w → 0 < m → ∃ b off, A2 = some ⟨b, off, none⟩ ∧ ∀ j u, ys[j]? = some u → w.cell? ⟨b, off + j, none⟩ = some u) (hn0 : A2 = none → c2 = 0) (hb : (n + m) * by_ ≤ 140737488355328) (hby : 1 ≤ by_)
    (hU : ∀ A' c', Upd (denM mem) i (own e sz (.slice A' (n + m) c') (n + m) (xs ++ ys)) (denM (its A' c')))
    (nx : ∀ A' c', RF A' (n + m) c' → (km.Sublist mem → km.Sublist (its A' c')) ∧ X (.sl tag A' (n + m) c') (its A' c')) :
    LEff P N w0 S km ⟨some d, .call { callee := .builtin .append, args := #[x, y], argTypes := #[t, t] }, ty, pos, aft, gd⟩ fs mem X := by
  refine ⟨{u : Option Addr × Nat // RF u.1 (n + m) u.2}, fun u => .sl tag u.1.1 (n + m) u.1.2, fun u => its u.1.1 u.1.2, fun w1 S1 a w hk hlc hl1 => ?_, fun u => nx u.1.1 u.1.2 u.2⟩
  have ho := hi w (hlc.holds _ hat.mem)
  have ex : a.eval x = .slice A n c := by rw [hk.eval (opx_some hx), hxd]
  have ey : a.eval y = .slice A2 m c2 := by rw [hk.eval (opx_some hy), hyd]
  obtain ⟨hsz, u, hu', hc⟩ := TRw.run (P := P) (e := e) w
  have hbi := h3.i
  cases hif' : P.info? e with
  | none => simp [hif'] at hbi
  | some inf =>
    have hz := h2.zc
    have hsi := h2.s
    simp [hif'] at hbi hsi
    cases A2 with
    | none =>
      obtain rfl := hn0 rfl
      have hm : m = 0 := by
        rcases Nat.eq_zero_or_pos m with h0 | h0
        · exact h0
        · obtain ⟨_, _, e, _⟩ := hr w hlc h0; cases e
      subst hm
      obtain rfl : ys = [] := List.eq_nil_of_length_eq_zero (by rw [hlen, Nat.zero_mul])
      have hrun := run_append_owned_none (P := P) (w := w) 0 t ty e inf sz h1.u hif' _ n xs ho
      refine ⟨⟨(A, c), rf_own ho⟩, w, .inl ?_, ?_⟩
      · simp [execOp, resolve, invoke, builtin, ex, ey, hrun, SV.den]
      · obtain ⟨k, hk1, hk2⟩ := (hU A c).set
        show Loc w1 S1 (denM (its A c)) w
        rw [hk2]
        refine hl1.set hk1 rfl rfl rfl (Nat.le_refl _) (fun k' hk' hki => rfl) _ ?_ (fun k' hk' => ?_)
        · show w.ownsRow 0 e sz (.slice A (n + 0) c) (n + 0) (xs ++ [])
          rw [List.append_nil]; exact ho
        · left; rw [hif]; exact hk'
    | some ad =>
      cases hzz : inf.zero with
      | none => simp [hif', hzz] at hz
      | some zz =>
        simp [hif', hzz] at hz
        have hnm : n + m ≤ maxLen := by
          have : (n + m) * 1 ≤ (n + m) * by_ := Nat.mul_le_mul_left _ hby
          unfold maxLen; omega
        have hpos := h2.p
        have hnews : ∀ j u, ys[j]? = some u → w.cell? (ad.add j) = some u := by
          intro j u hu
          have hj := (List.getElem?_eq_some_iff.1 hu).1
          have hm : 0 < m := by
            rcases Nat.eq_zero_or_pos m with h0 | h0
            · subst h0; rw [hlen] at hj; omega
            · exact h0
          obtain ⟨b, off, e, hc⟩ := hr w hlc hm
          injection e with e
          subst e
          rw [Addr.add_lit]
          exact hc j u hu
        obtain ⟨v', w', hr', hown', hg, _, hat'⟩ := run_append_own_at (P := P) w 0 t ty e inf zz sz by_ h1.u hif' hzz hsi hbi (by rw [hz]; simp [h2.l]) h2.p _ n xs ho ad m c2 ys hlen hnews hone hnm hb (Nat.zero_le _)
        obtain ⟨A', c', rfl⟩ := ownForm hown'
        obtain ⟨k, hk1, hk2⟩ := (hU A' c').set
        refine ⟨⟨(A', c'), rf_own hown'⟩, w', .inl ?_, ?_⟩
        · simp [execOp, resolve, invoke, builtin, ex, ey, hr', SV.den]
        · show Loc w1 S1 (denM (its A' c')) w'
          rw [hk2]
          refine hl1.set hk1 hg.os hg.tape hg.output hg.size (fun k' hk' hki => hg.block k' hk' (fun e => hki ?_)) _ hown' (fun k' hk' => ?_)
          · rw [hif, ← e]; simp
          · have hk'' : (Value.slice A' (n + m) c').ownBlock = some k' := by simpa [own] using hk'
            rcases hat' with hat' | hat'
            · left; rw [hif, ← hat', hk'']; simp
            · right; rw [hat'] at hk''; injection hk'' with hk''; omega

theorem nil_owns {w : World} {e : TypeId} {sz b : Nat} (h : (blk e b []).holds w) : w.ownsRow 0 e sz (.slice (some ⟨b, 0, none⟩) 0 0) 0 [] :=
  ⟨by simp, .inr ⟨b, 0, #[], rfl, Nat.zero_le _, h, Nat.le_refl _, Nat.zero_le _, by simp, by simp⟩⟩
/-- .. onto a block without elements. -/
theorem app_nilS {t e : TypeId} {by_ m c2 h b sz : Nat} {z ys : List Value} {A2 : Option Addr} {vy : SV} {its : Option Addr → Nat → Mem} {x y : Operand} {d : Tmp} {ty : TypeId} {pos : String} {aft : Array Edge} {gd : Option (Nat × Bool)} {X : SV → Mem → Prop}
    [h1 : TS P t e] [h2 : TRw P e sz z] [h3 : TB P e by_]
    (hx : opx fs x = some (.slB h b 0 0 0)) (hf : findB mem h = some (.blk h e b [])) (hy : opx fs y = some vy) (hyd : vy.den = .slice A2 m c2)
    (hlen : ys.length = m * sz) (hone : ∀ u ∈ ys, u.oneCell' = true) (hr : ∀ w, Loc w0 S (denM mem) w → 0 < m → ∃ b off, A2 = some ⟨b, off, none⟩ ∧ ∀ j u, ys[j]? = some u → w.cell? ⟨b, off + j, none⟩ = some u) (hn0 : A2 = none → c2 = 0) (hb : m * by_ ≤ 140737488355328) (hby : 1 ≤ by_)
    (hu : ∀ A' c', updB mem h (.row h e sz A' m c' ys) = some (its A' c')) (hn : noTag km h = true)
    (nx : ∀ A' c', RF A' m c' → X (.sl h A' m c') (its A' c')) :
    LEff P N w0 S km ⟨some d, .call { callee := .builtin .append, args := #[x, y], argTypes := #[t, t] }, ty, pos, aft, gd⟩ fs mem X := by
  have := eff_appendS (P := P) (N := N) (w0 := w0) (S := S) (km := km) (mem := mem) (fs := fs) (n := 0) (c := 0) (xs := []) (tag := h) (d := d) (ty := ty) (pos := pos) (aft := aft) (gd := gd) (t := t) (X := X) (its := its) hx rfl hy hyd (i := blk e b []) (fun w h => nil_owns h) rfl (findB_at hf) hlen hone hr hn0 (by rw [Nat.zero_add]; exact hb) hby
    (fun A' c' => by rw [Nat.zero_add]; exact updB_upd hf (hu A' c')) (fun A' c' hf' => by rw [Nat.zero_add] at hf' ⊢; exact ⟨fun hs => updB_sub hs hn (hu A' c'), nx A' c' hf'⟩)
  exact this
/-- The first part of a slice. -/
theorem sl_preS {A : Option Addr} {c hi' sz : Nat} {hi : Int} {X : SV → Prop} (tag : Nat) (h : 0 ≤ hi ∧ hi ≤ c) (hhi : hi.toNat = hi') (nx : X (.sl tag A hi' c)) : LSl A c sz 0 hi X := by
  subst hhi
  refine ⟨by omega, h.1, h.2, .sl tag A hi.toNat c, ?_, nx⟩
  show Value.slice A hi.toNat c = _
  congr 1
  split
  · rfl
  · cases A with
    | none => rfl
    | some a => simp [Addr.add]
end
end Go.Proofs.Ytjbjnkjilgndmaa
