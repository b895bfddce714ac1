/- The rest of an own row: a slice of one's own that begins anywhere in its block. No program. -/
import Derived.Test.YtjbjnkjilgndmaaGs
import Derived.ArgAppend
namespace Go.Proofs.Ytjbjnkjilgndmaa
set_option linter.unusedSimpArgs false
set_option linter.unusedVariables false
set_option linter.unnecessarySimpa false
set_option linter.unusedSectionVars false
open Go.RowKit

def sfx (e : TypeId) (A : Option Addr) (n c : Nat) (xs : List Value) : Itm where
  foot := (A.map (·.block)).toList
  holds w := (xs.length = n ∧ n ≤ c ∧ c ≤ maxLen ∧ (A = none → c = 0)) ∧ ∀ b, (A.map (·.block)) = some b → ∃ o, A = some ⟨b, o, none⟩ ∧ ∃ cur : Array Value, w.heap[b]? = some (.cells cur e (0, 0)) ∧ o + c ≤ cur.size ∧ (cur.toList.drop o).take n = xs
  loc w w' h hh := ⟨hh.1, fun b hb => by
    obtain ⟨o, h1, cur, h2, h3⟩ := hh.2 b hb
    exact ⟨o, h1, cur, by rw [h b (by rw [hb]; simp)]; exact h2, h3⟩⟩
  live w h k hk := by
    rw [Option.mem_toList] at hk
    obtain ⟨o, h1, cur, h2, h3⟩ := h.2 k hk
    exact (Array.getElem?_eq_some_iff.1 h2).1
/-- What the header tells. -/
def SF (A : Option Addr) (n c : Nat) : Prop := (n ≤ c ∧ c ≤ maxLen) ∧ (A = none → c = 0) ∧ (0 < c → ∃ b o, A = some ⟨b, o, none⟩)
theorem sfx_sf {w : World} {e : TypeId} {A : Option Addr} {n c : Nat} {xs : List Value} (h : (sfx e A n c xs).holds w) : SF A n c := by
  refine ⟨⟨h.1.2.1, h.1.2.2.1⟩, h.1.2.2.2, fun h0 => ?_⟩
  cases A with
  | none => have := h.1.2.2.2 rfl; omega
  | some a =>
    obtain ⟨o, h1, _⟩ := h.2 a.block rfl
    exact ⟨a.block, o, h1⟩
theorem SF.suf {A A2 : Option Addr} {n c k n2 c2 : Nat} (h : SF A n c) (hk : k ≤ n) (hn : n - k = n2) (hc : c - k = c2) (hA : A2 = if c = k then A else A.map (·.add (k * 1))) : SF A2 n2 c2 := by
  subst hn hc
  obtain ⟨⟨h1, h2⟩, h3, h4⟩ := h
  refine ⟨⟨by omega, by omega⟩, fun e => ?_, fun h0 => ?_⟩
  · by_cases e2 : c = k
    · omega
    · rw [if_neg e2] at hA
      cases A with
      | none => rw [h3 rfl]; omega
      | some a => rw [hA] at e; cases e
  · obtain ⟨b, o, hb⟩ := h4 (by omega)
    rw [if_neg (by omega), hb] at hA
    exact ⟨b, o + k * 1, by rw [hA, Option.map_some, Addr.add_lit]⟩
theorem sf_nil : SF none 0 0 := ⟨⟨Nat.le_refl _, Nat.zero_le _⟩, fun _ => rfl, fun h => absurd h (Nat.lt_irrefl _)⟩
theorem sf_rf {A : Option Addr} {n c : Nat} (h : RF A n c) (h0 : 0 < n) : SF A n c := ⟨h.1, h.2.1, fun _ => by
  obtain ⟨b, hb⟩ := h.2.2 h0
  exact ⟨b, 0, hb⟩⟩
theorem sfx_own {w : World} {e : TypeId} {A : Option Addr} {n c : Nat} {xs : List Value} (h : w.ownsRow 0 e 1 (.slice A n c) n xs) : (sfx e A n c xs).holds w := by
  obtain ⟨hl, h2⟩ := h
  rw [Nat.mul_one] at hl
  rcases h2 with ⟨hv, h0⟩ | ⟨g, cap', cur, hv', _, hh, hnc, hcm, hs, ht⟩
  · injection hv with e1 e2 e3
    subst e1 e3
    exact ⟨⟨hl, by omega, Nat.zero_le _, fun _ => rfl⟩, fun b hb => by cases hb⟩
  · injection hv' with e1 e2 e3
    subst e1 e3
    refine ⟨⟨hl, hnc, hcm, fun h => by cases h⟩, fun b hb => ?_⟩
    simp only [Option.map_some, Option.some.injEq] at hb
    subst hb
    rw [Nat.mul_one] at hs ht
    exact ⟨0, rfl, cur, hh, by omega, by rw [List.drop_zero]; exact ht⟩
theorem sfx_foot {e : TypeId} {A : Option Addr} {n c : Nat} {xs : List Value} : (sfx e A n c xs).foot = (own e 1 (.slice A n c) n xs).foot := by
  cases A <;> rfl
/-- A later part of it. -/
theorem sfx_suf {w : World} {e : TypeId} {A A2 : Option Addr} {n c k n2 c2 : Nat} {xs : List Value} (h : (sfx e A n c xs).holds w) (hk : k ≤ n) (hn : n - k = n2) (hc : c - k = c2) (hA : A2 = if c = k then A else A.map (·.add (k * 1))) : (sfx e A2 n2 c2 (xs.drop k)).holds w := by
  subst hn hc
  obtain ⟨⟨h1, h2, h3, h4⟩, h5⟩ := h
  refine ⟨⟨by rw [List.length_drop, h1], by omega, by omega, fun h => ?_⟩, fun b hb => ?_⟩
  · by_cases e : c = k
    · omega
    · rw [if_neg e] at hA
      cases A with
      | none => rw [h4 rfl]; omega
      | some a => rw [hA] at h; cases h
  · by_cases e : c = k
    · rw [if_pos e] at hA
      subst hA
      obtain ⟨o, g1, cur, g2, g3, g4⟩ := h5 b hb
      refine ⟨o, g1, cur, g2, by omega, ?_⟩
      rw [show n - k = 0 by omega, List.take_zero, List.drop_of_length_le (by omega)]
    · rw [if_neg e] at hA
      cases A with
      | none => rw [hA] at hb; cases hb
      | some a =>
        obtain ⟨o, g1, cur, g2, g3, g4⟩ := h5 a.block rfl
        injection g1 with g1
        subst hA
        rw [g1] at hb ⊢
        simp only [Option.map_some, Addr.add_lit, Option.some.injEq] at hb ⊢
        subst hb
        refine ⟨o + k * 1, rfl, cur, g2, by omega, ?_⟩
        rw [← g4, Nat.mul_one, List.drop_take, List.drop_drop]
theorem sfx_foot_suf {e : TypeId} {A A2 : Option Addr} {n c k n2 c2 : Nat} {xs xs2 : List Value} (hA : A2 = if c = k then A else A.map (·.add (k * 1))) : (sfx e A2 n2 c2 xs2).foot = (sfx e A n c xs).foot := by
  subst hA
  show (Option.map _ _).toList = (Option.map _ _).toList
  congr 1
  split
  · rfl
  · cases A with
    | none => rfl
    | some a =>
      simp only [Option.map_some]
      congr 1
      unfold Addr.add
      split <;> rfl
theorem sfx_facts {w : World} {e : TypeId} {A : Option Addr} {n c : Nat} {xs : List Value} (h : (sfx e A n c xs).holds w) : xs.length = n ∧ n ≤ c ∧ c ≤ maxLen ∧ (A = none → c = 0) := h.1
theorem sfx_irow {w : World} {e : TypeId} {ik : IntKind} {A : Option Addr} {n c : Nat} {zs : List Int} (h : (sfx e A n c (zs.map (Value.int ik))).holds w) : IRow ik w A n zs := by
  obtain ⟨⟨h1, h2, h3, h4⟩, h5⟩ := h
  refine ⟨by simpa using h1, fun h0 => ?_⟩
  cases A with
  | none => have := h4 rfl; omega
  | some a =>
    obtain ⟨o, g1, cur, g2, g3, g4⟩ := h5 a.block rfl
    refine ⟨a.block, o, g1, fun j hj => ?_⟩
    rw [cell_of_row _ _ _ _ _ _ g2]
    have h6 : ((cur.toList.drop o).take n)[j]? = (zs.map (Value.int ik))[j]? := by rw [g4]
    rw [List.getElem?_take, if_pos hj, List.getElem?_drop, List.getElem?_map, Array.getElem?_toList] at h6
    have hjz : j < zs.length := by rw [List.length_map] at h1; omega
    rw [h6, List.getElem?_eq_getElem hjz, List.getD_eq_getElem?_getD, List.getElem?_eq_getElem hjz]
    rfl
theorem owns0 {w : World} {b : Nat} {e : TypeId} {sz n : Nat} {v : Value} {xs : List Value} (h : w.ownsRow b e sz v n xs) : w.ownsRow 0 e sz v n xs :=
  ⟨h.1, h.2.imp id fun ⟨g, cap, cur, h1, _, h3⟩ => ⟨g, cap, cur, h1, Nat.zero_le _, h3⟩⟩
section
variable {P : Program} {tab : Tr} {N : FN} {w0 : World} {S : List Nat} {km mem : Mem} {k : Kt} {fs : Fr} {c : Code}
theorem sfx_of_row {m1 : Mem} {h h' n c : Nat} {e : TypeId} {A : Option Addr} {xs : List Value} (h1 : takeB mem h = some (.row h e 1 A n c xs, m1)) :
    ∀ w, Loc w0 S (denM mem) w → Loc w0 S (denM (.oth h' (sfx e A n c xs) :: m1)) w := fun w hl => by
  have p1 := (takeB_perm h1).map MI.itm
  rw [← denM_map, ← denM_map] at p1
  exact (hl.perm p1).conv sfx_foot (fun h => sfx_own h)
theorem sfx_of_sfx {m1 : Mem} {h h' n c k n2 c2 : Nat} {e : TypeId} {A A2 : Option Addr} {xs xs2 : List Value} (h1 : takeB mem h = some (.oth h (sfx e A n c xs), m1)) (hk : k ≤ n) (hn : n - k = n2) (hc : c - k = c2) (hx : xs.drop k = xs2) (hA : A2 = if c = k then A else A.map (·.add (k * 1))) :
    ∀ w, Loc w0 S (denM mem) w → Loc w0 S (denM (.oth h' (sfx e A2 n2 c2 xs2) :: m1)) w := fun w hl => by
  subst hx
  have p1 := (takeB_perm h1).map MI.itm
  rw [← denM_map, ← denM_map] at p1
  exact (hl.perm p1).conv (sfx_foot_suf hA) (fun h => sfx_suf h hk hn hc hA)
theorem sfx_nil (h : Nat) (e : TypeId) : ∀ w, Loc w0 S (denM mem) w → Loc w0 S (denM (.oth h (sfx e none 0 0 []) :: mem)) w := fun w hl =>
  hl.free (sfx e none 0 0 []) rfl ⟨⟨rfl, Nat.le_refl _, Nat.zero_le _, fun _ => rfl⟩, fun b hb => by cases hb⟩
/-- A slice's part from a place on: the header. -/
theorem sl_sufX {A : Option Addr} {c lo' n2 c2 : Nat} {lo hi : Int} {X : SV → Prop} (tag : Nat) (h : 0 ≤ lo ∧ lo ≤ hi ∧ hi ≤ c) (hlo : lo.toNat = lo') (hn : hi.toNat - lo.toNat = n2) (hc : c - lo.toNat = c2) (nx : ∀ A2, (A2 = if c = lo' then A else A.map (·.add (lo' * 1))) → X (.sl tag A2 n2 c2)) : LSl A c 1 lo hi X := by
  subst hlo hn hc
  exact ⟨h.1, h.2.1, h.2.2, .sl tag _ _ _, rfl, nx _ rfl⟩
theorem run_append_roomO (w : World) (t ty e : TypeId) (i : TypeInfo) (ht : P.underlying t = some (.slice e)) (hi : P.info? e = some i)
    (g off sLen sCap : Nat) (cur : Array Value) (hg : w.heap[g]? = some (.cells cur e (0, 0)))
    (a : Addr) (m c : Nat) (news : List Value) (hl : news.length = m * i.size) (hnews : ∀ j u, news[j]? = some u → w.cell? (a.add j) = some u) (h1 : ∀ u ∈ news, u.oneCell' = true)
    (hroom : sLen + m ≤ sCap) (hfit : off + sLen * i.size + news.length ≤ cur.size) :
    (Builtin.append_ #[t, t] ty #[.slice (some ⟨g, off, none⟩) sLen sCap, .slice (some a) m c]).run P w =
      .ok (.slice (some ⟨g, off, none⟩) (sLen + m) sCap) (w.setRow g (cur.toList.take (off + sLen * i.size) ++ news ++ cur.toList.drop (off + sLen * i.size + news.length)).toArray) := by
  have hf := run_firstCells_some (P := P) w i.size m a m c news hl hnews
  have hst := run_storeCells_at P g (off + sLen * i.size) e news 0 cur w hg (by simpa using hfit) h1
  simp only [Nat.add_zero] at hst
  simp [Builtin.append_, run_underlying ht, sizeOf, typeInfo, hi, Builtin.lenOf, hroom, hf, Addr.add_lit, hst]
/-- Appending one or more values that lie in a block that was built. -/
theorem eff_appX {t e : TypeId} {by_ n m c h hb b2 : Nat} {z xs ys : List Value} {cs : List SV} {A : Option Addr} {its : Option Addr → Nat → Mem} {x y : Operand} {d : Tmp} {ty : TypeId} {pos : String} {aft : Array Edge} {gd : Option (Nat × Bool)} {X : SV → Mem → Prop}
    [h1 : TS P t e] [h2 : TRw P e 1 z] [h3 : TB P e by_]
    (hx : opx fs x = some (.sl h A n c)) (hf : findB mem h = some (.oth h (sfx e A n c xs))) (hy : opx fs y = some (.slB hb b2 0 m m)) (hf2 : findB mem hb = some (.blk hb e b2 cs)) (hcs : dens cs = ys) (hlen : ys.length = m) (hm : 0 < m) (hone : ∀ u ∈ ys, u.oneCell' = true) (hbb : (n + m) * by_ ≤ 140737488355328) (hby : 1 ≤ by_)
    (hu : ∀ A' c', updB mem h (.oth h (sfx e A' (n + m) c' (xs ++ ys))) = some (its A' c')) (hn : noTag km h = true)
    (nx : ∀ A' c', SF A' (n + m) c' → X (.sl h A' (n + m) c') (its A' c')) :
    LEff P N w0 S km ⟨some d, .call { callee := .builtin .append, args := #[x, y], argTypes := #[t, t] }, ty, pos, aft, gd⟩ fs mem X := by
  refine ⟨{u : Option Addr × Nat // SF u.1 (n + m) u.2}, fun u => .sl h u.1.1 (n + m) u.1.2, fun u => its u.1.1 u.1.2, fun w1 S1 a w hk hlc hl1 => ?_, fun u => ⟨fun hs => updB_sub hs hn (hu u.1.1 u.1.2), nx u.1.1 u.1.2 u.2⟩⟩
  subst hcs
  have ho : (sfx e A n c xs).holds w := hlc.holds _ (findB_at hf).mem
  have hb2 : w.heap[b2]? = some (.cells (dens cs).toArray e (0, 0)) := hlc.holds _ (findB_at hf2).mem
  have ex : a.eval x = .slice A n c := by rw [hk.eval (opx_some hx)]; rfl
  have ey : a.eval y = .slice (some ⟨b2, 0, none⟩) m m := by rw [hk.eval (opx_some hy)]; rfl
  obtain ⟨hsz, u, hu', hc⟩ := TRw.run (P := P) (e := e) w
  have hbi := h3.i
  cases hif' : P.info? e with
  | none => simp [hif'] at hbi
  | some inf =>
    have hz := h2.zc
    have hsi := h2.s
    simp [hif'] at hbi hsi
    cases hzz : inf.zero with
    | none => simp [hif', hzz] at hz
    | some zz =>
      simp [hif', hzz] at hz
      have hnm : n + m ≤ maxLen := by
        have : (n + m) * 1 ≤ (n + m) * by_ := Nat.mul_le_mul_left _ hby
        unfold maxLen; omega
      have hnews : ∀ j u, (dens cs)[j]? = some u → w.cell? ((⟨b2, 0, none⟩ : Addr).add j) = some u := by
        intro j u hu
        rw [Addr.add_lit, Nat.zero_add, cell_of_row _ _ _ _ _ _ hb2]
        simpa using hu
      have hl1' : (dens cs).length = m * 1 := by rw [hlen, Nat.mul_one]
      have fin : ∀ (A' : Option Addr) (c' : Nat) (w' : World), (sfx e A' (n + m) c' (xs ++ dens cs)).holds w' → w'.os = w.os → w'.tape = w.tape → w'.output = w.output → w.heap.size ≤ w'.heap.size →
          (∀ k, k < w.heap.size → k ∉ (sfx e A n c xs).foot → w'.heap[k]? = w.heap[k]?) → (∀ k ∈ (sfx e A' (n + m) c' (xs ++ dens cs)).foot, k ∈ (sfx e A n c xs).foot ∨ w.heap.size ≤ k) →
          (Builtin.append_ #[t, t] ty #[.slice A n c, .slice (some ⟨b2, 0, none⟩) m m]).run P w = .ok (.slice A' (n + m) c') w' →
          ∃ (u : {u : Option Addr × Nat // SF u.1 (n + m) u.2}) (w' : World), ((execOp a.eval ⟨some d, .call { callee := .builtin .append, args := #[x, y], argTypes := #[t, t] }, ty, pos, aft, gd⟩).run P w = .ok (.value (SV.sl h u.1.1 (n + m) u.1.2).den) w' ∨ (execOp a.eval ⟨some d, .call { callee := .builtin .append, args := #[x, y], argTypes := #[t, t] }, ty, pos, aft, gd⟩).run P w = .ok .skip w' ∧ (SV.sl h u.1.1 (n + m) u.1.2).den = undef) ∧ Loc w1 S1 (denM (its u.1.1 u.1.2)) w' := by
        intro A' c' w' hh g1 g2 g3 g4 g5 g6 hrun
        obtain ⟨k, hk1, hk2⟩ := (updB_upd hf (hu A' c')).set
        refine ⟨⟨(A', c'), sfx_sf hh⟩, w', .inl ?_, ?_⟩
        · simp [execOp, resolve, invoke, builtin, ex, ey, hrun, SV.den]
        · show Loc w1 S1 (denM (its A' c')) w'
          rw [hk2]
          exact hl1.set hk1 g1 g2 g3 g4 g5 _ hh g6
      by_cases hroom : n + m ≤ c
      · cases A with
        | none => have := ho.1.2.2.2 rfl; omega
        | some ad =>
          obtain ⟨o, g1, cur, g2, g3, g4⟩ := ho.2 ad.block rfl
          injection g1 with g1
          obtain ⟨bb, oo, sp⟩ := ad
          simp only [Addr.mk.injEq, true_and] at g1
          obtain ⟨rfl, rfl⟩ := g1
          have hrun := run_append_roomO (P := P) w t ty e inf h1.u hif' bb oo n c cur g2 ⟨b2, 0, none⟩ m m (dens cs) (by rw [hsi]; exact hl1') hnews hone hroom (by rw [hsi, hlen]; omega)
          rw [hsi, Nat.mul_one, hlen] at hrun
          have hxl := ho.1.1
          have hcl : cur.toList.length = cur.size := by simp
          refine fin (some ⟨bb, oo, none⟩) c (w.setRow bb (cur.toList.take (oo + n) ++ dens cs ++ cur.toList.drop (oo + n + m)).toArray) ⟨⟨by rw [List.length_append, hxl, hlen], hroom, ho.1.2.2.1, fun h => by cases h⟩, fun b hb => ?_⟩ rfl rfl rfl (by simp [World.setRow]) (fun k hk1 hk2 => ?_) (fun k hk => .inl hk) hrun
          · simp only [Option.map_some, Option.some.injEq] at hb
            subst hb
            refine ⟨oo, rfl, _, setRow_heap w bb cur _ e _ g2, ?_, ?_⟩
            · simp; omega
            · have hd : List.drop oo (cur.toList.take (oo + n)) = xs := by rw [← g4, List.drop_take]; congr 1; omega
              have ht : (cur.toList.take (oo + n)).length = oo + n := by rw [List.length_take]; omega
              show ((cur.toList.take (oo + n) ++ dens cs ++ cur.toList.drop (oo + n + m)).drop oo).take (n + m) = _
              rw [List.append_assoc, List.drop_append_of_le_length (by rw [ht]; omega), hd, ← List.append_assoc]
              exact List.take_left' (by rw [List.length_append, hxl, hlen])
          · exact setRow_other _ _ _ _ (fun e => hk2 (by rw [e]; simp [sfx]))
      · cases A with
        | none =>
          have hc0 := ho.1.2.2.2 rfl
          have hxl := ho.1.1
          have hn0 : n = 0 := by have := ho.1.2.1; omega
          subst hc0 hn0
          obtain rfl : xs = [] := List.eq_nil_of_length_eq_zero hxl
          obtain ⟨v', w', hrun, r1, r2, _⟩ := run_append_own (P := P) w w.heap.size t ty e inf zz 1 by_ h1.u hif' hzz hsi hbi (by rw [hz]; simp [h2.l]) (by decide) (.slice none 0 0) 0 [] (World.ownsRow_nil w _ e 1) ⟨b2, 0, none⟩ m m (dens cs) hl1' hnews hone hnm hbb (Nat.le_refl _)
          obtain ⟨A', c', rfl⟩ := ownForm (owns0 r1)
          refine fin A' c' w' (sfx_own (owns0 r1)) r2.os r2.tape r2.output r2.size (fun k hk1 hk2 => r2.block k hk1 (by simp [Value.ownBlock])) (fun k hk => ?_) hrun
          right
          cases A' with
          | none => simp [sfx] at hk
          | some a' =>
            have hk' : k = a'.block := by simpa [sfx] using hk
            exact (r1.lt k (by rw [hk']; rfl)).1
        | some ad =>
          obtain ⟨o, g1, cur, g2, g3, g4⟩ := ho.2 ad.block rfl
          injection g1 with g1
          have hxl := ho.1.1
          obtain ⟨v', w', hrun, r1, r2⟩ := run_append_arg_grows (P := P) w t ty e inf zz 1 by_ h1.u hif' hzz hsi hbi (by rw [hz]; simp [h2.l]) (by decide) ad n c xs (by omega) (fun j u hu => by
            rw [g1, Addr.add_lit, cell_of_row _ _ _ _ _ _ g2]
            have hj := (List.getElem?_eq_some_iff.1 hu).1
            rw [← g4, List.getElem?_take, if_pos (by omega), List.getElem?_drop, Array.getElem?_toList] at hu
            exact hu) ⟨b2, 0, none⟩ m m (dens cs) hl1' hnews (by omega) hnm hbb
          obtain ⟨A', c', rfl⟩ := ownForm (owns0 r1)
          refine fin A' c' w' (sfx_own (owns0 r1)) r2.os r2.tape r2.output r2.size (fun k hk1 hk2 => r2.block k hk1 (by simp)) (fun k hk => ?_) hrun
          right
          cases A' with
          | none => simp [sfx] at hk
          | some a' =>
            have hk' : k = a'.block := by simpa [sfx] using hk
            exact (r1.lt k (by rw [hk']; rfl)).1
/-- An element of it. -/
theorem ixs_sfx {A : Option Addr} {n cp j : Nat} {X : Nat → Nat → Prop} (hs : SF A n cp) (h : j < n) (nx : ∀ b o, A = some ⟨b, o, none⟩ → X b (o + (j : Int).toNat * 1)) : LIxS A (j : Int) n 1 X := by
  obtain ⟨⟨h1, _⟩, _, h3⟩ := hs
  obtain ⟨b, o, hA⟩ := h3 (by omega)
  exact ⟨by omega, by omega, b, o, hA, nx b o hA⟩
theorem load_sfx {t e : TypeId} {sz h n cp b o j off : Nat} {ik : IntKind} {A : Option Addr} {zs : List Int} {X : SV → Prop} [TL P t false sz] (hA : A = some ⟨b, o, none⟩) (hf : findB mem h = some (.oth h (sfx e A n cp (zs.map (Value.int ik))))) (hj : j < n) (ho : off = o + j) (nx : X (.int ik (zs.getD j 0))) : LLoad P w0 S km t ⟨b, off, none⟩ false mem X := by
  subst ho
  refine ⟨_, fun w _ h2 => ?_, nx⟩
  have h3 := (h2.resolve_left (by simp)).holds _ (findB_at hf).mem
  obtain ⟨b', o', hA', hc⟩ := (sfx_irow h3).2 (by omega)
  rw [hA] at hA'
  injection hA' with e
  injection e with e1 e2
  subst e1 e2
  have := hc j hj
  simp [loadVar, TL.isAgg (P := P) (t := t), this, SV.den]
end
theorem loc_bs {w : World} {t e : TypeId} {b n c : Nat} {cs : List Value} {A : Option Addr} {xs : List Value} (h1 : (blk t b cs).holds w) (h2 : (sfx e A n c xs).holds w) (hne : ∀ a, A = some a → a.block ≠ b) : Loc w (b :: (A.map (·.block)).toList) [blk t b cs, sfx e A n c xs] w := by
  refine ⟨rfl, rfl, rfl, Nat.le_refl _, fun _ _ _ => rfl, fun i hi => ?_, fun i hi k hk => ?_, ?_⟩
  · simp only [List.mem_cons, List.not_mem_nil, or_false] at hi
    rcases hi with rfl | rfl
    · exact h1
    · exact h2
  · simp only [List.mem_cons, List.not_mem_nil, or_false] at hi
    left
    rcases hi with rfl | rfl
    · simp only [blk, List.mem_singleton] at hk; simp [hk]
    · exact List.mem_cons_of_mem _ hk
  · refine List.pairwise_cons.2 ⟨fun j hj k hk hkj => ?_, List.pairwise_cons.2 ⟨fun j hj => by simp at hj, .nil⟩⟩
    simp only [List.mem_singleton] at hj
    subst hj
    simp only [blk, List.mem_singleton] at hk
    subst hk
    cases A with
    | none => simp [sfx] at hkj
    | some a =>
      have : k = a.block := by simpa [sfx] using hkj
      exact hne a rfl this.symm
end Go.Proofs.Ytjbjnkjilgndmaa
