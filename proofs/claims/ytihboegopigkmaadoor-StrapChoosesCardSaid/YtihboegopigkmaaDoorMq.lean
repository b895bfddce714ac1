/- Maps: the operations' rules. No program. -/
import Derived.Test.YtihboegopigkmaaDoorMp
namespace Go.Proofs.YtihboegopigkmaaDoor
set_option linter.unusedSimpArgs false
set_option linter.unusedVariables false
set_option linter.unnecessarySimpa false
set_option linter.unusedSectionVars false
open Go.RowKit
open Go.ChangeMaps (setBlock)

section
variable {w0 w : World} {S : List Nat} {is : List Itm}
theorem Loc.allocI (h : Loc w0 S is w) (o : Obj) (i : Itm) (hf : i.foot = [w.heap.size]) (hi : i.holds (w.alloc o)) : Loc w0 S (i :: is) (w.alloc o) := by
  refine ⟨h.os, h.tape, h.output, ?_, ?_, ?_, ?_, ?_⟩
  · have := h.size; simp; omega
  · intro k hk hS
    rw [Below.heap_alloc _ _ k (Nat.lt_of_lt_of_le hk h.size)]
    exact h.same k hk hS
  · intro j hj
    rcases List.mem_cons.1 hj with rfl | hj
    · exact hi
    · exact j.loc w _ (fun k hk => Below.heap_alloc _ _ k (j.live w (h.holds j hj) k hk)) (h.holds j hj)
  · intro j hj k hk
    rcases List.mem_cons.1 hj with rfl | hj
    · rw [hf] at hk; cases List.mem_singleton.1 hk; exact .inr h.size
    · exact h.owned j hj k hk
  · refine List.pairwise_cons.2 ⟨fun j hj k hk hk' => ?_, h.disj⟩
    rw [hf] at hk
    cases List.mem_singleton.1 hk
    have := j.live w (h.holds j hj) _ hk'
    omega
theorem mapI_old {ik k1 k2 : IntKind} {b : Nat} {E : PE} (h : (mapI ik k1 k2 b E).holds w0) (hS : b ∉ S) (hl : Loc w0 S is w) : (mapI ik k1 k2 b E).holds w :=
  (mapI ik k1 k2 b E).loc w0 w (fun k hk => by
    cases List.mem_singleton.1 hk
    exact hl.same b ((mapI ik k1 k2 b E).live w0 h b (List.mem_singleton.2 rfl)) hS) h
end
theorem ents_len (ik k1 k2 : IntKind) : ∀ (E : PE) (n : Nat), (entsL ik k1 k2 n E).length = E.length
  | [], n => rfl
  | p :: E, n => by simp [entsL, ents_len ik k1 k2 E (n + 1)]
theorem ents_at (ik k1 k2 : IntKind) : ∀ (E : PE) (n i : Nat), i < E.length → (⟨pV ik ik (E.getD i default).1, pV k1 k2 (E.getD i default).2, n + i⟩ : MapEntry) ∈ entsL ik k1 k2 n E
  | [], n, i, h => by simp at h
  | p :: E, n, 0, h => by simp [entsL]
  | p :: E, n, i + 1, h => by
    have := ents_at ik k1 k2 E (n + 1) i (by simpa using h)
    rw [show n + 1 + i = n + (i + 1) by omega] at this
    exact List.mem_cons_of_mem _ (by simpa using this)
theorem ents_of (ik k1 k2 : IntKind) : ∀ (E : PE) (n : Nat) (e : MapEntry), e ∈ entsL ik k1 k2 n E → ∃ i, i < E.length ∧ e = ⟨pV ik ik (E.getD i default).1, pV k1 k2 (E.getD i default).2, n + i⟩
  | [], n, e, h => by cases h
  | p :: E, n, e, h => by
    rcases List.mem_cons.1 h with rfl | h
    · exact ⟨0, by simp, by simp⟩
    · obtain ⟨i, hi, rfl⟩ := ents_of ik k1 k2 E (n + 1) e h
      exact ⟨i + 1, by simpa using hi, by simp; omega⟩
theorem ents_born (ik k1 k2 : IntKind) : ∀ (E : PE) (n : Nat), ((entsL ik k1 k2 n E).map (·.born)).Nodup ∧ ∀ x ∈ (entsL ik k1 k2 n E).map (·.born), n ≤ x
  | [], n => ⟨.nil, fun x h => by cases h⟩
  | p :: E, n => by
    obtain ⟨h1, h2⟩ := ents_born ik k1 k2 E (n + 1)
    refine ⟨List.nodup_cons.2 ⟨fun h => ?_, h1⟩, fun x h => ?_⟩
    · have := h2 n h; omega
    · rcases List.mem_cons.1 h with rfl | h
      · exact Nat.le_refl _
      · have := h2 x h; omega
section
variable {P : Program} {N : FN} {w0 : World} {S : List Nat} {km mem : Mem} {fs : Fr} {t k e : TypeId} {ik k1 k2 : IntKind}
variable {d : Tmp} {m x y : Operand} {ty : TypeId} {pos : String} {aft : Array Edge} {gd : Option (Nat × Bool)} {X : SV → Mem → Prop} {b h r n : Nat} {E : PE} {mv : SV}
theorem eff_makeMap (nx : ∀ b, X (.val (.map (some b))) (.oth d (mapI ik k1 k2 b []) :: mem)) : LEff P N w0 S km ⟨some d, .makeMap t none, ty, pos, aft, gd⟩ fs mem X := by
  refine ⟨Nat, fun u => .val (.map (some u)), fun u => .oth d (mapI ik k1 k2 u []) :: mem, fun w1 S1 a w hk hlc hl1 => ⟨w.heap.size, w.alloc (.map #[] 0), .inl ?_, ?_⟩, fun u => ⟨fun hs => .cons _ hs, nx u⟩⟩
  · have := run_makeMap (P := P) t w
    simp [execOp, this, SV.den]
  · exact hl1.allocI _ _ rfl (heap_alloc_new w _)
theorem loc_setB {w1 w : World} {S1 : List Nat} {is : List Itm} {i i' : Itm} {nn b : Nat} {o : Obj} (hl : Loc w1 S1 is w) (hn : is[nn]? = some i) (hf : i.foot = [b]) (hf' : i'.foot = [b]) {w2 : World} (h2 : w2 = w ∨ w2 = w.drew) (hi : b < w.heap.size → i'.holds (setBlock w2 b o)) : Loc w1 S1 (is.set nn i') (setBlock w2 b o) := by
  have hb : b < w.heap.size := i.live w (hl.holds i (List.mem_of_getElem? hn)) b (by rw [hf]; exact List.mem_singleton.2 rfl)
  have hh : w2.heap = w.heap := by rcases h2 with rfl | rfl <;> rfl
  refine hl.set hn ?_ ?_ ?_ ?_ (fun k hk hki => ?_) i' (hi hb) (fun k hk => .inl (by rw [hf]; rw [hf'] at hk; exact hk))
  · rcases h2 with rfl | rfl <;> rfl
  · rcases h2 with rfl | rfl <;> rfl
  · rcases h2 with rfl | rfl <;> rfl
  · simp [setBlock, hh]
  · rw [hf] at hki
    have : b ≠ k := fun e => hki (by rw [e]; exact List.mem_singleton.2 rfl)
    simp [setBlock, hh, Array.getElem?_setIfInBounds, this]
theorem eff_updG {o : Op} {mem' : Mem} (ho : o = .mapUpdate t m x y ∨ o = .insert t m x y) (H : MapT P t k e ik k1 k2) (key v : Int × Int) (hm : opx fs m = some mv) (hmd : mv.den = .map (some b)) {xv yv : SV} (hx : opx fs x = some xv) (hxd : xv.den = pV ik ik key) (hy : opx fs y = some yv) (hyd : yv.den = pV k1 k2 v)
    (hf : findB mem h = some (.oth h (mapI ik k1 k2 b E))) (hu : updB mem h (.oth h (mapI ik k1 k2 b (putE E key v))) = some mem') (hn : noTag km h = true) (nx : X (.val undef) mem') : LEff P N w0 S km ⟨none, o, ty, pos, aft, gd⟩ fs mem X := by
  refine ⟨Unit, fun _ => .val undef, fun _ => mem', fun w1 S1 a w hk hl hl1 => ?_, fun _ => ⟨fun hs => updB_sub hs hn hu, nx⟩⟩
  obtain ⟨nn, h3, h4⟩ := (updB_upd hf hu).set
  have hw : (mapI ik k1 k2 b E).holds w := hl.holds _ (findB_at hf).mem
  have em : a.eval m = .map (some b) := by rw [hk.eval (opx_some hm), hmd]
  have ex : a.eval x = pV ik ik key := by rw [hk.eval (opx_some hx), hxd]
  have ey : a.eval y = pV k1 k2 v := by rw [hk.eval (opx_some hy), hyd]
  have hr := upd_run H key v hw
  refine ⟨(), setBlock w b (.map (entsL ik k1 k2 0 (putE E key v)).toArray (putE E key v).length), .inr ⟨?_, rfl⟩, ?_⟩
  · rcases ho with rfl | rfl <;> simp [execOp, em, ex, ey, hr]
  · rw [h4]
    exact loc_setB hl1 h3 rfl rfl (.inl rfl) (fun hb => by
      show (setBlock w b _).heap[b]? = _
      simp [setBlock, hb])
theorem eff_upd {mem' : Mem} (H : MapT P t k e ik k1 k2) (key v : Int × Int) (hm : opx fs m = some mv) (hmd : mv.den = .map (some b)) {xv yv : SV} (hx : opx fs x = some xv) (hxd : xv.den = pV ik ik key) (hy : opx fs y = some yv) (hyd : yv.den = pV k1 k2 v)
    (hf : findB mem h = some (.oth h (mapI ik k1 k2 b E))) (hu : updB mem h (.oth h (mapI ik k1 k2 b (putE E key v))) = some mem') (hn : noTag km h = true) (nx : X (.val undef) mem') : LEff P N w0 S km ⟨none, .mapUpdate t m x y, ty, pos, aft, gd⟩ fs mem X := eff_updG (.inl rfl) H key v hm hmd hx hxd hy hyd hf hu hn nx
theorem eff_ins {mem' : Mem} (H : MapT P t k e ik k1 k2) (key v : Int × Int) (hm : opx fs m = some mv) (hmd : mv.den = .map (some b)) {xv yv : SV} (hx : opx fs x = some xv) (hxd : xv.den = pV ik ik key) (hy : opx fs y = some yv) (hyd : yv.den = pV k1 k2 v)
    (hf : findB mem h = some (.oth h (mapI ik k1 k2 b E))) (hu : updB mem h (.oth h (mapI ik k1 k2 b (putE E key v))) = some mem') (hn : noTag km h = true) (nx : X (.val undef) mem') : LEff P N w0 S km ⟨none, .insert t m x y, ty, pos, aft, gd⟩ fs mem X := eff_updG (.inr rfl) H key v hm hmd hx hxd hy hyd hf hu hn nx
/-- A key is looked up. -/
theorem eff_look (H : MapT P t k e ik k1 k2) (key : Int × Int) (c : Bool) (sv : SV) (hm : opx fs m = some mv) (hmd : mv.den = .map (some b)) {xv : SV} (hx : opx fs x = some xv) (hxd : xv.den = pV ik ik key)
    (hold : ∀ w, Loc w0 S (denM mem) w → (mapI ik k1 k2 b E).holds w) (hv : sv.den = (bif c then .tuple #[pV k1 k2 ((getE E key).getD (0, 0)), .bool (getE E key).isSome] else pV k1 k2 ((getE E key).getD (0, 0)))) (nx : X sv mem) :
    LEff P N w0 S km ⟨some d, .lookup t m x c, ty, pos, aft, gd⟩ fs mem X := by
  refine ⟨Unit, fun _ => sv, fun _ => mem, fun w1 S1 a w hk hl hl1 => ⟨(), w, .inl ?_, hl1⟩, fun _ => ⟨fun hs => hs, nx⟩⟩
  have em : a.eval m = .map (some b) := by rw [hk.eval (opx_some hm), hmd]
  have ex : a.eval x = pV ik ik key := by rw [hk.eval (opx_some hx), hxd]
  have := look_run H key (hold w hl) c
  simp [execOp, em, ex, this, hv]
theorem eff_lookN (H : MapT P t k e ik k1 k2) (key : Int × Int) (c : Bool) (sv : SV) (hm : opx fs m = some mv) (hmd : mv.den = .map none) {xv : SV} (hx : opx fs x = some xv) (hxd : xv.den = pV ik ik key)
    (hv : sv.den = (bif c then .tuple #[pV k1 k2 (0, 0), .bool false] else pV k1 k2 (0, 0))) (nx : X sv mem) :
    LEff P N w0 S km ⟨some d, .lookup t m x c, ty, pos, aft, gd⟩ fs mem X := by
  refine ⟨Unit, fun _ => sv, fun _ => mem, fun w1 S1 a w hk hl hl1 => ⟨(), w, .inl ?_, hl1⟩, fun _ => ⟨fun hs => hs, nx⟩⟩
  have em : a.eval m = .map none := by rw [hk.eval (opx_some hm), hmd]
  have ex : a.eval x = pV ik ik key := by rw [hk.eval (opx_some hx), hxd]
  have := look_nil H key w c
  simp [execOp, em, ex, this, hv]
/-- A range begins. -/
theorem eff_range (H : MapT P t k e ik k1 k2) (hm : opx fs m = some mv) (hmd : mv.den = .map (some b)) (hold : ∀ w, Loc w0 S (denM mem) w → (mapI ik k1 k2 b E).holds w)
    (nx : ∀ r, X (.ptr d r 0) (.oth d (itI r (some b) E.length []) :: mem)) : LEff P N w0 S km ⟨some d, .range t m, ty, pos, aft, gd⟩ fs mem X := by
  refine ⟨Nat, fun u => .ptr d u 0, fun u => .oth d (itI u (some b) E.length []) :: mem, fun w1 S1 a w hk hl hl1 => ⟨w.heap.size, w.alloc (.mapIter (some b) E.length #[] E.length), .inl ?_, ?_⟩, fun u => ⟨fun hs => .cons _ hs, nx u⟩⟩
  · have em : a.eval m = .map (some b) := by rw [hk.eval (opx_some hm), hmd]
    have hb : w.heap[b]? = some (.map (entsL ik k1 k2 0 E).toArray E.length) := hold w hl
    have hg : (getObj b).run P w = .ok (.map (entsL ik k1 k2 0 E).toArray E.length) w := by simp [getObj, Sem.run, hb]
    simp [execOp, em, Instr.range, run_underlying H.m, hg, SV.den, newObj, Sem.run]
  · exact hl1.allocI _ _ rfl (heap_alloc_new w _)
theorem eff_rangeN (H : MapT P t k e ik k1 k2) (hm : opx fs m = some mv) (hmd : mv.den = .map none)
    (nx : ∀ r, X (.ptr d r 0) (.oth d (itI r none 0 []) :: mem)) : LEff P N w0 S km ⟨some d, .range t m, ty, pos, aft, gd⟩ fs mem X := by
  refine ⟨Nat, fun u => .ptr d u 0, fun u => .oth d (itI u none 0 []) :: mem, fun w1 S1 a w hk hl hl1 => ⟨w.heap.size, w.alloc (.mapIter none 0 #[] 0), .inl ?_, ?_⟩, fun u => ⟨fun hs => .cons _ hs, nx u⟩⟩
  · have em : a.eval m = .map none := by rw [hk.eval (opx_some hm), hmd]
    simp [execOp, em, Instr.range, run_underlying H.m, SV.den, newObj, Sem.run]
  · exact hl1.allocI _ _ rfl (heap_alloc_new w _)
theorem eff_nextN (hm : opx fs m = some mv) (hmd : mv.den = .pointer (some ⟨r, 0, none⟩)) (hf : findB mem h = some (.oth h (itI r none 0 []))) (nx : X (.tup [.lit false]) mem) : LEff P N w0 S km ⟨some d, .next m false, ty, pos, aft, gd⟩ fs mem X := by
  refine ⟨Unit, fun _ => .tup [.lit false], fun _ => mem, fun w1 S1 a w hk hl hl1 => ⟨(), w, .inl ?_, hl1⟩, fun _ => ⟨fun hs => hs, nx⟩⟩
  have em : a.eval m = .pointer (some ⟨r, 0, none⟩) := by rw [hk.eval (opx_some hm), hmd]
  have hr : w.heap[r]? = some (.mapIter none 0 #[] 0) := hl.holds _ (findB_at hf).mem
  have hg : (getObj r).run P w = .ok (.mapIter none 0 #[] 0) w := by simp [getObj, Sem.run, hr]
  simp [execOp, em, Instr.next, hg, SV.den, dens]
theorem eff_next {seen : List Nat} {its : Nat → Mem} (hm : opx fs m = some mv) (hmd : mv.den = .pointer (some ⟨r, 0, none⟩)) (hf : findB mem h = some (.oth h (itI r (some b) E.length seen))) (hold : ∀ w, Loc w0 S (denM mem) w → (mapI ik k1 k2 b E).holds w)
    (hu : ∀ i, updB mem h (.oth h (itI r (some b) E.length (seen ++ [i]))) = some (its i)) (hn : noTag km h = true)
    (nx0 : (∀ i, i < E.length → i ∈ seen) → X (.tup [.lit false]) mem)
    (nx1 : ∀ i, i < E.length → i ∉ seen → X (.tup [.lit true, .val (pV ik ik (E.getD i default).1), .val (pV k1 k2 (E.getD i default).2)]) (its i)) :
    LEff P N w0 S km ⟨some d, .next m false, ty, pos, aft, gd⟩ fs mem X := by
  refine ⟨{u : Option Nat // match u with | none => ∀ i, i < E.length → i ∈ seen | some i => i < E.length ∧ i ∉ seen}, fun u => match u.1 with | none => .tup [.lit false] | some i => .tup [.lit true, .val (pV ik ik (E.getD i default).1), .val (pV k1 k2 (E.getD i default).2)],
    fun u => match u.1 with | none => mem | some i => its i, fun w1 S1 a w hk hl hl1 => ?_, fun u => ?_⟩
  · have em : a.eval m = .pointer (some ⟨r, 0, none⟩) := by rw [hk.eval (opx_some hm), hmd]
    have hr : w.heap[r]? = some (.mapIter (some b) E.length seen.toArray E.length) := hl.holds _ (findB_at hf).mem
    have hb : w.heap[b]? = some (.map (entsL ik k1 k2 0 E).toArray E.length) := hold w hl
    rcases run_next_at (P := P) w ty r b E.length E.length seen.toArray _ E.length hr hb (fun x hx => by
      obtain ⟨i, hi, rfl⟩ := ents_of ik k1 k2 E 0 x (by simpa using hx)
      dsimp only; omega) (Nat.le_refl _) with ⟨h0, hrun⟩ | ⟨en, hen, w2, hw2, hrun⟩
    · refine ⟨⟨none, fun i hi => ?_⟩, w, .inl ?_, hl1⟩
      · have hx := ents_at ik k1 k2 E 0 i hi
        rw [Nat.zero_add] at hx
        by_cases hs : i ∈ seen
        · exact hs
        · exfalso
          have : (⟨pV ik ik (E.getD i default).1, pV k1 k2 (E.getD i default).2, i⟩ : MapEntry) ∈ (leftOf (entsL ik k1 k2 0 E).toArray seen.toArray) := by
            unfold leftOf
            rw [Array.mem_filter]
            exact ⟨by simpa using hx, by simpa using hs⟩
          have hsz := Array.size_pos_of_mem this
          omega
      · simp [execOp, em, hrun, SV.den, dens]
    · have hen' : en ∈ entsL ik k1 k2 0 E ∧ en.born ∉ seen := by
        unfold leftOf at hen
        simpa using hen
      obtain ⟨i, hi, rfl⟩ := ents_of ik k1 k2 E 0 en hen'.1
      rw [Nat.zero_add] at hrun hen'
      obtain ⟨nn, h3, h4⟩ := (updB_upd hf (hu i)).set
      refine ⟨⟨some i, hi, hen'.2⟩, setBlock w2 r (.mapIter (some b) E.length (seen.toArray.push i) E.length), .inl ?_, ?_⟩
      · simp [execOp, em, hrun, SV.den, dens]
      · show Loc w1 S1 (denM (its i)) _
        rw [h4]
        exact loc_setB hl1 h3 rfl rfl hw2 (fun hb => by
          show (setBlock w2 r _).heap[r]? = _
          have hh : w2.heap = w.heap := by rcases hw2 with rfl | rfl <;> rfl
          simp [setBlock, hh, hb])
  · obtain ⟨u, hu1⟩ := u
    cases u with
    | none => exact ⟨fun hs => hs, nx0 hu1⟩
    | some i => exact ⟨fun hs => updB_sub hs hn (hu i), nx1 i hu1.1 hu1.2⟩
theorem eff_entry {seen : List Nat} {i : Nat} (sv : SV) (hm : opx fs m = some mv) (hmd : mv.den = .pointer (some ⟨r, 0, none⟩)) (hf : findB mem h = some (.oth h (itI r (some b) E.length (seen ++ [i])))) (hold : ∀ w, Loc w0 S (denM mem) w → (mapI ik k1 k2 b E).holds w) (hi : i < E.length)
    (hv : sv.den = .tuple #[pV ik ik (E.getD i default).1, pV k1 k2 (E.getD i default).2]) (nx : X sv mem) : LEff P N w0 S km ⟨some d, .entry m, ty, pos, aft, gd⟩ fs mem X := by
  refine ⟨Unit, fun _ => sv, fun _ => mem, fun w1 S1 a w hk hl hl1 => ⟨(), w, .inl ?_, hl1⟩, fun _ => ⟨fun hs => hs, nx⟩⟩
  have em : a.eval m = .pointer (some ⟨r, 0, none⟩) := by rw [hk.eval (opx_some hm), hmd]
  have hr : w.heap[r]? = some (.mapIter (some b) E.length (seen ++ [i]).toArray E.length) := hl.holds _ (findB_at hf).mem
  have hb : w.heap[b]? = some (.map (entsL ik k1 k2 0 E).toArray E.length) := hold w hl
  have hx := ents_at ik k1 k2 E 0 i hi
  rw [Nat.zero_add] at hx
  have := run_entry_at (P := P) w r b E.length seen.toArray _ E.length ⟨pV ik ik (E.getD i default).1, pV k1 k2 (E.getD i default).2, i⟩ (by rw [hr]; simp) hb (by simpa using hx) (by simpa using (ents_born ik k1 k2 E 0).1)
  simp [execOp, em, this, hv]
end
end Go.Proofs.YtihboegopigkmaaDoor
