/- The walk by reckoning: loops over functions (iterators): the statement, its rounds, its ends. -/
import Derived.Test.YtihboegopigkmaaDoorGf
import Derived.RangeFuncSeq
import Derived.RangeFuncIn
namespace Go.Proofs.YtihboegopigkmaaDoor
set_option linter.unusedSimpArgs false
set_option linter.unusedVariables false
set_option linter.unnecessarySimpa false
set_option linter.unusedSectionVars false
open Go.RowKit

/-- A loop's record. -/
def lpI (l : Nat) (r : Loop) : Itm where
  foot := [l]
  holds w := w.heap[l]? = some (.loop r)
  loc w w' h hh := by rw [h l (List.mem_singleton.2 rfl)]; exact hh
  live w h k hk := by cases List.mem_singleton.1 hk; exact (Array.getElem?_eq_some_iff.1 h).1
theorem Loc.allocO {w0 w : World} {S : List Nat} {is : List Itm} (h : Loc w0 S is w) (o : Obj) (i : Itm) (hf : i.foot = [w.heap.size]) (hi : i.holds (w.alloc o)) : Loc w0 S (i :: is) (w.alloc o) := by
  refine ⟨h.os, h.tape, h.output, ?_, ?_, ?_, ?_, ?_⟩
  · have := h.size; simp; omega
  · intro k hk hS
    rw [Below.heap_alloc _ _ k (Nat.lt_of_lt_of_le hk h.size)]
    exact h.same k hk hS
  · intro j hj
    rcases List.mem_cons.1 hj with rfl | hj
    · exact hi
    · exact j.loc w _ (fun k hk => Below.heap_alloc _ _ k (j.live w (h.holds j hj) k hk)) (h.holds j hj)
  · intro j hj k hk
    rcases List.mem_cons.1 hj with rfl | hj
    · rw [hf] at hk; cases List.mem_singleton.1 hk; exact .inr h.size
    · exact h.owned j hj k hk
  · refine List.pairwise_cons.2 ⟨fun j hj k hk hk' => ?_, h.disj⟩
    rw [hf] at hk
    cases List.mem_singleton.1 hk
    have := j.live w (h.holds j hj) _ hk'
    omega

/-- What an iterator does: it calls yield with these values, one after the other, till yield says no; all else of it is new memory. H: what it reads. -/
def Iter (P : Program) (F : FuncId) (suf : List Value) (vals : List (List Value)) (H : World → Prop) : Prop :=
  ∀ (l : Nat) (J : Nat → World → Prop) (D : World → Prop) (W : World),
    (∀ k w, J k w → H w) → (∀ k w w', J k w → Below w.heap.size w w' → J k w') → (∀ w w', D w → Below w.heap.size w w' → D w') →
    (∀ k vs w, vals[k]? = some vs → J k w → YieldAt Fence.wide 0 P l vs.toArray w fun e w' => (e = .returned (.bool true) ∧ J (k + 1) w') ∨ (e = .returned (.bool false) ∧ D w')) →
    J 0 W → Calls P F (.func (.yield l) #[] #[] :: suf).toArray W fun e w' => (∃ v, e = .returned v) ∧ (J vals.length w' ∨ D w')

/-- Between two rounds. -/
structure JR (w0 : World) (S : List Nat) (l D : Nat) (r : Loop) {ι : Type} (M : ι → Mem) (pre : ι → Prop) (w : World) : Prop where
  ex : ∃ x, pre x ∧ Loc w0 S (lpI l r :: dfr D :: denM (M x)) w
theorem JR.below {w0 : World} {S : List Nat} {l D : Nat} {r : Loop} {ι : Type} {M : ι → Mem} {pre : ι → Prop} {w w' : World} (h : JR w0 S l D r M pre w) (hb : Below w.heap.size w w') : JR w0 S l D r M pre w' := by
  obtain ⟨x, hx, hl⟩ := h.ex
  exact ⟨x, hx, hl.call0 (Loc.of_below hb)⟩
/-- What a round leaves: the next state; or it stops with a jump. -/
def RR (w0 : World) (S : List Nat) (l D : Nat) (r : Loop) {ι : Type} (M : ι → Mem) (pre : ι → Prop) (Mx : Code → ι → Mem) (prex : Code → ι → Prop) : Ending → World → Prop :=
  fun e w' => (e = .returned (.bool true) ∧ JR w0 S l D r M pre w') ∨ (e = .returned (.bool false) ∧ ∃ c, JR w0 S l D { r with state := .done, pending := some c } (Mx c) (prex c) w')
/-- Behind the assignments of a round. -/
def RN (P : Program) (l : Nat) (body : Code) (R : Ending → World → Prop) : Act → World → Prop :=
  fun a1 w1 => ∃ w2, (Instr.beginRound l).run P w1 = .ok () w2 ∧ body.wpIn (FW (some l)) 0 P (roundPost P l R) a1 w2
def pfs : List Tmp → List SV → Fr → Fr
  | p :: ps, v :: vs, fs => pfs ps vs ((p, v) :: fs)
  | _, _, fs => fs
theorem pfs_kn {n : Nat} {r : Option Nat} : ∀ {ps : List Tmp} {vs : List SV} {fs : Fr} {t : Array Value}, ps.all (fun p => Nat.blt p n) = true → Kn ⟨n, [], r⟩ (denF fs) ⟨t, []⟩ →
    Kn ⟨n, [], r⟩ (denF (pfs ps vs fs)) ⟨(ps.zip (dens vs)).foldl (fun tmps (t, a) => tmps.setIfInBounds t a) t, []⟩
  | [], _, _, _, _, h => by simpa [pfs] using h
  | p :: ps, [], _, _, _, h => by simpa [pfs, dens] using h
  | p :: ps, v :: vs, fs, t, hp, h => by
    simp only [List.all_cons, Bool.and_eq_true] at hp
    have h1 : Kn ⟨n, [], r⟩ (denF ((p, v) :: fs)) ⟨t.setIfInBounds p v.den, []⟩ := h.put (d := some p) hp.1 v.den
    have := pfs_kn (vs := vs) hp.2 h1
    simpa [pfs, dens] using this

section
variable {P : Program} {tab : Tr} {N : FN} {w0 : World} {S : List Nat} {k : Kt} {fs : Fr} {mem : Mem}
theorem x_range {g : Operand} {ps : List Tmp} {assign body : Code} {F : FuncId} [hF : CF P F] {caps : List SV} {vals : List (List SV)} {H : World → Prop} (ht : tab.ok P) (tgD tgL : Nat) {ι : Type} (M : Nat → ι → Mem) (pre : Nat → ι → Prop)
    (Mx : Code → ι → Mem) (prex : Code → ι → Prop) (x0 : ι)
    (hr : N.r = none) (hg : opx fs g = some (.fn (.func F) [] caps)) (hps : ps.all (fun p => Nat.blt p N.n) = true) (hvs : ∀ (j : Nat) vs, vals[j]? = some vs → vs.length = ps.length)
    (hit : Iter P F (dens caps) (vals.map dens) H) (hH : ∀ j x w, pre j x → Loc w0 S (denM (M j x)) w → H w) (h0 : pre 0 x0) (hM0 : msub (M 0 x0) mem)
    (hround : ∀ l D (r : Loop) j vs x, r.state = .ready → r.pending = none → vals[j]? = some vs → pre j x →
      XC P ⟨N.n, [], some l⟩ w0 S (.rnd (RN P l body (RR w0 S l D r (M (j + 1)) (pre (j + 1)) Mx prex)) (.base fun _ _ _ => False)) (pfs ps vs fs) (.oth tgL (lpI l r) :: .oth tgD (dfr D) :: M j x) assign)
    (hend : ∀ D x, pre vals.length x → xe P tab ⟨N.n, (tgD, D) :: N.ms, none⟩ w0 S k .normal fs (.oth tgD (dfr D) :: M vals.length x))
    (hstop : ∀ D c x, prex c x → XC P ⟨N.n, (tgD, D) :: N.ms, none⟩ w0 S k fs (.oth tgD (dfr D) :: Mx c x) c) :
    XOth P N w0 S k fs mem (.rangeFunc g ps.toArray assign body) := by
  obtain ⟨n, ms, r⟩ := N
  dsimp only at hr
  subst hr
  refine ⟨⟨fun a w hk hl => wpIn_rangeFunc fun fn _ => ?_⟩⟩
  have hev : a.eval g = .func (.func F) #[] (dens caps).toArray := by rw [hk.eval (opx_some hg)]; simp [SV.den, dens]
  obtain ⟨rec, hrec⟩ : ∃ rec : Loop, rec = { state := .ready, pending := none, fn, tmps := a.tmps, params := ps.toArray, assign, body, defers := w.heap.size } := ⟨_, rfl⟩
  obtain ⟨W1, hW1⟩ : ∃ W1, (w.alloc (.deferred (some []))).alloc (.loop rec) = W1 := ⟨_, rfl⟩
  have hl0 : Loc w0 S (denM (M 0 x0)) w := msub_ok hM0 hl
  have hl1 : Loc w0 S (lpI (w.heap.size + 1) rec :: dfr w.heap.size :: denM (M 0 x0)) W1 := by
    rw [← hW1]
    refine Loc.allocO (Loc.allocO hl0 _ (dfr w.heap.size) rfl (World.alloc_heap_new w _)) _ _ (by simp [lpI]) ?_
    have := World.alloc_heap_new (w.alloc (.deferred (some []))) (.loop rec)
    rwa [World.size_alloc] at this
  refine ⟨w.heap.size + 1, [{ target := .collected w.heap.size, args := #[] }], W1, { target := .fn (.func F) (dens caps).toArray, args := #[.func (.yield (w.heap.size + 1)) #[] #[]] }, W1, F,
    #[.func (.yield (w.heap.size + 1)) #[] #[]] ++ (dens caps).toArray, W1, ?_, ?_, ?_, ?_, (fun h => by cases h), ?_⟩
  · rw [← hW1, hrec]; exact run_enterLoop_outer _ _ _ _ _
  · simp only [resolve, hev]
    simp [go_sem]
  · intro f' hf'; exact trivial
  · simp [invoke, go_sem, hF.c]
  · have key := hit (w.heap.size + 1) (fun j => JR w0 S (w.heap.size + 1) w.heap.size rec (M j) (pre j)) (fun w' => ∃ c, JR w0 S (w.heap.size + 1) w.heap.size { rec with state := .done, pending := some c } (Mx c) (prex c) w') W1
      (fun j w' h => by obtain ⟨x, hx, hl⟩ := h.ex; exact hH j x w' hx (hl.sub ((List.sublist_cons_self _ _).trans (List.sublist_cons_self _ _))))
      (fun j w1 w2 h hb => h.below hb) (fun w1 w2 ⟨c, h⟩ hb => ⟨c, h.below hb⟩) ?_ ⟨x0, h0, hl1⟩
    · have key2 : CallsIn (FW none) (0 - 1) P F (Value.func (.yield (w.heap.size + 1)) #[] #[] :: dens caps).toArray W1 (rangePost (FW none) 0 P (w.heap.size + 1) (k.sem P none) { a with defers := [{ target := .collected w.heap.size, args := #[] }] ++ a.defers }) := by
        refine callsIn_wide.2 (Calls.mono key ?_)
        have hkn : Kn ⟨n, (tgD, w.heap.size) :: ms, none⟩ (denF fs) { a with defers := [{ target := .collected w.heap.size, args := #[] }] ++ a.defers } := ⟨by simp [FN.ds]; rw [hk.defers]; rfl, hk.size, hk.get⟩
        rintro e w' ⟨⟨v, rfl⟩, h | ⟨c, h⟩⟩
        · obtain ⟨x, hx, hl2⟩ := h.ex
          have hlp := hl2.holds (lpI (w.heap.size + 1) rec) (List.mem_cons_self ..)
          refine ⟨none, w'.putObj (w.heap.size + 1) (.loop { rec with state := .exhausted }), (run_endLoop (P := P) hlp (by rw [hrec]; simp)).trans (congrArg (fun p => Result.ok p _) (by rw [hrec])), ?_⟩
          have hl3 : Loc w0 S (lpI (w.heap.size + 1) { rec with state := .exhausted } :: (dfr w.heap.size :: denM (M (vals.map dens).length x))) (w'.putObj (w.heap.size + 1) (.loop { rec with state := .exhausted })) :=
            hl2.put rfl rfl _ (World.putObj_heap_same ((lpI (w.heap.size + 1) rec).live w' hlp _ (List.mem_singleton.2 rfl)))
          rw [List.length_map] at hl3 hx
          exact (xe_ok ht (hend w.heap.size x hx)).go _ _ hkn (hl3.sub (List.sublist_cons_self _ _))
        · obtain ⟨x, hx, hl2⟩ := h.ex
          have hlp := hl2.holds (lpI (w.heap.size + 1) { rec with state := .done, pending := some c }) (List.mem_cons_self ..)
          refine ⟨some c, _, run_endLoop (P := P) hlp (by simp), ?_⟩
          have hl3 : Loc w0 S (lpI (w.heap.size + 1) { rec with state := .exhausted, pending := some c } :: (dfr w.heap.size :: denM (Mx c x))) (w'.putObj (w.heap.size + 1) (.loop { rec with state := .exhausted, pending := some c })) :=
            hl2.put rfl rfl _ (World.putObj_heap_same ((lpI (w.heap.size + 1) { rec with state := .done, pending := some c }).live w' hlp _ (List.mem_singleton.2 rfl)))
          exact (hstop w.heap.size c x hx).go.go _ _ hkn (hl3.sub (List.sublist_cons_self _ _))
      simpa using key2
    · rintro j vs w' hv ⟨x, hx, hl2⟩
      rw [List.getElem?_map, Option.map_eq_some_iff] at hv
      obtain ⟨us, hu, rfl⟩ := hv
      have hlp := hl2.holds (lpI (w.heap.size + 1) rec) (List.mem_cons_self ..)
      have hlen := hvs j us hu
      have hy := run_yield (P := P) (args := (dens us).toArray) hlp (by rw [hrec]; simp [dens_length, hlen])
      refine ⟨_, _, _, _, hy, ?_⟩
      rw [hrec]
      refine roundIn_of_wpIn trivial ?_
      have hkn : Kn ⟨n, [], some (w.heap.size + 1)⟩ (denF fs) ⟨a.tmps, []⟩ := ⟨rfl, hk.size, hk.get⟩
      have := (hround (w.heap.size + 1) w.heap.size rec j us x (by rw [hrec]) (by rw [hrec]) hu hx).go.go _ w' (pfs_kn (vs := us) hps hkn) hl2
      rw [hrec] at this
      have e : ((ps.toArray.zip (dens us).toArray).foldl (fun tmps (t, a) => tmps.setIfInBounds t a) a.tmps) = (ps.zip (dens us)).foldl (fun tmps (t, a) => tmps.setIfInBounds t a) a.tmps := by
        rw [← Array.foldl_toList]; simp
      rw [← e] at this
      exact this
/-- Behind the assignments: the round begins. -/
theorem x_begin {N : FN} {l : Nat} {r : Loop} {body : Code} {R : Ending → World → Prop} {k0 : Kt} {mem' : Mem} (tgL : Nat) (hr : N.r = some l) (hs : r.state = .ready) (hm : takeB mem tgL = some (.oth tgL (lpI l r), mem'))
    (h : XC P N w0 S (.base (roundPost P l R)) fs (.oth tgL (lpI l { r with state := .busy }) :: mem') body) : XE P N w0 S (.rnd (RN P l body R) k0) fs mem .normal := by
  refine ⟨⟨fun a w hk hl => ?_⟩⟩
  have hp := (takeB_perm hm).map MI.itm
  rw [← denM_map, ← denM_map] at hp
  have hl1 : Loc w0 S (lpI l r :: denM mem') w := by simpa [denM, MI.itm] using hl.perm hp
  have hlp := hl1.holds (lpI l r) (List.mem_cons_self ..)
  have hl2 : Loc w0 S (lpI l { r with state := .busy } :: denM mem') (w.putObj l (.loop { r with state := .busy })) :=
    hl1.put rfl rfl _ (World.putObj_heap_same ((lpI l r).live w hlp _ (List.mem_singleton.2 rfl)))
  have := h.go.go a _ hk hl2
  rw [hr] at this
  exact ⟨_, run_beginRound hlp hs, this⟩
/-- The round's end: the next one. -/
theorem x_endR {N : FN} {l D : Nat} {r : Loop} {ι : Type} {M : ι → Mem} {pre : ι → Prop} {Mx : Code → ι → Mem} {prex : Code → ι → Prop} {mem' : Mem} (tgL tgD : Nat) (x : ι) (hs : r.state = .ready) (hp0 : r.pending = none)
    (hm : takeB mem tgL = some (.oth tgL (lpI l { r with state := .busy }), mem')) (hx : pre x) (hM : msub (.oth tgD (dfr D) :: M x) mem') :
    XE P N w0 S (.base (roundPost P l (RR w0 S l D r M pre Mx prex))) fs mem .normal := by
  refine ⟨⟨fun a w hk hl => ?_⟩⟩
  have hp := (takeB_perm hm).map MI.itm
  rw [← denM_map, ← denM_map] at hp
  have hl1 : Loc w0 S (lpI l { r with state := .busy } :: denM mem') w := by simpa [denM, MI.itm] using hl.perm hp
  have hlp := hl1.holds (lpI l { r with state := .busy }) (List.mem_cons_self ..)
  have e : ({ r with state := .ready, pending := none } : Loop) = r := by cases r; simp_all
  have hl2 : Loc w0 S (lpI l r :: denM mem') (w.putObj l (.loop r)) := hl1.put rfl rfl _ (World.putObj_heap_same ((lpI l { r with state := .busy }).live w hlp _ (List.mem_singleton.2 rfl)))
  obtain ⟨rs, hr⟩ := msub_loc hM
  have hl3 : Loc w0 S (lpI l r :: dfr D :: denM (M x)) (w.putObj l (.loop r)) := by
    have h1 : (lpI l r :: denM mem').Perm ((lpI l r :: dfr D :: denM (M x)) ++ rs) := by
      have := hr.cons (lpI l r)
      simpa [denM, MI.itm] using this
    exact (hl2.perm h1).sub (List.sublist_append_left _ _)
  refine ⟨.bool true, w.putObj l (.loop r), ?_, .inl ⟨rfl, ⟨x, hx, hl3⟩⟩⟩
  have := run_endRound (P := P) none hlp
  simp only [Option.isNone_none, if_true] at this
  rw [e] at this
  exact this
/-- The round is left for good. -/
theorem x_stopR {N : FN} {l D : Nat} {r : Loop} {ι : Type} {M : ι → Mem} {pre : ι → Prop} {Mx : Code → ι → Mem} {prex : Code → ι → Prop} {mem' : Mem} (tgL tgD : Nat) (c : Code) {e : Exit} (x : ι)
    (he : (e = .ret ∧ c = .ret) ∨ ∃ id, e = .exit id ∧ c = .exit id)
    (hm : takeB mem tgL = some (.oth tgL (lpI l { r with state := .busy }), mem')) (hx : prex c x) (hM : msub (.oth tgD (dfr D) :: Mx c x) mem') :
    XE P N w0 S (.base (roundPost P l (RR w0 S l D r M pre Mx prex))) fs mem e := by
  refine ⟨⟨fun a w hk hl => ?_⟩⟩
  have hp := (takeB_perm hm).map MI.itm
  rw [← denM_map, ← denM_map] at hp
  have hl1 : Loc w0 S (lpI l { r with state := .busy } :: denM mem') w := by simpa [denM, MI.itm] using hl.perm hp
  have hlp := hl1.holds (lpI l { r with state := .busy }) (List.mem_cons_self ..)
  have hl2 : Loc w0 S (lpI l { r with state := .done, pending := some c } :: denM mem') (w.putObj l (.loop { r with state := .done, pending := some c })) :=
    hl1.put rfl rfl _ (World.putObj_heap_same ((lpI l { r with state := .busy }).live w hlp _ (List.mem_singleton.2 rfl)))
  obtain ⟨rs, hr⟩ := msub_loc hM
  have hl3 : Loc w0 S (lpI l { r with state := .done, pending := some c } :: dfr D :: denM (Mx c x)) (w.putObj l (.loop { r with state := .done, pending := some c })) := by
    have h1 : (lpI l { r with state := .done, pending := some c } :: denM mem').Perm ((lpI l { r with state := .done, pending := some c } :: dfr D :: denM (Mx c x)) ++ rs) := by
      have := hr.cons (lpI l { r with state := .done, pending := some c })
      simpa [denM, MI.itm] using this
    exact (hl2.perm h1).sub (List.sublist_append_left _ _)
  have := run_endRound (P := P) (some c) hlp
  simp only [Option.isNone_some, Bool.false_eq_true, if_false] at this
  rcases he with ⟨rfl, rfl⟩ | ⟨id, rfl, rfl⟩
  · exact ⟨.bool false, _, this, .inr ⟨rfl, _, ⟨x, hx, hl3⟩⟩⟩
  · exact ⟨.bool false, _, this, .inr ⟨rfl, _, ⟨x, hx, hl3⟩⟩⟩
end

section
variable {P : Program} {N : FN} {w0 : World} {S : List Nat} {k : Kt} {fs : Fr} {mem : Mem}
theorem xo_free {c : Code} (i : MI) (hf : i.itm.foot = []) (hi : ∀ w, i.itm.holds w) (h : XOth P N w0 S k fs (i :: mem) c) : XOth P N w0 S k fs mem c := ⟨c_free i.itm hf hi h.go⟩
theorem xo_nilrow {c : Code} (h e sz : Nat) (hx : XOth P N w0 S k fs (.row h e sz none 0 0 [] :: mem) c) : XOth P N w0 S k fs mem c :=
  xo_free (.row h e sz none 0 0 []) rfl (fun w => ownNil e sz w) hx
end
/-! the iterator's side: a region that calls yield, step by step -/
theorem gc_use {P : Program} {N : FN} {w0 : World} {S : List Nat} {Q : Exit → Act → World → Prop} {fs : Fr} {mem : Mem} {c : Code} {a : Act} {w : World} (h : XC P N w0 S (.base Q) fs mem c) (hk : Kn N (denF fs) a) (hl : Loc w0 S (denM mem) w) : c.wpIn (FW N.r) 0 P Q a w := h.go.go a w hk hl
section
variable {P : Program} {N : FN} {fs : Fr} {ops : Array Oper} {rest : List Oper} {Q : Exit → Act → World → Prop} {a : Act} {w : World} {d : Tmp} {x : Operand} {ty xt : TypeId} {pos : String} {aft : Array Edge}
theorem li_step {o : Oper} {K : Act → World → Prop} (hg : o.guard = none) (h : wpN P o a w K) (nx : ∀ a w, K a w → wpListIn (FW N.r) 0 P ops Q rest a w) : wpListIn (FW N.r) 0 P ops Q (o :: rest) a w := by
  unfold wpListIn
  rw [if_pos (by simp [Region.wanted, hg])]
  exact wpN_in nx h
theorem ly_val {o : Oper} {v : SV} (hg : o.guard = none) (ho : o.dst = some d) (hd : Nat.blt d N.n = true) (hk : Kn N (denF fs) a) (hrun : (execOp a.eval o).run P w = .ok (.value v.den) w)
    (nx : ∀ a, Kn N (denF ((d, v) :: fs)) a → wpListIn (FW N.r) 0 P ops Q rest a w) : wpListIn (FW N.r) 0 P ops Q (o :: rest) a w := by
  refine li_step (K := fun a' w' => a' = a.put o.dst v.den ∧ w' = w) hg ?_ ?_
  · unfold wpN
    rw [hrun]
    exact ⟨rfl, rfl⟩
  · rintro _ _ ⟨rfl, rfl⟩
    refine nx _ ?_
    have := hk.put (d := some d) hd v.den
    rw [ho]
    exact this
theorem ly_move {v : SV} (hk : Kn N (denF fs) a) (hx : opx fs x = some v) (hd : Nat.blt d N.n = true) (nx : ∀ a, Kn N (denF ((d, v) :: fs)) a → wpListIn (FW N.r) 0 P ops Q rest a w) :
    wpListIn (FW N.r) 0 P ops Q (⟨some d, .move x, ty, pos, aft, none⟩ :: rest) a w := ly_val rfl rfl hd hk (by simp [execOp, hk.eval (opx_some hx)]) nx
theorem ly_not {b : Bool} (hk : Kn N (denF fs) a) (hx : opx fs x = some (.boo b)) (hd : Nat.blt d N.n = true) (nx : ∀ a, Kn N (denF ((d, .boo (!b)) :: fs)) a → wpListIn (FW N.r) 0 P ops Q rest a w) :
    wpListIn (FW N.r) 0 P ops Q (⟨some d, .unOp .not xt x, ty, pos, aft, none⟩ :: rest) a w := ly_val rfl rfl hd hk (by simp [execOp, hk.eval (opx_some hx), SV.den, Op.unary]) nx
theorem ly_yield {l : Nat} {xs : List Operand} {vs : List SV} {ts : Array TypeId} {R : Ending → World → Prop} (hk : Kn N (denF fs) a) (hx : opx fs x = some (.fn (.yield l) [] [])) (ha : opxs fs xs = some vs) (hd : Nat.blt d N.n = true)
    (hY : YieldAt Fence.wide 0 P l (dens vs).toArray w R) (hR : ∀ e w', R e w' → ∃ b : Bool, e = .returned (.bool b) ∧ ∀ a, Kn N (denF ((d, .boo b) :: fs)) a → wpListIn (FW N.r) 0 P ops Q rest a w') :
    wpListIn (FW N.r) 0 P ops Q (⟨some d, .call { callee := .value x, args := xs.toArray, argTypes := ts }, ty, pos, aft, none⟩ :: rest) a w := by
  refine li_step (K := fun a' w' => wpListIn (FW N.r) 0 P ops Q rest a' w') rfl ?_ (fun _ _ h => h)
  obtain ⟨fn, tmps, assign, body, hy, hr⟩ := hY
  unfold wpN
  have hev : a.eval x = .func (.yield l) #[] #[] := by rw [hk.eval (opx_some hx)]; simp [SV.den, dens]
  have hrun : (execOp a.eval (⟨some d, .call { callee := .value x, args := xs.toArray, argTypes := ts }, ty, pos, aft, none⟩ : Oper)).run P w = .ok (.round l fn tmps assign body) w := by
    have he := hk.evals (opxs_some ha)
    simp only [execOp, resolve, Deferred.ofValue, hev, invoke, Sem.run_bind, Sem.run_pure, Result.andThen_ok, List.map_toArray, he]
    simpa using hy
  rw [hrun]
  refine RoundIn.mono hr fun e w' he => ?_
  obtain ⟨b, rfl, hK⟩ := hR e w' he
  exact hK _ (hk.put (d := some d) hd (.bool b))
/-- A loop by what holds at the beginning of a round, and a number that falls. -/
theorem wp_loopI {F : Fence} {m : Nat} {P : Program} {c : Code} {Q : Exit → Act → World → Prop} {a : Act} {w : World} (I : Nat → Act → World → Prop) (n : Nat) (h0 : I n a w)
    (step : ∀ n a w, I n a w → c.wpIn F m P (Exit.then (fun a' w' => ∃ n', n' < n ∧ I n' a' w') Q) a w) : (Code.loop c).wpIn F m P Q a w := by
  have key : ∀ k n a w, n < k → I n a w → Code.roundsIn F m P c Q k a w := by
    intro k
    induction k with
    | zero => intro n a w h; omega
    | succ k ih =>
      intro n a w h hI
      rw [roundsIn_succ]
      refine wpIn_mono' (fun e a' w' hq => ?_) (step n a w hI)
      cases e with
      | normal =>
        obtain ⟨n', h1, h2⟩ := hq
        exact ih n' a' w' (by omega) h2
      | _ => exact hq
  exact wpIn_loop_rounds (n + 1) (key (n + 1) n a w (by omega) h0)
/-- A call, by its body's walk from any frame that has its arguments. -/
theorem calls_raw {P : Program} {fn : Func} {c : Code} {f : FuncId} {args : List SV} {w : World} {R : Ending → World → Prop} {n : Nat} (hf : P.funcs[f]? = some fn) (hb : fn.body = some c) (hN : fn.ntmps = n) (hle : Nat.ble args.length n = true)
    (h : ∀ a, Kn ⟨n, [], none⟩ (denF (argX 0 args)) a → c.wpIn (FW none) 0 P (bodyPostM Fence.wide 0 P fn R) a w) : Calls P f (dens args).toArray w R := by
  refine callsIn_wide.1 (callsIn_of_wp_marks (n := 0) hf hb trivial (h _ ?_))
  have hle' : (dens args).length ≤ n := by rw [dens_length]; exact Nat.le_of_ble_eq_true hle
  rw [argX_den]
  refine ⟨rfl, by simp [hN]; omega, fun t v hv => ?_⟩
  obtain ⟨_, h2⟩ := argFs_get (dens args) 0 t v hv
  simp only [Nat.sub_zero] at h2
  have hlt := (List.getElem?_eq_some_iff.1 h2).1
  have h3 := (List.getElem?_eq_some_iff.1 h2).2
  simp [Array.getElem?_append, hlt]
  exact h3
/-- The end of a call that gives nothing. -/
theorem leaves0 {P : Program} {fn : Func} {R : Ending → World → Prop} {n : Nat} {fs : List (Nat × Value)} {a : Act} {w : World} (hr : fn.results = #[]) (hk : Kn ⟨n, [], none⟩ fs a) (h : R (.returned (.tuple #[])) w) : LeavesInM Fence.wide 0 P fn a.tmps R a.defers .returning w := by
  rw [show a.defers = [] from hk.defers]
  exact ⟨.tuple #[], by simp [results_eq, hr], h⟩
theorem wp_yreg {id : Nat} {os : List Oper} (h : wpListIn (FW N.r) 0 P os.toArray Q os a w) : (Code.region id os.toArray false).wpIn (FW N.r) 0 P Q a w := wpIn_region_lit h
end
end Go.Proofs.YtihboegopigkmaaDoor
