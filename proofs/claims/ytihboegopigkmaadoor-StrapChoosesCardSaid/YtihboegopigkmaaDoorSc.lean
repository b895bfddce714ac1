/- The walk over states through code: sequences, tests, blocks, loops, the return. -/
import Derived.Test.YtihboegopigkmaaDoorSo
import Derived.LoopNIn
namespace Go.Proofs.YtihboegopigkmaaDoor
set_option linter.unusedSimpArgs false
set_option linter.unusedVariables false
set_option linter.unnecessarySimpa false
set_option linter.unusedSectionVars false
open Go.RowKit

theorem wpIn_mono' {F : Fence} {n : Nat} {P : Program} {Q Q' : Exit → Act → World → Prop} {a : Act} {w : World} {c : Code} (hq : ∀ e a w, Q e a w → Q' e a w) (h : c.wpIn F n P Q a w) : c.wpIn F n P Q' a w := wpIn_mono h hq
structure GC (P : Program) (N : FN) (w0 : World) (S : List Nat) (Q : Exit → Act → World → Prop) (fs : List (Nat × Value)) (is : List Itm) (c : Code) : Prop where
  go : ∀ a w, Kn N fs a → Loc w0 S is w → c.wpIn (FW N.r) 0 P Q a w
structure GE (N : FN) (w0 : World) (S : List Nat) (Q : Exit → Act → World → Prop) (fs : List (Nat × Value)) (is : List Itm) (e : Exit) : Prop where
  go : ∀ a w, Kn N fs a → Loc w0 S is w → Q e a w

/-- What is known there is known here. -/
inductive Sub : List (Nat × Value) → List (Nat × Value) → Prop
  | nil {fs} : Sub [] fs
  | cons {t v l fs} : fget fs t = some v → Sub l fs → Sub ((t, v) :: l) fs
theorem Sub.get {l fs : List (Nat × Value)} (h : Sub l fs) : ∀ t v, fget l t = some v → fget fs t = some v := by
  induction h with
  | nil => intro t v h; cases h
  | cons h1 _ ih =>
    intro t v h
    simp only [fget] at h
    rename_i t0 v0 l0 fs0 _
    cases hb : Nat.beq t0 t with
    | true =>
      rw [hb] at h
      simp at h
      have : t0 = t := by simpa using hb
      rw [← this, ← h]; exact h1
    | false =>
      rw [hb] at h
      exact ih t v h

/-- The items of a list that are wanted, in their order. -/
inductive Lst : List Itm → List Itm → Prop
  | nil {l} : Lst [] l
  | take {i l l'} : Lst l l' → Lst (i :: l) (i :: l')
  | skip {i l l'} : Lst l l' → Lst l (i :: l')
theorem Lst.sub {l l' : List Itm} (h : Lst l l') : l.Sublist l' := by
  induction h with
  | nil => exact List.nil_sublist _
  | take _ ih => exact ih.cons_cons _
  | skip _ ih => exact ih.cons _

/-- Without the block that slot d points to. -/
inductive Rem : List Itm → Nat → List Itm → Prop
  | head {t b cs is} : Rem (blk t b cs :: is) b is
  | tail {i b is is'} : Rem is b is' → Rem (i :: is) b (i :: is')
theorem Rem.sub {is is' : List Itm} {b : Nat} (h : Rem is b is') : is'.Sublist is := by
  induction h with
  | head => exact .cons _ (List.Sublist.refl _)
  | tail _ ih => exact .cons_cons _ ih
inductive RemS (fs : List (Nat × Value)) : List Nat → List Itm → List Itm → Prop
  | nil {is} : RemS fs [] is is
  | cons {d ds b o is is' is''} : fget fs d = some (.pointer (some ⟨b, o, none⟩)) → Rem is b is' → RemS fs ds is' is'' → RemS fs (d :: ds) is is''
theorem RemS.sub {fs : List (Nat × Value)} {ds : List Nat} {is is' : List Itm} (h : RemS fs ds is is') : is'.Sublist is := by
  induction h with
  | nil => exact List.Sublist.refl _
  | cons _ h1 _ ih => exact ih.trans h1.sub
section
variable {P : Program} {N : FN} {w0 : World} {S : List Nat} {Q : Exit → Act → World → Prop} {fs : List (Nat × Value)} {is : List Itm}

theorem c_seq {x y : Code} (h : GC P N w0 S (Exit.then (y.wpIn (FW N.r) 0 P Q) Q) fs is x) : GC P N w0 S Q fs is (.seq x y) := ⟨fun a w hk hl => wpIn_seq (h.go a w hk hl)⟩
theorem c_skip (h : GE N w0 S Q fs is .normal) : GC P N w0 S Q fs is .skip := ⟨fun a w hk hl => wpIn_skip (h.go a w hk hl)⟩
theorem c_exit {id : Nat} (h : GE N w0 S Q fs is (.exit id)) : GC P N w0 S Q fs is (.exit id) := ⟨fun a w hk hl => wpIn_exit (h.go a w hk hl)⟩
theorem c_ret (h : GE N w0 S Q fs is .ret) : GC P N w0 S Q fs is .ret := ⟨fun a w hk hl => wpIn_ret (h.go a w hk hl)⟩
theorem c_block {id : Nat} {c : Code} (h : GC P N w0 S (Exit.inBlock id Q) fs is c) : GC P N w0 S Q fs is (.block id c) := ⟨fun a w hk hl => wpIn_block (h.go a w hk hl)⟩
theorem c_cond {o : Operand} {x y : Code} {b : Bool} (hc : opv fs o = some (.bool b)) (ht : b = true → GC P N w0 S Q fs is x) (hf : b = false → GC P N w0 S Q fs is y) : GC P N w0 S Q fs is (.cond o x y) :=
  ⟨fun a w hk hl => wpIn_cond_split (hk.eval hc) (fun h => (ht h).go a w hk hl) (fun h => (hf h).go a w hk hl)⟩
theorem c_condT {o : Operand} {x y : Code} (hc : opv fs o = some (.bool true)) (ht : GC P N w0 S Q fs is x) : GC P N w0 S Q fs is (.cond o x y) := c_cond hc (fun _ => ht) (fun h => by cases h)
theorem c_condF {o : Operand} {x y : Code} (hc : opv fs o = some (.bool false)) (hf : GC P N w0 S Q fs is y) : GC P N w0 S Q fs is (.cond o x y) := c_cond hc (fun h => by cases h) (fun _ => hf)
theorem c_reg {id : Nat} {os : List Oper} (h : GS P (os.map (·.dst)) (fun _ => false) (fun _ => false) [] (Q .normal) N w0 S fs is os) : GC P N w0 S Q fs is (.region id os.toArray false) :=
  ⟨fun a w hk hl => wp_region_plainX (h.go [] a w hk hl (hl.sub (List.nil_sublist _)))⟩
theorem c_regR {id : Nat} {os : List Oper} {ks : List Itm} (hard ds π : List Nat) (hm : P.follows .mixedOrders = true) (hB : regX os.toArray (sfOf hard) alOf π = true) (hlen : Nat.beq π.length os.length = true) (hks : RemS fs ds is ks)
    (h : GS P (os.map (·.dst)) (sfOf hard) alOf ks (Q .normal) N w0 S fs is (pickL os π)) : GC P N w0 S Q fs is (.region id os.toArray true) :=
  ⟨fun a w hk hl => wp_region_X (sfOf hard) alOf π (loc_class w0 S ks) hm hB (Nat.eq_of_beq_eq_true hlen) (hl.drew.sub hks.sub) (h.go [] a w.drew hk hl.drew (hl.drew.sub hks.sub))⟩
theorem s_end {T : List (Option Tmp)} {sf al : Oper → Bool} {ks : List Itm} [AlC al] (h : GE N w0 S Q fs is .normal) : GS P T sf al ks (Q .normal) N w0 S fs is [] := s_nil fun a w hk hl => h.go a w hk hl

theorem e_then {y : Code} (h : GC P N w0 S Q fs is y) : GE N w0 S (Exit.then (y.wpIn (FW N.r) 0 P Q) Q) fs is .normal := ⟨h.go⟩
theorem e_then_exit {n : Act → World → Prop} {id : Nat} (h : GE N w0 S Q fs is (.exit id)) : GE N w0 S (Exit.then n Q) fs is (.exit id) := ⟨h.go⟩
theorem e_then_ret {n : Act → World → Prop} (h : GE N w0 S Q fs is .ret) : GE N w0 S (Exit.then n Q) fs is .ret := ⟨h.go⟩
theorem e_block_hit {id : Nat} (h : GE N w0 S Q fs is .normal) : GE N w0 S (Exit.inBlock id Q) fs is (.exit id) := ⟨fun a w hk hl => by
  simp only [Exit.inBlock, if_true]; exact h.go a w hk hl⟩
theorem e_block_miss {id id' : Nat} (hne : Nat.beq id' id = false) (h : GE N w0 S Q fs is (.exit id')) : GE N w0 S (Exit.inBlock id Q) fs is (.exit id') := ⟨fun a w hk hl => by
  have : ¬ id' = id := fun e => by subst e; simp at hne
  simp only [Exit.inBlock, if_neg this]; exact h.go a w hk hl⟩
theorem e_block_normal {id : Nat} (h : GE N w0 S Q fs is .normal) : GE N w0 S (Exit.inBlock id Q) fs is .normal := ⟨h.go⟩
theorem e_block_ret {id : Nat} (h : GE N w0 S Q fs is .ret) : GE N w0 S (Exit.inBlock id Q) fs is .ret := ⟨h.go⟩

/-- Rounds one by one. -/
theorem c_rounds {c : Code} (n : Nat) (h : GE N w0 S (fun _ => Code.roundsIn (FW N.r) 0 P c Q n) fs is .normal) : GC P N w0 S Q fs is (.loop c) := ⟨fun a w hk hl => wpIn_loop_rounds n (h.go a w hk hl)⟩
theorem c_round {c : Code} {n : Nat} {e : Exit} (h : GC P N w0 S (Exit.then (Code.roundsIn (FW N.r) 0 P c Q n) Q) fs is c) : GE N w0 S (fun _ => Code.roundsIn (FW N.r) 0 P c Q (n + 1)) fs is e := ⟨h.go⟩
theorem e_rounds {c : Code} {n : Nat} (h : GE N w0 S (fun _ => Code.roundsIn (FW N.r) 0 P c Q n) fs is .normal) : GE N w0 S (Exit.then (Code.roundsIn (FW N.r) 0 P c Q n) Q) fs is .normal := ⟨h.go⟩

/-- A loop by its invariant: x tells the slots F x and the items I x. -/
structure LI (N : FN) (w0 : World) (S : List Nat) {ι : Type} (F : ι → List (Nat × Value)) (I : ι → List Itm) (pre : ι → Prop) (μ : ι → Nat) (x : ι) (a : Act) (w : World) : Prop where
  ex : ∃ y, pre y ∧ μ y < μ x ∧ Kn N (F y) a ∧ Loc w0 S (I y) w
theorem c_loop {c : Code} {ι : Type} (F : ι → List (Nat × Value)) (I : ι → List Itm) (pre : ι → Prop) (μ : ι → Nat) (x0 : ι) (h0 : pre x0) (hF : Sub (F x0) fs) (hI : Lst (I x0) is)
    (round : ∀ x, pre x → GC P N w0 S (Exit.then (LI N w0 S F I pre μ x) Q) (F x) (I x) c) : GC P N w0 S Q fs is (.loop c) := by
  have key : ∀ n x, μ x < n → pre x → ∀ a w, Kn N (F x) a → Loc w0 S (I x) w → Code.roundsIn (FW N.r) 0 P c Q n a w := by
    intro n
    induction n with
    | zero => intro x hx; omega
    | succ n ih =>
      intro x hx hp a w hk hl
      rw [roundsIn_succ]
      refine wpIn_mono' (fun e a' w' hq => ?_) ((round x hp).go a w hk hl)
      cases e with
      | normal =>
        obtain ⟨y, hy, hlt, hk', hl'⟩ := hq.ex
        exact ih y (by omega) hy a' w' hk' hl'
      | _ => exact hq
  refine ⟨fun a w hk hl => ?_⟩
  exact wpIn_loop_rounds (μ x0 + 1) (key _ x0 (by omega) h0 a w (hk.mono hF.get) (hl.sub hI.sub))
theorem e_round {ι : Type} {F : ι → List (Nat × Value)} {I : ι → List Itm} {pre : ι → Prop} {μ : ι → Nat} {x : ι} (y : ι) (hy : pre y) (hlt : μ y < μ x) (hF : Sub (F y) fs) (hI : Lst (I y) is) :
    GE N w0 S (Exit.then (LI N w0 S F I pre μ x) Q) fs is .normal := ⟨fun a w hk hl => ⟨⟨y, hy, hlt, hk.mono hF.get, hl.sub hI.sub⟩⟩⟩

/-- A place where ways meet: what is known from there on is said. -/
structure CI (N : FN) (w0 : World) (S : List Nat) {ι : Type} (F : ι → List (Nat × Value)) (I : ι → List Itm) (pre : ι → Prop) (a : Act) (w : World) : Prop where
  ex : ∃ y, pre y ∧ Kn N (F y) a ∧ Loc w0 S (I y) w
theorem c_cut {x y : Code} {ι : Type} (F : ι → List (Nat × Value)) (I : ι → List Itm) (pre : ι → Prop) (h1 : GC P N w0 S (Exit.then (CI N w0 S F I pre) Q) fs is x)
    (h2 : ∀ u, pre u → GC P N w0 S Q (F u) (I u) y) : GC P N w0 S Q fs is (.seq x y) := c_seq ⟨fun a w hk hl => wpIn_mono' (fun e a' w' hq => by
      cases e with
      | normal => obtain ⟨u, hu, hk', hl'⟩ := hq.ex; exact (h2 u hu).go a' w' hk' hl'
      | _ => exact hq) (h1.go a w hk hl)⟩
theorem e_cut {ι : Type} {F : ι → List (Nat × Value)} {I : ι → List Itm} {pre : ι → Prop} (y : ι) (hy : pre y) (hF : Sub (F y) fs) (hI : Lst (I y) is) :
    GE N w0 S (Exit.then (CI N w0 S F I pre) Q) fs is .normal := ⟨fun a w hk hl => ⟨⟨y, hy, hk.mono hF.get, hl.sub hI.sub⟩⟩⟩

/-- An item without a footprint is laid beside. -/
theorem c_free {c : Code} (i : Itm) (hf : i.foot = []) (hi : ∀ w, i.holds w) (h : GC P N w0 S Q fs (i :: is) c) : GC P N w0 S Q fs is c := ⟨fun a w hk hl => h.go a w hk (hl.free i hf (hi w))⟩
theorem c_weak {c : Code} {fs' : List (Nat × Value)} {is' : List Itm} (hF : Sub fs' fs) (hI : Lst is' is) (h : GC P N w0 S Q fs' is' c) : GC P N w0 S Q fs is c := ⟨fun a w hk hl => h.go a w (hk.mono hF.get) (hl.sub hI.sub)⟩

/-! the return -/
inductive RV (P : Program) (fs : List (Nat × Value)) (is : List Itm) : ResultVar → Value → Prop
  | tmp {t v} : fget fs t = some v → RV P fs is (.tmp t) v
  | cell {p t e b off cs agg sz v} [TL P t agg sz] : fget fs p = some (.pointer (some ⟨b, off, none⟩)) → At is (blk e b cs) → rdv agg sz cs off = some v → RV P fs is (.cell p t) v
def rvS (tmps : Array Value) : ResultVar → Sem Value
  | .tmp t => pure (tmps.getD t undef)
  | .cell a t => do loadVar t (← asAddr (tmps.getD a undef))
theorem RV.run {rv : ResultVar} {v : Value} (h : RV P fs is rv v) {a : Act} {w : World} (hk : Kn N fs a) (hl : Loc w0 S is w) : (rvS a.tmps rv).run P w = .ok v w := by
  cases h with
  | tmp h1 => simp only [rvS, hk.get _ _ h1]; rfl
  | cell h1 h2 h3 => simp only [rvS, hk.get _ _ h1, asAddr, Sem.run_bind, Sem.run_pure, Result.andThen_ok, run_loadVar_blk (hl.holds _ h2.mem) h3]
theorem results_eq (fn : Func) (tmps : Array Value) : results fn tmps = (do
    let vs ← fn.results.mapM (rvS tmps)
    pure (if h : vs.size = 1 then vs[0] else .tuple vs)) := rfl
variable {fn : Func} {R : Ending → World → Prop} {e : Exit} {r1 r2 r3 r4 : ResultVar} {v v1 v2 v3 v4 : Value}
def endsB : Exit → Bool
  | .normal | .ret => true
  | _ => false
/-- A block for the rounds' deferred calls, of which there are none. -/
def dfr (b : Nat) : Itm where
  foot := [b]
  holds w := w.heap[b]? = some (.deferred (some []))
  loc w w' h hh := by rw [h b (List.mem_singleton.2 rfl)]; exact hh
  live w h k hk := by cases List.mem_singleton.1 hk; exact (Array.getElem?_eq_some_iff.1 h).1
theorem Loc.put {w : World} {i i' : Itm} {keep : List Itm} {b : Nat} (h : Loc w0 S (i :: keep) w) (hf : i.foot = [b]) (hf' : i'.foot = [b]) (o : Obj) (hi : i'.holds (w.putObj b o)) : Loc w0 S (i' :: keep) (w.putObj b o) :=
  h.upd (w' := w.putObj b o) (.left (Split.all keep)) rfl rfl rfl (by rw [World.putObj_size]; exact Nat.le_refl _) (fun k _ hk => World.putObj_heap_other (fun e => hk (by rw [hf, e]; exact List.mem_singleton.2 rfl))) i' hi (fun k hk => .inl (by rw [hf, ← hf']; exact hk))
/-- The marks are come to, one by one. -/
theorem loc_marks {tmps : Array Value} : ∀ {ms : List (Nat × Nat)} {is : List Itm} {w : World}, Loc w0 S (ms.map (fun p => dfr p.2) ++ is) w → (∀ w, Loc w0 S is w → ∃ v, (results fn tmps).run P w = .ok v w ∧ R (.returned v) w) →
    LeavesInM Fence.wide 0 P fn tmps R (ms.map fun p => { target := .collected p.2, args := #[] }) .returning w
  | [], is, w, hl, h => h w hl
  | p :: ms, is, w, hl, h => by
    refine ⟨by simp, .inl ⟨p.2, w.putObj p.2 (.deferred none), rfl, run_takeDeferred (hl.holds (dfr p.2) (List.mem_cons_self ..)), loc_marks (ms := ms) (is := is) ?_ h⟩⟩
    have hl' : Loc w0 S (ms.map (fun p => dfr p.2) ++ is) (w.putObj p.2 (.deferred none)) := by
      have h1 : Loc w0 S ((Itm.mk [p.2] (fun w => p.2 < w.heap.size) (fun w w' hk hh => by
          have := hk p.2 (List.mem_singleton.2 rfl)
          rw [Array.getElem?_eq_getElem hh] at this
          exact (Array.getElem?_eq_some_iff.1 this).1) (fun w hh k hk => by cases List.mem_singleton.1 hk; exact hh)) :: (ms.map (fun p => dfr p.2) ++ is)) (w.putObj p.2 (.deferred none)) :=
        Loc.put (i := dfr p.2) hl rfl rfl _ (by show p.2 < (w.putObj p.2 _).heap.size; rw [World.putObj_size]; exact (dfr p.2).live w (hl.holds (dfr p.2) (List.mem_cons_self ..)) p.2 (List.mem_singleton.2 rfl))
      exact h1.sub (List.sublist_cons_self _ _)
    exact hl'
theorem e_of_run (hr : N.r = none) (he : endsB e = true) {ks : List Itm} (hks : is.Perm (N.ms.map (fun p => dfr p.2) ++ ks)) (h : ∀ a w, Kn N fs a → Loc w0 S ks w → ∃ v, (results fn a.tmps).run P w = .ok v w ∧ R (.returned v) w) : GE N w0 S (bodyPostM Fence.wide 0 P fn R) fs is e := by
  refine ⟨fun a w hk hl => ?_⟩
  have key : LeavesInM Fence.wide 0 P fn a.tmps R a.defers .returning w := by
    rw [hk.defers]
    exact loc_marks (hl.perm hks) (fun w hl => h a w hk hl)
  cases e with
  | normal => exact key
  | ret => exact key
  | _ => cases he
/-! the call -/
def argFs : Nat → List Value → List (Nat × Value)
  | _, [] => []
  | n, v :: vs => (n, v) :: argFs (n + 1) vs
theorem argFs_get : ∀ (vs : List Value) (n t : Nat) (v : Value), fget (argFs n vs) t = some v → n ≤ t ∧ vs[t - n]? = some v
  | [], _, _, _, h => by cases h
  | u :: vs, n, t, v, h => by
    simp only [argFs, fget] at h
    cases hb : Nat.beq n t with
    | true =>
      rw [hb] at h
      simp at h
      have : n = t := by simpa using hb
      subst this
      simp [h]
    | false =>
      rw [hb] at h
      have hne : n ≠ t := fun e => by subst e; simp at hb
      obtain ⟨h1, h2⟩ := argFs_get vs (n + 1) t v h
      refine ⟨by omega, ?_⟩
      obtain ⟨m, hm⟩ : ∃ m, t - n = m + 1 := ⟨t - n - 1, by omega⟩
      rw [hm]
      rw [show t - (n + 1) = m by omega] at h2
      simpa using h2
theorem calls_gc {f : FuncId} {args : List Value} {w : World} {M : List Nat} {is0 : List Itm} {c : Code} {n : Nat} (hf : P.funcs[f]? = some fn) (hb : fn.body = some c) (hN : fn.ntmps = n) (hle : Nat.ble args.length n = true) (hl : Loc w M is0 w)
    (h : GC P ⟨n, [], none⟩ w M (bodyPostM Fence.wide 0 P fn R) (argFs 0 args) is0 c) : Calls P f args.toArray w R := by
  refine callsIn_wide.1 (callsIn_of_wp_marks (n := 0) hf hb trivial (h.go _ w ?_ hl))
  have hle' : args.length ≤ n := Nat.le_of_ble_eq_true hle
  refine ⟨rfl, by simp [hN]; omega, fun t v hv => ?_⟩
  obtain ⟨_, h2⟩ := argFs_get args 0 t v hv
  simp only [Nat.sub_zero] at h2
  have hlt := (List.getElem?_eq_some_iff.1 h2).1
  have h3 := (List.getElem?_eq_some_iff.1 h2).2
  simp [Array.getElem?_append, hlt]
  exact h3
end
end Go.Proofs.YtihboegopigkmaaDoor
