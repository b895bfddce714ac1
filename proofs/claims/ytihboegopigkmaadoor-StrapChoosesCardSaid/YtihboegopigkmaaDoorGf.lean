/- The walk by reckoning, part 6: code, loops, calls, the return. -/
import Derived.Test.YtihboegopigkmaaDoorGe
import Derived.Test.YtihboegopigkmaaDoorSc
namespace Go.Proofs.YtihboegopigkmaaDoor
set_option linter.unusedSimpArgs false
set_option linter.unusedVariables false
set_option linter.unnecessarySimpa false
set_option linter.unusedSectionVars false
open Go.RowKit

/-- What comes behind. -/
inductive Kt
  | base (Q : Exit → Act → World → Prop)
  | fin (fn : Func) (R : Ending → World → Prop)
  | rnd (n : Act → World → Prop) (k : Kt)
  | seq (y : Code) (k : Kt)
  | blk (id : Nat) (k : Kt)
def Kt.sem (P : Program) (r : Option Nat) : Kt → Exit → Act → World → Prop
  | .base Q => Q
  | .fin fn R => bodyPostM Fence.wide 0 P fn R
  | .rnd n k => Exit.then n (k.sem P r)
  | .seq y k => Exit.then (y.wpIn (FW r) 0 P (k.sem P r)) (k.sem P r)
  | .blk id k => Exit.inBlock id (k.sem P r)

def takeB : Mem → Nat → Option (MI × Mem)
  | [], _ => none
  | i :: r, h => match Nat.beq i.tag h with
    | true => some (i, r)
    | false => match takeB r h with
      | some p => match p with
        | (j, r') => some (j, i :: r')
      | none => none
theorem takeB_perm : ∀ {m r : Mem} {h : Nat} {i : MI}, takeB m h = some (i, r) → m.Perm (i :: r)
  | [], r, h, i, e => by simp [takeB] at e
  | j :: m, r, h, i, e => by
    simp only [takeB] at e
    split at e
    · simp only [Option.some.injEq, Prod.mk.injEq] at e
      obtain ⟨rfl, rfl⟩ := e
      exact List.Perm.refl _
    · split at e
      · rename_i p hp
        obtain ⟨a, r'⟩ := p
        simp only [Option.some.injEq, Prod.mk.injEq] at e
        obtain ⟨rfl, rfl⟩ := e
        exact (List.Perm.cons _ (takeB_perm hp)).trans (List.Perm.swap _ _ _)
      · cases e
section
variable (P : Program) (tab : Tr) (N : FN) (w0 : World) (S : List Nat)
structure XC (k : Kt) (fs : Fr) (mem : Mem) (c : Code) : Prop where
  go : GC P N w0 S (k.sem P N.r) (denF fs) (denM mem) c
structure XE (k : Kt) (fs : Fr) (mem : Mem) (e : Exit) : Prop where
  go : GE N w0 S (k.sem P N.r) (denF fs) (denM mem) e
structure XLoop (k : Kt) (fs : Fr) (mem : Mem) (c : Code) : Prop where
  go : GC P N w0 S (k.sem P N.r) (denF fs) (denM mem) (.loop c)
structure XDrw (id : Nat) (os : Array Oper) (k : Kt) (fs : Fr) (mem : Mem) : Prop where
  go : GC P N w0 S (k.sem P N.r) (denF fs) (denM mem) (.region id os true)
structure XOth (k : Kt) (fs : Fr) (mem : Mem) (c : Code) : Prop where
  go : GC P N w0 S (k.sem P N.r) (denF fs) (denM mem) c
/-- The end of a call: the results. -/
structure XRet (R : Ending → World → Prop) (mem : Mem) (v : SV) : Prop where
  go : ∀ w, Loc w0 S (denM mem) w → R (.returned v.den) w

def rvX (rv : ResultVar) (fs : Fr) (mem : Mem) (X : SV → Prop) : Prop :=
  match rv with
  | .tmp t => match fgetX fs t with
    | some v => X v
    | none => False
  | .cell p ty => match fgetX fs p with
    | some v => match v with
      | .ptr h b off => match findB mem h with
        | some i => match i with
          | .blk _ e b' cs => match tab.get ty with
            | some ti => match rdX ti.agg ti.sz cs off with
              | some v => LSide (b = b') (X v)
              | none => False
            | none => False
          | _ => LLoad P w0 S [] ty ⟨b, off, none⟩ false mem X
        | none => LLoad P w0 S [] ty ⟨b, off, none⟩ false mem X
      | v => match ptrOf v with
        | some p => LLoad P w0 S [] ty p false mem X
        | none => False
    | none => False
def resX : List ResultVar → Fr → Mem → (List SV → Prop) → Prop
  | [], _, _, X => X []
  | r :: rs, fs, mem, X => rvX P tab w0 S r fs mem fun v => resX rs fs mem fun vs => X (v :: vs)
/-- The marks' blocks are taken off. -/
def stripX : List (Nat × Nat) → Mem → (Mem → Prop) → Prop
  | [], mem, X => X mem
  | p :: ms, mem, X => match takeB mem p.1 with
    | some q => match q with
      | (j, mem') => LSide (j.itm = dfr p.2) (stripX ms mem' X)
    | none => False
def xret (fn : Func) (R : Ending → World → Prop) (fs : Fr) (mem : Mem) : Prop :=
  match N.r with
  | none => stripX N.ms mem fun mem => resX P tab w0 S fn.results.toList fs mem fun vs => match vs with
    | [] => XRet w0 S R mem (.tup [])
    | v :: vs => match vs with
      | [] => XRet w0 S R mem v
      | v' :: vs => XRet w0 S R mem (.tup (v :: v' :: vs))
  | some _ => False
def xe : Kt → Exit → Fr → Mem → Prop
  | .base Q, e, fs, mem => XE P N w0 S (.base Q) fs mem e
  | .fin fn R, e, fs, mem => match e with
    | .normal => xret P tab N w0 S fn R fs mem
    | .ret => xret P tab N w0 S fn R fs mem
    | _ => False
  | .rnd n k, e, fs, mem => match e with
    | .normal => XE P N w0 S (.rnd n k) fs mem .normal
    | e => xe k e fs mem
  | .seq y k, e, fs, mem => match e with
    | .normal => XC P N w0 S k fs mem y
    | e => xe k e fs mem
  | .blk id k, e, fs, mem => match e with
    | .exit id' => match Nat.beq id' id with
      | true => xe k .normal fs mem
      | false => xe k (.exit id') fs mem
    | e => xe k e fs mem
def xc : Code → Kt → Fr → Mem → Prop
  | .skip, k, fs, mem => xe P tab N w0 S k .normal fs mem
  | .ret, k, fs, mem => xe P tab N w0 S k .ret fs mem
  | .exit id, k, fs, mem => xe P tab N w0 S k (.exit id) fs mem
  | .seq a b, k, fs, mem => xc a (.seq b k) fs mem
  | .block id c, k, fs, mem => xc c (.blk id k) fs mem
  | .cond o a b, k, fs, mem => match opx fs o with
    | none => False
    | some v => match v with
      | .lit c => match c with
        | true => xc a k fs mem
        | false => xc b k fs mem
      | .dec p _ => LBr p (xc a k fs mem) (xc b k fs mem)
      | .boo c => LBr (c = true) (xc a k fs mem) (xc b k fs mem)
      | _ => False
  | .region id os draw, k, fs, mem => match draw with
    | true => XDrw P N w0 S id os k fs mem
    | false => xs P tab N w0 S [] (os.toList.map (·.dst)) (fun _ => false) (xe P tab N w0 S k .normal) os.toList fs mem
  | .loop c, k, fs, mem => XLoop P N w0 S k fs mem c
  | c, k, fs, mem => XOth P N w0 S k fs mem c
end

section
variable {P : Program} {tab : Tr} {N : FN} {w0 : World} {S : List Nat} {k : Kt} {fs : Fr} {mem : Mem}
theorem rvX_ok (ht : tab.ok P) {rv : ResultVar} {X : SV → Prop} (h : rvX P tab w0 S rv fs mem X) {a : Act} {w : World} (hk : Kn N (denF fs) a) (hl : Loc w0 S (denM mem) w) : ∃ v, (rvS a.tmps rv).run P w = .ok v.den w ∧ X v := by
  unfold rvX at h
  have hl0 : Loc w0 S (denM []) w := hl.sub (List.nil_sublist _)
  split at h
  · rename_i t
    split at h
    · rename_i v hv
      exact ⟨v, by simp only [rvS, hk.get _ _ (by rw [fgetX_den, hv]; rfl)]; rfl, h⟩
    · exact h.elim
  · rename_i p ty
    have go : ∀ {v : SV} {q : Addr}, fgetX fs p = some v → v.den = .pointer (some q) → LLoad P w0 S [] ty q false mem X → ∃ v, (rvS a.tmps (.cell p ty)).run P w = .ok v.den w ∧ X v := fun {v q} hv hq h => by
      obtain ⟨u, h1, h2⟩ := h.go
      have h3 := h1 w hl0 (.inr hl)
      exact ⟨u, by simp only [rvS, hk.get _ _ (by rw [fgetX_den, hv]; rfl), hq, asAddr, Sem.run_bind, Sem.run_pure, Result.andThen_ok, h3], h2⟩
    split at h
    · rename_i v hv
      split at h
      · rename_i hh b off
        split at h
        · rename_i i hi
          split at h
          · rename_i h' e b' cs
            split at h
            · rename_i ti hti
              split at h
              · rename_i u hu
                obtain ⟨rfl, h⟩ := h
                have F := Tr.get_ok ht hti
                haveI := F.tl
                have hw := hl.holds _ (findB_at hi).mem
                exact ⟨u, by simp only [rvS, hk.get _ _ (by rw [fgetX_den, hv]; rfl), SV.den, Option.map_some, asAddr, Sem.run_bind, Sem.run_pure, Result.andThen_ok, run_loadVar_blk (P := P) (t := ty) hw (rdX_some hu)], h⟩
              · exact h.elim
            · exact h.elim
          · exact go hv rfl h
        · exact go hv rfl h
      · split at h
        · rename_i q hq
          exact go hv (ptrOf_den hq) h
        · exact h.elim
    · exact h.elim
theorem resX_ok (ht : tab.ok P) {a : Act} {w : World} (hk : Kn N (denF fs) a) (hl : Loc w0 S (denM mem) w) : ∀ {rs : List ResultVar} {X : List SV → Prop}, resX P tab w0 S rs fs mem X → ∃ vs, (rs.mapM (rvS a.tmps)).run P w = .ok (dens vs) w ∧ X vs
  | [], X, h => ⟨[], by simp [dens], h⟩
  | r :: rs, X, h => by
    obtain ⟨v, h1, h2⟩ := rvX_ok ht h hk hl
    obtain ⟨vs, h3, h4⟩ := resX_ok ht hk hl h2
    exact ⟨v :: vs, by simp [List.mapM_cons, h1, h3, dens], h4⟩
theorem stripX_ok : ∀ {ms : List (Nat × Nat)} {mem : Mem} {X : Mem → Prop}, stripX ms mem X → ∃ mem', (denM mem).Perm (ms.map (fun p => dfr p.2) ++ denM mem') ∧ X mem'
  | [], mem, X, h => ⟨mem, List.Perm.refl _, h⟩
  | p :: ms, mem, X, h => by
    simp only [stripX] at h
    split at h
    · rename_i q hq
      obtain ⟨j, m⟩ := q
      obtain ⟨h1, h2⟩ := h
      obtain ⟨m', hp, hX⟩ := stripX_ok h2
      refine ⟨m', ?_, hX⟩
      have hp' := (takeB_perm hq).map MI.itm
      rw [← denM_map, ← denM_map] at hp'
      refine hp'.trans ?_
      simp only [denM, h1, List.map_cons, List.cons_append]
      exact .cons _ hp
    · exact h.elim
theorem xret_ok (ht : tab.ok P) {fn : Func} {R : Ending → World → Prop} {e : Exit} (he : endsB e = true) (h : xret P tab N w0 S fn R fs mem) : GE N w0 S (bodyPostM Fence.wide 0 P fn R) (denF fs) (denM mem) e := by
  unfold xret at h
  split at h
  · rename_i hr
    obtain ⟨mem', hp, h⟩ := stripX_ok h
    refine e_of_run hr he hp fun a w hk hl => ?_
    obtain ⟨vs, h1, h2⟩ := resX_ok ht hk hl h
    have hm : (fn.results.mapM (rvS a.tmps)).run P w = .ok (dens vs).toArray w := by
      rw [Array.mapM_eq_mapM_toList]
      simp [h1]
    split at h2
    · exact ⟨_, by rw [results_eq]; simp [hm]; rfl, by have := h2.go w hl; simpa [SV.den, dens] using this⟩
    · split at h2
      · rename_i v _
        exact ⟨v.den, by rw [results_eq]; simp [hm, dens], h2.go w hl⟩
      · rename_i v _ v' vs
        exact ⟨(SV.tup (v :: v' :: vs)).den, by rw [results_eq]; simp [hm, dens, SV.den], h2.go w hl⟩
  · exact h.elim
theorem e_then_any {n : Act → World → Prop} {Q : Exit → Act → World → Prop} {fs : List (Nat × Value)} {is : List Itm} {e : Exit} (he : e ≠ .normal) (h : GE N w0 S Q fs is e) : GE N w0 S (Exit.then n Q) fs is e := ⟨fun a w hk hl => by
  have := h.go a w hk hl
  cases e <;> first | exact absurd rfl he | exact this⟩
theorem xe_ok (ht : tab.ok P) : ∀ {k : Kt} {e : Exit}, xe P tab N w0 S k e fs mem → GE N w0 S (k.sem P N.r) (denF fs) (denM mem) e
  | .base Q, e, h => XE.go h
  | .fin fn R, e, h => by
    cases e <;> simp only [xe] at h <;> first | exact h.elim | exact xret_ok ht rfl h
  | .rnd n k, e, h => by
    cases e <;> simp only [xe] at h <;> first | exact h.go | exact e_then_any (by simp) (xe_ok ht h)
  | .seq y k, e, h => by
    cases e <;> simp only [xe] at h <;> first | exact e_then h.go | exact e_then_any (by simp) (xe_ok ht h)
  | .blk id k, e, h => by
    cases e with
    | exit id' =>
      simp only [xe] at h
      split at h
      · rename_i hb
        have := Nat.eq_of_beq_eq_true hb
        subst this
        exact e_block_hit (xe_ok ht h)
      · rename_i hb
        exact e_block_miss hb (xe_ok ht h)
    | _ => exact ⟨(xe_ok ht (show xe P tab N w0 S k _ fs mem from h)).go⟩
theorem xc_ok (ht : tab.ok P) : ∀ {c : Code} {k : Kt} {fs : Fr}, xc P tab N w0 S c k fs mem → GC P N w0 S (k.sem P N.r) (denF fs) (denM mem) c
  | .skip, k, fs, h => c_skip (xe_ok ht h)
  | .ret, k, fs, h => c_ret (xe_ok ht h)
  | .exit id, k, fs, h => c_exit (xe_ok ht h)
  | .seq a b, k, fs, h => c_seq (xc_ok ht (k := .seq b k) h)
  | .block id c, k, fs, h => c_block (xc_ok ht (k := .blk id k) h)
  | .cond o a b, k, fs, h => by
    simp only [xc] at h
    split at h
    · exact h.elim
    · rename_i v hv
      have ev := opx_some hv
      split at h
      · rename_i c
        split at h
        · exact c_condT ev (xc_ok ht h)
        · exact c_condF ev (xc_ok ht h)
      · rename_i p i
        exact c_cond ev (fun hb => xc_ok ht (h.t (of_decide_eq_true hb))) (fun hb => xc_ok ht (h.f (of_decide_eq_false hb)))
      · rename_i c
        exact c_cond ev (fun hb => xc_ok ht (h.t hb)) (fun hb => xc_ok ht (h.f (by simp [hb])))
      · exact h.elim
  | .region id os draw, k, fs, h => by
    simp only [xc] at h
    split at h
    · exact h.go
    · refine c_reg (os := os.toList) ?_
      exact xs_ok ht (km := []) (fun fs mem h a w hk hl => (xe_ok ht h).go a w hk hl) os.toList fs mem (List.nil_sublist _) h
  | .loop c, k, fs, h => XLoop.go h
  | .scope _, k, fs, h => XOth.go h
  | .rangeFunc .., k, fs, h => XOth.go h
  | .label _, k, fs, h => XOth.go h
  | .goto _, k, fs, h => XOth.go h
  | .refuse _, k, fs, h => XOth.go h
theorem run_c (ht : tab.ok P) {c : Code} (h : xc P tab N w0 S c k fs mem) : XC P N w0 S k fs mem c := ⟨xc_ok ht h⟩

/-! loops -/
def fsub : Fr → Fr → Prop
  | [], _ => True
  | (t, v) :: l, fs => match fgetX fs t with
    | some v' => v'.den = v.den ∧ fsub l fs
    | none => False
theorem fsub_sub : ∀ {l fs : Fr}, fsub l fs → Sub (denF l) (denF fs)
  | [], _, _ => .nil
  | (t, v) :: l, fs, h => by
    simp only [fsub] at h
    split at h
    · rename_i v' hv
      exact .cons (by rw [fgetX_den, hv, ← h.1]; rfl) (fsub_sub h.2)
    · exact h.elim
def msub : Mem → Mem → Prop
  | [], _ => True
  | i :: l, m => match takeB m i.tag with
    | some p => match p with
      | (j, m') => j.itm = i.itm ∧ msub l m'
    | none => False
theorem msub_loc : ∀ {l m : Mem}, msub l m → ∃ r : List Itm, (denM m).Perm (denM l ++ r)
  | [], m, _ => ⟨denM m, by simp [denM]⟩
  | i :: l, m, h => by
    simp only [msub] at h
    split at h
    · rename_i p hp
      obtain ⟨j, m'⟩ := p
      obtain ⟨h1, h2⟩ := h
      obtain ⟨r, hr⟩ := msub_loc h2
      have hp' := (takeB_perm hp).map MI.itm
      rw [← denM_map, ← denM_map] at hp'
      refine ⟨r, hp'.trans ?_⟩
      simp only [denM, h1, List.cons_append]
      exact .cons _ hr
    · exact h.elim
theorem msub_ok {l m : Mem} (h : msub l m) {w : World} (hl : Loc w0 S (denM m) w) : Loc w0 S (denM l) w := by
  obtain ⟨r, hr⟩ := msub_loc h
  exact (hl.perm hr).sub (List.sublist_append_left _ _)
theorem x_loop {c : Code} {ι : Type} (F : ι → Fr) (I : ι → Mem) (pre : ι → Prop) (μ : ι → Nat) (x0 : ι) (h0 : pre x0) (hF : fsub (F x0) fs) (hI : msub (I x0) mem)
    (round : ∀ x, pre x → XC P N w0 S (.rnd (LI N w0 S (fun x => denF (F x)) (fun x => denM (I x)) pre μ x) k) (F x) (I x) c) : XLoop P N w0 S k fs mem c := by
  have key : ∀ n x, μ x < n → pre x → ∀ a w, Kn N (denF (F x)) a → Loc w0 S (denM (I x)) w → Code.roundsIn (FW N.r) 0 P c (k.sem P N.r) n a w := by
    intro n
    induction n with
    | zero => intro x hx; omega
    | succ n ih =>
      intro x hx hp a w hk hl
      rw [roundsIn_succ]
      refine wpIn_mono' (fun e a' w' hq => ?_) ((round x hp).go.go a w hk hl)
      cases e with
      | normal =>
        obtain ⟨y, hy, hlt, hk', hl'⟩ := hq.ex
        exact ih y (by omega) hy a' w' hk' hl'
      | _ => exact hq
  refine ⟨⟨fun a w hk hl => ?_⟩⟩
  exact wpIn_loop_rounds (μ x0 + 1) (key _ x0 (by omega) h0 a w (hk.mono (fsub_sub hF).get) (msub_ok hI hl))
theorem x_round {ι : Type} {F : ι → Fr} {I : ι → Mem} {pre : ι → Prop} {μ : ι → Nat} {x : ι} (y : ι) (hy : pre y) (hlt : μ y < μ x) (hF : fsub (F y) fs) (hI : msub (I y) mem) :
    XE P N w0 S (.rnd (LI N w0 S (fun x => denF (F x)) (fun x => denM (I x)) pre μ x) k) fs mem .normal :=
  ⟨⟨fun a w hk hl => ⟨⟨y, hy, hlt, hk.mono (fsub_sub hF).get, msub_ok hI hl⟩⟩⟩⟩
/-- Rounds one by one. -/
theorem x_rounds {c : Code} (n : Nat) (h : XE P N w0 S (.base fun _ => Code.roundsIn (FW N.r) 0 P c (k.sem P N.r) n) fs mem .normal) : XLoop P N w0 S k fs mem c := ⟨⟨fun a w hk hl => wpIn_loop_rounds n (h.go.go a w hk hl)⟩⟩
theorem x_rnd {c : Code} {n : Nat} (h : XC P N w0 S (.rnd (Code.roundsIn (FW N.r) 0 P c (k.sem P N.r) n) k) fs mem c) : XE P N w0 S (.base fun _ => Code.roundsIn (FW N.r) 0 P c (k.sem P N.r) (n + 1)) fs mem .normal := ⟨⟨h.go.go⟩⟩
theorem x_rnd' {c : Code} {n : Nat} (h : XC P N w0 S (.rnd (Code.roundsIn (FW N.r) 0 P c (k.sem P N.r) n) k) fs mem c) : XE P N w0 S (.rnd (Code.roundsIn (FW N.r) 0 P c (k.sem P N.r) (n + 1)) k) fs mem .normal := ⟨⟨h.go.go⟩⟩
/-- A place where ways meet. -/
theorem x_cut {x y : Code} {ι : Type} (F : ι → Fr) (I : ι → Mem) (pre : ι → Prop) (h1 : XC P N w0 S (.rnd (CI N w0 S (fun x => denF (F x)) (fun x => denM (I x)) pre) k) fs mem x)
    (h2 : ∀ u, pre u → XC P N w0 S k (F u) (I u) y) : XC P N w0 S k fs mem (.seq x y) :=
  ⟨c_cut (fun x => denF (F x)) (fun x => denM (I x)) pre h1.go (fun u hu => (h2 u hu).go)⟩
theorem x_meet {ι : Type} {F : ι → Fr} {I : ι → Mem} {pre : ι → Prop} (y : ι) (hy : pre y) (hF : fsub (F y) fs) (hI : msub (I y) mem) :
    XE P N w0 S (.rnd (CI N w0 S (fun x => denF (F x)) (fun x => denM (I x)) pre) k) fs mem .normal :=
  ⟨⟨fun a w hk hl => ⟨⟨y, hy, hk.mono (fsub_sub hF).get, msub_ok hI hl⟩⟩⟩⟩
/-- Known slots and items are changed for others that say the same, or less. -/
theorem x_weakL {c : Code} {fs' : Fr} {mem' : Mem} (hF : fsub fs' fs) (hI : msub mem' mem) (h : XLoop P N w0 S k fs' mem' c) : XLoop P N w0 S k fs mem c :=
  ⟨⟨fun a w hk hl => h.go.go a w (hk.mono (fsub_sub hF).get) (msub_ok hI hl)⟩⟩
/-- A row that is nil as yet is laid beside. -/
theorem x_free {c : Code} (i : MI) (hf : i.itm.foot = []) (hi : ∀ w, i.itm.holds w) (h : XLoop P N w0 S k fs (i :: mem) c) : XLoop P N w0 S k fs mem c :=
  ⟨c_free i.itm hf hi h.go⟩
theorem x_nilrow {c : Code} (h e sz : Nat) (hx : XLoop P N w0 S k fs (.row h e sz none 0 0 [] :: mem) c) : XLoop P N w0 S k fs mem c :=
  x_free (.row h e sz none 0 0 []) rfl (fun w => ownNil e sz w) hx

/-! loops whose frame is what was known, but for what they assign -/
def anyN : List Nat → Nat → Bool
  | [], _ => false
  | x :: l, t => match Nat.beq x t with
    | true => true
    | false => anyN l t
/-- What a list of slots does not name, each slot once. -/
def dropFO : List Nat → Fr → Option Fr
  | _, [] => some []
  | ds, (t, v) :: r => match anyN ds t with
    | true => dropFO ds r
    | false => match dropFO (t :: ds) r with
      | some r' => some ((t, v) :: r')
      | none => none
theorem dropFO_get : ∀ {ds : List Nat} {fs r : Fr}, dropFO ds fs = some r → ∀ t v, fgetX r t = some v → anyN ds t = false ∧ fgetX fs t = some v
  | ds, [], r, h, t, v, e => by simp [dropFO] at h; subst h; simp [fgetX] at e
  | ds, (u, x) :: fs, r, h, t, v, e => by
    simp only [dropFO] at h
    cases hd : anyN ds u with
    | true =>
      rw [hd] at h
      obtain ⟨h1, h2⟩ := dropFO_get h t v e
      refine ⟨h1, ?_⟩
      simp only [fgetX]
      cases hb : Nat.beq u t with
      | true =>
        have := Nat.eq_of_beq_eq_true hb
        subst this
        rw [hd] at h1; cases h1
      | false => exact h2
    | false =>
      rw [hd] at h
      simp only at h
      cases hr : dropFO (u :: ds) fs with
      | none => rw [hr] at h; cases h
      | some r' =>
        rw [hr] at h
        injection h with h
        subst h
        simp only [fgetX] at e ⊢
        cases hb : Nat.beq u t with
        | true =>
          rw [hb] at e
          have := Nat.eq_of_beq_eq_true hb
          subst this
          exact ⟨hd, e⟩
        | false =>
          rw [hb] at e
          obtain ⟨h1, h2⟩ := dropFO_get hr t v e
          simp only [anyN, hb] at h1
          exact ⟨h1, h2⟩
def asgO : List Oper → List Nat → List Nat
  | [], a => a
  | o :: l, a => match o.dst with
    | some d => asgO l (d :: a)
    | none => asgO l a
def asgC : Code → List Nat → List Nat
  | .region _ os _, a => asgO os.toList a
  | .seq x y, a => asgC x (asgC y a)
  | .cond _ x y, a => asgC x (asgC y a)
  | .block _ c, a => asgC c a
  | .loop c, a => asgC c a
  | .scope c, a => asgC c a
  | _, a => a
def dropMO : List Nat → Mem → Option Mem
  | _, [] => some []
  | ts, i :: r => match anyN ts i.tag with
    | true => dropMO ts r
    | false => match dropMO ts r with
      | some r' => some (i :: r')
      | none => none
def keepMO : List Nat → Mem → Option Mem
  | _, [] => some []
  | ts, i :: r => match anyN ts i.tag with
    | false => keepMO ts r
    | true => match keepMO ts r with
      | some r' => some (i :: r')
      | none => none
theorem dropMO_perm : ∀ {ts : List Nat} {m a b : Mem}, dropMO ts m = some a → keepMO ts m = some b → m.Perm (b ++ a)
  | ts, [], a, b, h1, h2 => by simp [dropMO] at h1; simp [keepMO] at h2; subst h1 h2; exact List.Perm.refl _
  | ts, i :: m, a, b, h1, h2 => by
    simp only [dropMO] at h1
    simp only [keepMO] at h2
    cases hi : anyN ts i.tag with
    | true =>
      rw [hi] at h1 h2
      simp only at h1 h2
      cases hr : keepMO ts m with
      | none => rw [hr] at h2; cases h2
      | some b' =>
        rw [hr] at h2
        injection h2 with h2
        subst h2
        exact .cons _ (dropMO_perm h1 hr)
    | false =>
      rw [hi] at h1 h2
      simp only at h1 h2
      cases hr : dropMO ts m with
      | none => rw [hr] at h1; cases h1
      | some a' =>
        rw [hr] at h1
        injection h1 with h1
        subst h1
        exact (List.Perm.cons _ (dropMO_perm hr h2)).trans List.perm_middle.symm
def appF : Fr → Fr → Fr
  | [], l => l
  | p :: r, l => p :: appF r l
theorem fget_app (t : Nat) : ∀ (a b : Fr), fgetX (appF a b) t = (fgetX a t).or (fgetX b t)
  | [], b => by simp [appF, fgetX]
  | (u, x) :: a, b => by
    simp only [appF, fgetX]
    cases Nat.beq u t with
    | true => rfl
    | false => exact fget_app t a b
def appM : Mem → Mem → Mem
  | [], l => l
  | p :: r, l => p :: appM r l
theorem appM_eq : ∀ (a b : Mem), appM a b = a ++ b
  | [], b => rfl
  | p :: a, b => by simp [appM, appM_eq a b]
theorem kn_app {a b fs : Fr} (h1 : fsub a fs) (h2 : ∀ t v, fgetX b t = some v → fgetX fs t = some v) {act : Act} (hk : Kn N (denF fs) act) : Kn N (denF (appF a b)) act := by
  refine ⟨hk.defers, hk.size, fun t v hv => ?_⟩
  rw [fgetX_den, fget_app] at hv
  cases ha : fgetX a t with
  | some u =>
    rw [ha] at hv
    simp at hv
    exact hk.get t v ((fsub_sub h1).get t v (by rw [fgetX_den, ha]; simp [hv]))
  | none =>
    rw [ha] at hv
    simp at hv
    obtain ⟨u, hu, rfl⟩ := hv
    exact hk.get t _ (by rw [fgetX_den, h2 t u hu]; rfl)
theorem mem_app {a b m r : Mem} (hI : msub a r) (hp : m.Perm (r ++ b)) {w : World} (hl : Loc w0 S (denM m) w) : Loc w0 S (denM (appM a b)) w := by
  obtain ⟨q, hq⟩ := msub_loc hI
  have h1 := hp.map MI.itm
  rw [List.map_append, ← denM_map, ← denM_map, ← denM_map] at h1
  have h2 : (denM m).Perm ((denM a ++ denM b) ++ q) := h1.trans ((hq.append_right _).trans (by
    rw [List.append_assoc, List.append_assoc]; exact List.Perm.append_left _ List.perm_append_comm))
  rw [appM_eq, denM_append]
  exact (hl.perm h2).sub (List.sublist_append_left _ _)
structure LA (N : FN) (w0 : World) (S : List Nat) {ι : Type} (G : ι → Fr) (J : ι → Mem) (pre : ι → Prop) (μ : ι → Nat) (fs' : Fr) (mem' : Mem) (x : ι) (a : Act) (w : World) : Prop where
  ex : ∃ y, pre y ∧ μ y < μ x ∧ Kn N (denF (appF (G y) fs')) a ∧ Loc w0 S (denM (appM (J y) mem')) w
/-- The invariant: slots G x and items J x, and all that the loop does not assign. -/
theorem x_loopA {c : Code} {ι : Type} (ts : List Nat) (G : ι → Fr) (J : ι → Mem) (pre : ι → Prop) (μ : ι → Nat) (x0 : ι) {fs' : Fr} {mem' mk : Mem} (hf : dropFO (asgC c []) fs = some fs') (hm : dropMO ts mem = some mem') (hmk : keepMO ts mem = some mk) (h0 : pre x0) (hG : fsub (G x0) fs) (hJ : msub (J x0) mk)
    (round : ∀ x, pre x → XC P N w0 S (.rnd (LA N w0 S G J pre μ fs' mem' x) k) (appF (G x) fs') (appM (J x) mem') c) : XLoop P N w0 S k fs mem c := by
  have key : ∀ n x, μ x < n → pre x → ∀ a w, Kn N (denF (appF (G x) fs')) a → Loc w0 S (denM (appM (J x) mem')) w → Code.roundsIn (FW N.r) 0 P c (k.sem P N.r) n a w := by
    intro n
    induction n with
    | zero => intro x hx; omega
    | succ n ih =>
      intro x hx hp a w hk hl
      rw [roundsIn_succ]
      refine wpIn_mono' (fun e a' w' hq => ?_) ((round x hp).go.go a w hk hl)
      cases e with
      | normal =>
        obtain ⟨y, hy, hlt, hk', hl'⟩ := hq.ex
        exact ih y (by omega) hy a' w' hk' hl'
      | _ => exact hq
  refine ⟨⟨fun a w hk hl => ?_⟩⟩
  exact wpIn_loop_rounds (μ x0 + 1) (key _ x0 (by omega) h0 a w (kn_app hG (fun t v h => (dropFO_get hf t v h).2) hk) (mem_app hJ (dropMO_perm hm hmk) hl))
/-- What stays is found again: a check by reckoning. -/
def sameF : Fr → Fr → Prop
  | [], _ => True
  | (t, v) :: l, fs => match fgetX fs t with
    | some v' => v' = v ∧ sameF l fs
    | none => False
theorem sameF_get : ∀ {l fs : Fr}, sameF l fs → ∀ t v, fgetX l t = some v → fgetX fs t = some v
  | [], fs, _, t, v, h => by simp [fgetX] at h
  | (u, x) :: l, fs, hs, t, v, h => by
    simp only [sameF] at hs
    split at hs
    · rename_i v' hv
      simp only [fgetX] at h
      cases hb : Nat.beq u t with
      | true =>
        rw [hb] at h
        injection h with h
        have := Nat.eq_of_beq_eq_true hb
        subst this h
        rw [hv, hs.1]
      | false => rw [hb] at h; exact sameF_get hs.2 t v h
    · exact hs.elim
theorem x_roundA {ι : Type} {G : ι → Fr} {J : ι → Mem} {pre : ι → Prop} {μ : ι → Nat} {x : ι} {fs' : Fr} {mem' : Mem} (y : ι) (hy : pre y) (hlt : μ y < μ x) (hG : fsub (G y) fs) (hs : sameF fs' fs) (hm : msub (appM (J y) mem') mem) :
    XE P N w0 S (.rnd (LA N w0 S G J pre μ fs' mem' x) k) fs mem .normal :=
  ⟨⟨fun a w hk hl => ⟨⟨y, hy, hlt, kn_app hG (sameF_get hs) hk, msub_ok hm hl⟩⟩⟩⟩

/-! drawn regions -/
def rem1 : Mem → Nat → Option Mem
  | [], _ => none
  | i :: r, b => match Nat.beq i.tag b with
    | true => some r
    | false => match rem1 r b with
      | some r' => some (i :: r')
      | none => none
theorem rem1_sub : ∀ {m r : Mem} {b : Nat}, rem1 m b = some r → r.Sublist m
  | [], r, b, h => by simp [rem1] at h
  | i :: m, r, b, h => by
    simp only [rem1] at h
    split at h
    · injection h with h; subst h; exact .cons _ (List.Sublist.refl _)
    · split at h
      · rename_i r' hr
        injection h with h
        subst h
        exact .cons_cons _ (rem1_sub hr)
      · cases h
def remX (fs : Fr) : List Nat → Mem → Option Mem
  | [], m => some m
  | d :: ds, m => match fgetX fs d with
    | some v => match v with
      | .ptr h _ _ => match rem1 m h with
        | some m' => remX fs ds m'
        | none => remX fs ds m
      | _ => none
    | none => none
theorem remX_sub : ∀ {ds : List Nat} {m r : Mem}, remX fs ds m = some r → r.Sublist m
  | [], m, r, h => by simp [remX] at h; subst h; exact List.Sublist.refl _
  | d :: ds, m, r, h => by
    simp only [remX] at h
    split at h
    · split at h
      · split at h
        · rename_i m' hm
          exact (remX_sub h).trans (rem1_sub hm)
        · exact remX_sub h
      · cases h
    · cases h
theorem x_drw (ht : tab.ok P) {id : Nat} {os : List Oper} (hard ds π : List Nat) {km : Mem} (hm : P.follows .mixedOrders = true) (hB : regX os.toArray (sfOf hard) alOf π = true) (hlen : Nat.beq π.length os.length = true) (hks : remX fs ds mem = some km)
    (h : xs P tab N w0 S km (os.map (·.dst)) (sfOf hard) (xe P tab N w0 S k .normal) (pickL os π) fs mem) : XDrw P N w0 S id os.toArray k fs mem :=
  ⟨⟨fun a w hk hl => wp_region_X (sfOf hard) alOf π (loc_class w0 S (denM km)) hm hB (Nat.eq_of_beq_eq_true hlen) (hl.drew.sub (denM_sub (remX_sub hks)))
    ((xs_ok ht (fun fs mem h a w hk hl => (xe_ok ht h).go a w hk hl) _ fs mem (remX_sub hks) h).go [] a w.drew hk hl.drew (hl.drew.sub (denM_sub (remX_sub hks))))⟩⟩

theorem xdrw_id {id : Nat} {os : Array Oper} (h : XDrw P N w0 S id os k fs mem) : XDrw P N w0 S id os k fs mem := h
/-! calls -/
structure RetS (P : Program) (f : FuncId) (args : List SV) (w : World) (v : SV) : Prop where
  go : Ret P f (dens args) w v.den
structure RetX (P : Program) (f : FuncId) (args : List SV) (w : World) (M : List Nat) (R : SV → Mem → Prop) : Prop where
  go : RetM P f (dens args) w M fun v its => ∃ sv mi, v = SV.den sv ∧ its = denM mi ∧ R sv mi
def argX : Nat → List SV → Fr
  | _, [] => []
  | n, v :: vs => (n, v) :: argX (n + 1) vs
theorem argX_den : ∀ (vs : List SV) (n : Nat), denF (argX n vs) = argFs n (dens vs)
  | [], _ => rfl
  | v :: vs, n => by simp [argX, denF, dens, argFs, argX_den vs (n + 1)]
variable {fn : Func} {c : Code} {f : FuncId} {args : List SV}
variable {n : Nat}
theorem calls_x (ht : tab.ok P) {w : World} {M : List Nat} {mem0 : Mem} {R : Ending → World → Prop} (hf : P.funcs[f]? = some fn) (hb : fn.body = some c) (hN : fn.ntmps = n) (hle : Nat.ble args.length n = true) (hl : Loc w M (denM mem0) w)
    (h : xc P tab ⟨n, [], none⟩ w M c (.fin fn R) (argX 0 args) mem0) : Calls P f (dens args).toArray w R := by
  refine calls_gc hf hb hN (by rw [dens_length]; exact hle) hl ?_
  have := xc_ok ht h
  rw [argX_den] at this
  exact this
theorem ret_x (ht : tab.ok P) {w : World} {v : SV} (hf : P.funcs[f]? = some fn) (hb : fn.body = some c) (hN : fn.ntmps = n) (hle : Nat.ble args.length n = true)
    (h : xc P tab ⟨n, [], none⟩ w [] c (.fin fn fun e w' => e = .returned v.den ∧ Loc w [] [] w') (argX 0 args) []) : RetS P f args w v := ⟨calls_x ht hf hb hN hle (.init w) h⟩
theorem retX_x (ht : tab.ok P) {w : World} {M : List Nat} {mem0 : Mem} {R : SV → Mem → Prop} (hf : P.funcs[f]? = some fn) (hb : fn.body = some c) (hN : fn.ntmps = n) (hle : Nat.ble args.length n = true) (hl : Loc w M (denM mem0) w)
    (h : xc P tab ⟨n, [], none⟩ w M c (.fin fn fun e w' => ∃ v its, e = .returned v ∧ (∃ sv mi, v = SV.den sv ∧ its = denM mi ∧ R sv mi) ∧ Loc w M its w') (argX 0 args) mem0) : RetX P f args w M R := ⟨calls_x ht hf hb hN hle hl h⟩
theorem fin_ret {w : World} {v u : SV} (h : u.den = v.den) : XRet w S (fun e w' => e = .returned v.den ∧ Loc w S [] w') mem u := ⟨fun w' hl => ⟨by rw [h], hl.sub (List.nil_sublist _)⟩⟩
theorem fin_retX {w : World} {M : List Nat} {u : SV} {R : SV → Mem → Prop} (m : Mem) (hm : msub m mem) (h : R u m) : XRet w M (fun e w' => ∃ v its, e = .returned v ∧ (∃ sv mi, v = SV.den sv ∧ its = denM mi ∧ R sv mi) ∧ Loc w M its w') mem u :=
  ⟨fun w' hl => ⟨_, _, rfl, ⟨u, m, rfl, rfl, h⟩, msub_ok hm hl⟩⟩

theorem side_id {p X : Prop} (h : LSide p X) : LSide p X := h
theorem ar_id {k : IntKind} {e : Int} {X : Int → Prop} (h : LAr k e X) : LAr k e X := h
theorem br_id {p X Y : Prop} (h : LBr p X Y) : LBr p X Y := h
theorem ix_id {n : Int} {len : Nat} {X Y : Nat → Prop} (h : LIx n len X Y) : LIx n len X Y := h
theorem ex_id {e : Int} {X : Int → Prop} (h : LEx e X) : LEx e X := h
theorem sh_id {n e : Int} {X : Int → Prop} (h : LSh n e X) : LSh n e X := h
theorem quo_id {k : IntKind} {m n : Int} {X : Int → Prop} (h : LQuo k m n X) : LQuo k m n X := h
theorem rem_id {m n : Int} {X : Int → Prop} (h : LRem m n X) : LRem m n X := h
theorem app_id {n m by_ : Nat} {xs ys : List Value} {X : Option Addr → Nat → Nat → List Value → Prop} (h : LApp n m by_ xs ys X) : LApp n m by_ xs ys X := h
theorem mk_id {by_ : Nat} {l c : Int} {X Y : Nat → Prop} (h : LMk by_ l c X Y) : LMk by_ l c X Y := h
theorem mk_lit {by_ n : Nat} {l c : Int} {X Y : Nat → Prop} (hl : l = n) (hc : c = n) (hb : by_ * n ≤ 281474976710656) (hn : Nat.ble n 100000 = true) (nx : X n) : LMk by_ l c X Y := ⟨n, hl, hc, hb, by have := Nat.le_of_ble_eq_true hn; omega, .inl nx⟩
theorem mk_sym {by_ : Nat} (n : Nat) {l c : Int} {X Y : Nat → Prop} (hl : l = n) (hc : c = n) (hb : by_ * n ≤ 281474976710656) (hn : n ≤ 9223372036854775807) (nx : Y n) : LMk by_ l c X Y := ⟨n, hl, hc, hb, hn, .inr nx⟩
theorem sl_id {A : Option Addr} {c sz : Nat} {lo hi : Int} {X : SV → Prop} (h : LSl A c sz lo hi X) : LSl A c sz lo hi X := h
theorem eff_id {km : Mem} {o : Oper} {X : SV → Mem → Prop} (h : LEff P N w0 S km o fs mem X) : LEff P N w0 S km o fs mem X := h
theorem val_id {km : Mem} {sf : Bool} {o : Oper} {X : SV → Prop} (h : LVal P N w0 S km sf o fs mem X) : LVal P N w0 S km sf o fs mem X := h
theorem lcall_id {km : Mem} {X : SV → Mem → Prop} {F : FuncId} (h : LCall P w0 S km F args mem X) : LCall P w0 S km F args mem X := h
theorem lload_id {km : Mem} {t : TypeId} {p : Addr} {sf : Bool} {X : SV → Prop} (h : LLoad P w0 S km t p sf mem X) : LLoad P w0 S km t p sf mem X := h
theorem lixs_id {A : Option Addr} {n : Int} {len sz : Nat} {X : Nat → Nat → Prop} (h : LIxS A n len sz X) : LIxS A n len sz X := h
theorem RetS.same {w : World} {v : SV} (h : Calls P f (dens args).toArray w fun e w' => e = .returned v.den ∧ w = w') : RetS P f args w v :=
  ⟨Calls.mono h fun e w' ⟨h1, h2⟩ => ⟨h1, by subst h2; exact .init w⟩⟩
theorem RetS.below {w : World} {v : SV} (h : RetS P f args w v) : Calls P f (dens args).toArray w fun e w' => e = .returned v.den ∧ Below w.heap.size w w' := Calls.mono h.go fun e w' ⟨h1, h2⟩ => ⟨h1, h2.below⟩
variable {km : Mem} {X : SV → Mem → Prop} {F : FuncId}
theorem lcall_ret [hF : CF P F] {v : SV} (hr : ∀ w, Loc w0 S (denM mem) w → RetS P F args w v) (nx : X v mem) : LCall P w0 S km F args mem X :=
  ⟨hF, [], [], mem, fun sv mi => sv = v ∧ mi = [], fun w hl => Calls.mono (hr w hl).go fun e w' ⟨h1, h2⟩ => ⟨_, [], h1, ⟨v, [], rfl, rfl, rfl, rfl⟩, h2⟩, Split.all _, nomem, id, fun sv mi ⟨h1, h2⟩ => by subst h1; subst h2; exact nx⟩
/-- What a call makes is new. -/
theorem lcall_new [hF : CF P F] {R : SV → Mem → Prop} (hr : ∀ w, Loc w0 S (denM mem) w → RetX P F args w [] R) (nx : ∀ sv mi, R sv mi → X sv (mi ++ mem)) : LCall P w0 S km F args mem X :=
  ⟨hF, [], [], mem, R, fun w hl => (hr w hl).go, Split.all _, nomem, id, nx⟩
def splitT (tags : List Nat) : Mem → Mem × Mem
  | [] => ([], [])
  | i :: r => match tags.contains i.tag with
    | true => (i :: (splitT tags r).1, (splitT tags r).2)
    | false => ((splitT tags r).1, i :: (splitT tags r).2)
theorem splitT_split (tags : List Nat) : ∀ m : Mem, Split (denM m) (denM (splitT tags m).1) (denM (splitT tags m).2)
  | [] => .nil
  | i :: r => by
    simp only [splitT]
    split
    · exact .left (splitT_split tags r)
    · exact .right (splitT_split tags r)
/-- A call that writes items (tags) that are handed to it, and gives them, or others, back. -/
theorem lcall_mem [hF : CF P F] {R : SV → Mem → Prop} {M : List Nat} (tags : List Nat) (hr : ∀ w, Loc w0 S (denM mem) w → RetX P F args w M R) (hM : ∀ k ∈ M, ∃ i ∈ denM (splitT tags mem).1, k ∈ i.foot) (hkm : km = [])
    (nx : ∀ sv mi, R sv mi → X sv (mi ++ (splitT tags mem).2)) : LCall P w0 S km F args mem X :=
  ⟨hF, M, _, _, R, fun w hl => (hr w hl).go, splitT_split tags mem, hM, fun _ => by subst hkm; exact List.nil_sublist _, nx⟩

/-! what the reckoning leaves -/
theorem ar_in {k : IntKind} {e z : Int} {X : Int → Prop} (hz : e = z) (h : inR k z) (nx : X z) : LAr k e X := ⟨z, by rw [hz]; exact wrap_in h, nx⟩
theorem ar_wrap {k : IntKind} {e : Int} {X : Int → Prop} (nx : X (k.wrap e)) : LAr k e X := ⟨_, rfl, nx⟩
theorem quo_in {k : IntKind} {m n z : Int} {X : Int → Prop} (hp : 0 ≤ m ∧ 0 < n) (hz : m / n = z) (hr : inR k z) (nx : X z) : LQuo k m n X := ⟨by omega, z, by rw [Int.tdiv_eq_ediv_of_nonneg hp.1, hz]; exact wrap_in hr, nx⟩
theorem quo_t {k : IntKind} {m n : Int} {X : Int → Prop} (hp : n ≠ 0) (hr : inR k (m.tdiv n)) (nx : X (m.tdiv n)) : LQuo k m n X := ⟨hp, _, wrap_in hr, nx⟩
theorem rem_in {m n z : Int} {X : Int → Prop} (hp : 0 ≤ m ∧ 0 < n) (hz : m % n = z) (nx : X z) : LRem m n X := ⟨by omega, z, by rw [Int.tmod_eq_emod_of_nonneg hp.1, hz], nx⟩
theorem rem_t {m n : Int} {X : Int → Prop} (hp : n ≠ 0) (nx : X (m.tmod n)) : LRem m n X := ⟨hp, _, rfl, nx⟩
theorem ex_z {e z : Int} {X : Int → Prop} (hz : e = z) (nx : X z) : LEx e X := ⟨z, hz, nx⟩
theorem sh_z {n e z : Int} {X : Int → Prop} (hn : 0 ≤ n) (hz : e = z) (nx : X z) : LSh n e X := ⟨hn, z, hz, nx⟩
theorem br_t {p X Y : Prop} (hp : p) (nx : X) : LBr p X Y := ⟨fun _ => nx, fun h => absurd hp h⟩
theorem br_f {p X Y : Prop} (hp : ¬ p) (nx : Y) : LBr p X Y := ⟨fun h => absurd h hp, fun _ => nx⟩
theorem br_any {p X Y : Prop} (t : p → X) (f : ¬ p → Y) : LBr p X Y := ⟨t, f⟩
theorem side_i {p X : Prop} (hp : p) (nx : X) : LSide p X := ⟨hp, nx⟩
theorem new_i {X : Nat → Prop} (nx : ∀ b, X b) : LNew X := ⟨nx⟩
theorem ix_lit {n : Int} {len j : Nat} {X Y : Nat → Prop} (h : 0 ≤ n ∧ n < len) (hj : n.toNat = j) (hc : Nat.ble j 100000 = true) (nx : X j) : LIx n len X Y := ⟨j, h.1, h.2, hj, .inl nx⟩
theorem ix_sym {n : Int} {len : Nat} {X Y : Nat → Prop} (h : 0 ≤ n ∧ n < len) (nx : Y n.toNat) : LIx n len X Y := ⟨_, h.1, h.2, rfl, .inr nx⟩
theorem get_i {agg : Bool} {sz : Nat} {cs : List SV} {o : Nat} {X : SV → Prop} (v : SV) (h : rdv agg sz (dens cs) o = some v.den) (nx : X v) : LGet agg sz cs o X := ⟨v, h, nx⟩
theorem load_old {t : TypeId} {p : Addr} {sf : Bool} {sz : Nat} {X : SV → Prop} [TL P t false sz] (v : SV) (hp : w0.cell? p = some v.den) (hS : p.block ∉ S) (nx : X v) : LLoad P w0 S km t p sf mem X :=
  ⟨v, fun w hc _ => by have hw := hc.old hp hS; simp [loadVar, TL.isAgg (P := P) (t := t), hw], nx⟩
theorem app_i {n m by_ : Nat} {xs ys zs : List Value} {nm : Nat} {X : Option Addr → Nat → Nat → List Value → Prop} (h1 : n + m = nm) (h2 : xs ++ ys = zs) (h3 : nm * by_ ≤ 140737488355328) (h4 : 1 ≤ by_) (nx : ∀ A c, RF A nm c → X A c nm zs) : LApp n m by_ xs ys X := ⟨nm, zs, h1, h2, h3, h4, nx⟩
end
end Go.Proofs.YtihboegopigkmaaDoor
