/- A small logic of states: which slots of a frame are known, which blocks of memory the call has made its own and what they hold; all else is as it was when the call began. One walk for regions, whether their order is drawn or not. -/
import Derived.Test.YtihboegopigkmaaDoorReg
import Derived.Laws.AppendOwn
import Derived.Laws.AppendOwnNone
import Derived.Laws.CopyOwn
import Derived.WalkLawsBesides
import Derived.IntWalk
namespace Go.Proofs.YtihboegopigkmaaDoor
set_option linter.unusedSimpArgs false
set_option linter.unusedVariables false
set_option linter.unnecessarySimpa false
set_option linter.unusedSectionVars false
open Go.RowKit

theorem nomem {α : Type} {p : α → Prop} : ∀ i, i ∈ ([] : List α) → p i := fun _ h => nomatch h

/-! ### Items of memory -/
structure Itm where
  foot : List Nat
  holds : World → Prop
  loc : ∀ w w' : World, (∀ k ∈ foot, w'.heap[k]? = w.heap[k]?) → holds w → holds w'
  live : ∀ w : World, holds w → ∀ k ∈ foot, k < w.heap.size

/-- A block of cells, known whole. -/
def blk (t : TypeId) (b : Nat) (cs : List Value) : Itm where
  foot := [b]
  holds w := w.heap[b]? = some (.cells cs.toArray t (0, 0))
  loc w w' h hh := by rw [h b (List.mem_singleton.2 rfl)]; exact hh
  live w h k hk := by cases List.mem_singleton.1 hk; exact (Array.getElem?_eq_some_iff.1 h).1

/-- A slice of the call's own. -/
def own (e : TypeId) (sz : Nat) (v : Value) (n : Nat) (xs : List Value) : Itm where
  foot := v.ownBlock.toList
  holds w := w.ownsRow 0 e sz v n xs
  loc w w' h hh := by
    refine ⟨hh.1, ?_⟩
    rcases hh.2 with hn | ⟨g, cap, cur, rfl, hb, hg, rest⟩
    · exact .inl hn
    · refine .inr ⟨g, cap, cur, rfl, hb, ?_, rest⟩
      rw [h g (by simp [Value.ownBlock])]
      exact hg
  live w h k hk := by
    have hk' : v.ownBlock = some k := by simpa using hk
    exact (h.lt k hk').2

/-- The call began in w0; it may write the blocks S that were there; what it has made is listed. -/
structure Loc (w0 : World) (S : List Nat) (is : List Itm) (w : World) : Prop where
  os : w.os = w0.os
  tape : w.tape = w0.tape
  output : w.output = w0.output
  size : w0.heap.size ≤ w.heap.size
  same : ∀ k, k < w0.heap.size → k ∉ S → w.heap[k]? = w0.heap[k]?
  holds : ∀ i ∈ is, i.holds w
  owned : ∀ i ∈ is, ∀ k ∈ i.foot, k ∈ S ∨ w0.heap.size ≤ k
  disj : is.Pairwise fun i j => ∀ k ∈ i.foot, k ∉ j.foot

section
variable {w0 w w' : World} {S M : List Nat} {is its cons keep ks : List Itm} {i : Itm}

theorem Loc.init (w : World) : Loc w [] [] w := ⟨rfl, rfl, rfl, Nat.le_refl _, fun _ _ _ => rfl, nomem, nomem, .nil⟩

theorem Loc.below (h : Loc w0 [] is w) : Below w0.heap.size w0 w := ⟨h.os, h.tape, h.output, h.size, fun k hk => h.same k hk (by simp)⟩
theorem Loc.of_below (h : Below w0.heap.size w0 w) : Loc w0 [] [] w := ⟨h.os, h.tape, h.output, h.size, fun k hk _ => h.block k hk, nomem, nomem, .nil⟩

theorem Loc.drew (h : Loc w0 S is w) : Loc w0 S is w.drew :=
  ⟨h.os, h.tape, h.output, h.size, h.same, fun i hi => i.loc w w.drew (fun _ _ => rfl) (h.holds i hi), h.owned, h.disj⟩

theorem Loc.sub (h : Loc w0 S is w) (hs : ks.Sublist is) : Loc w0 S ks w :=
  ⟨h.os, h.tape, h.output, h.size, h.same, fun i hi => h.holds i (hs.subset hi), fun i hi => h.owned i (hs.subset hi), h.disj.sublist hs⟩

theorem Loc.alloc (h : Loc w0 S is w) (t : TypeId) (cs : List Value) : Loc w0 S (blk t w.heap.size cs :: is) (w.alloc (.cells cs.toArray t)) := by
  refine ⟨h.os, h.tape, h.output, ?_, ?_, ?_, ?_, ?_⟩
  · have := h.size; simp; omega
  · intro k hk hS
    rw [Below.heap_alloc _ _ k (Nat.lt_of_lt_of_le hk h.size)]
    exact h.same k hk hS
  · intro i hi
    rcases List.mem_cons.1 hi with rfl | hi
    · exact Go.heap_alloc_new w _
    · exact i.loc w _ (fun k hk => Below.heap_alloc _ _ k (i.live w (h.holds i hi) k hk)) (h.holds i hi)
  · intro i hi k hk
    rcases List.mem_cons.1 hi with rfl | hi
    · cases List.mem_singleton.1 hk; exact .inr h.size
    · exact h.owned i hi k hk
  · refine List.pairwise_cons.2 ⟨fun i hi k hk hk' => ?_, h.disj⟩
    cases List.mem_singleton.1 hk
    have := i.live w (h.holds i hi) _ hk'
    omega

/-- Some items are taken, the others stay. -/
inductive Split : List Itm → List Itm → List Itm → Prop
  | nil : Split [] [] []
  | left {i is c k} : Split is c k → Split (i :: is) (i :: c) k
  | right {i is c k} : Split is c k → Split (i :: is) c (i :: k)

theorem Split.all (is : List Itm) : Split is [] is := by
  induction is with
  | nil => exact .nil
  | cons i is ih => exact .right ih
theorem Split.sub (h : Split is cons keep) : keep.Sublist is := by
  induction h with
  | nil => exact .slnil
  | left _ ih => exact .cons _ ih
  | right _ ih => exact .cons_cons _ ih
theorem Split.mem (h : Split is cons keep) : ∀ i ∈ cons, i ∈ is := by
  induction h with
  | nil => exact fun _ h => h
  | left _ ih => intro j hj; rcases List.mem_cons.1 hj with rfl | hj; exact .head _; exact .tail _ (ih _ hj)
  | right _ ih => exact fun j hj => .tail _ (ih _ hj)
theorem Split.mem' (h : Split is cons keep) : ∀ i ∈ is, i ∈ cons ∨ i ∈ keep := by
  induction h with
  | nil => exact fun _ h => .inl h
  | left _ ih => intro j hj; rcases List.mem_cons.1 hj with rfl | hj; exact .inl (.head _); exact (ih _ hj).imp (.tail _) id
  | right _ ih => intro j hj; rcases List.mem_cons.1 hj with rfl | hj; exact .inr (.head _); exact (ih _ hj).imp id (.tail _)
theorem Split.apart (h : Split is cons keep) (hd : is.Pairwise fun i j => ∀ k ∈ i.foot, k ∉ j.foot) : ∀ i ∈ cons, ∀ j ∈ keep, ∀ k ∈ i.foot, k ∉ j.foot := by
  induction h with
  | nil => intro i hi; cases hi
  | left h ih =>
    intro i hi j hj k hk hk'
    rw [List.pairwise_cons] at hd
    rcases List.mem_cons.1 hi with rfl | hi
    · exact hd.1 j (h.sub.subset hj) k hk hk'
    · exact ih hd.2 i hi j hj k hk hk'
  | right h ih =>
    intro i hi j hj k hk hk'
    rw [List.pairwise_cons] at hd
    rcases List.mem_cons.1 hj with rfl | hj
    · exact hd.1 i (h.mem i hi) k hk' hk
    · exact ih hd.2 i hi j hj k hk hk'

/-- Behind a call (which may write the blocks M, all of items that are handed over). -/
theorem Loc.call (h : Loc w0 S is w) (hs : Split is cons keep) (hM : ∀ k ∈ M, ∃ i ∈ cons, k ∈ i.foot) (hc : Loc w M its w') : Loc w0 S (its ++ keep) w' := by
  have hMS : ∀ k ∈ M, k ∈ S ∨ w0.heap.size ≤ k := fun k hk => by
    obtain ⟨i, hi, hki⟩ := hM k hk
    exact h.owned i (hs.mem i hi) k hki
  have hkM : ∀ j ∈ keep, ∀ k ∈ j.foot, k ∉ M := fun j hj k hk hkM => by
    obtain ⟨i, hi, hki⟩ := hM k hkM
    exact hs.apart h.disj i hi j hj k hki hk
  refine ⟨hc.os.trans h.os, hc.tape.trans h.tape, hc.output.trans h.output, Nat.le_trans h.size hc.size, ?_, ?_, ?_, ?_⟩
  · intro k hk hS
    rw [hc.same k (Nat.lt_of_lt_of_le hk h.size) (fun hkM => by rcases hMS k hkM with h1 | h1; exact hS h1; exact by omega)]
    exact h.same k hk hS
  · intro i hi
    rcases List.mem_append.1 hi with hi | hi
    · exact hc.holds i hi
    · have hw := h.holds i (hs.sub.subset hi)
      exact i.loc w w' (fun k hk => hc.same k (i.live w hw k hk) (hkM i hi k hk)) hw
  · intro i hi k hk
    rcases List.mem_append.1 hi with hi | hi
    · rcases hc.owned i hi k hk with h1 | h1
      · exact hMS k h1
      · exact .inr (Nat.le_trans h.size h1)
    · exact h.owned i (hs.sub.subset hi) k hk
  · refine List.pairwise_append.2 ⟨hc.disj, h.disj.sublist hs.sub, fun i hi j hj k hk hk' => ?_⟩
    rcases hc.owned i hi k hk with h1 | h1
    · exact hkM j hj k hk' h1
    · have hw := h.holds j (hs.sub.subset hj)
      have := j.live w hw k hk'
      omega

theorem Loc.call0 (h : Loc w0 S is w) (hc : Loc w [] its w') : Loc w0 S (its ++ is) w' := h.call (Split.all is) (nomem) hc

/-- An item in its place is another one now; the blocks of the others are as they were. -/
theorem Loc.upd (h : Loc w0 S is w) (hs : Split is [i] keep) (ho : w'.os = w.os) (ht : w'.tape = w.tape) (hout : w'.output = w.output) (hsz : w.heap.size ≤ w'.heap.size)
    (hsame : ∀ k, k < w.heap.size → k ∉ i.foot → w'.heap[k]? = w.heap[k]?) (i' : Itm) (hi' : i'.holds w') (hf : ∀ k ∈ i'.foot, k ∈ i.foot ∨ w.heap.size ≤ k) : Loc w0 S (i' :: keep) w' :=
  h.call (M := i.foot) (its := [i']) hs (fun k hk => ⟨i, .head _, hk⟩) ⟨ho, ht, hout, hsz, fun k hk hS => hsame k hk hS, fun j hj => by cases List.mem_singleton.1 hj; exact hi', fun j hj => by cases List.mem_singleton.1 hj; exact hf, List.pairwise_singleton _ _⟩

theorem Loc.set (h : Loc w0 S is w) {n : Nat} {i : Itm} (hn : is[n]? = some i) (ho : w'.os = w.os) (ht : w'.tape = w.tape) (hout : w'.output = w.output) (hsz : w.heap.size ≤ w'.heap.size)
    (hsame : ∀ k, k < w.heap.size → k ∉ i.foot → w'.heap[k]? = w.heap[k]?) (i' : Itm) (hi' : i'.holds w') (hf : ∀ k ∈ i'.foot, k ∈ i.foot ∨ w.heap.size ≤ k) : Loc w0 S (is.set n i') w' := by
  have hlt : n < is.length := (List.getElem?_eq_some_iff.1 hn).1
  have hmem : i ∈ is := List.mem_of_getElem? hn
  have hap : ∀ (m : Nat) j, is[m]? = some j → m ≠ n → ∀ k ∈ j.foot, k ∉ i.foot := fun m j hj hmn k hk hk' => by
    have hp := List.pairwise_iff_getElem.1 h.disj
    obtain ⟨hml, rfl⟩ := List.getElem?_eq_some_iff.1 hj
    obtain ⟨_, rfl⟩ := List.getElem?_eq_some_iff.1 hn
    rcases Nat.lt_or_gt_of_ne hmn with h1 | h1
    · exact hp m n hml hlt h1 k hk hk'
    · exact hp n m hlt hml h1 k hk' hk
  have hold : ∀ (m : Nat) j, is[m]? = some j → m ≠ n → j.holds w' ∧ ∀ k ∈ j.foot, k < w.heap.size := fun m j hj hmn => by
    have hw := h.holds j (List.mem_of_getElem? hj)
    exact ⟨j.loc w w' (fun k hk => hsame k (j.live w hw k hk) (hap m j hj hmn k hk)) hw, j.live w hw⟩
  have hget : ∀ (m : Nat) j, (is.set n i')[m]? = some j → (m = n ∧ j = i') ∨ (m ≠ n ∧ is[m]? = some j) := fun m j hj => by
    rw [List.getElem?_set] at hj
    by_cases hnm : n = m
    · subst hnm; simp [hlt] at hj; exact .inl ⟨rfl, hj.symm⟩
    · rw [if_neg hnm] at hj; exact .inr ⟨fun e => hnm e.symm, hj⟩
  refine ⟨ho.trans h.os, ht.trans h.tape, hout.trans h.output, Nat.le_trans h.size hsz, ?_, ?_, ?_, ?_⟩
  · intro k hk hS
    rw [hsame k (Nat.lt_of_lt_of_le hk h.size) (fun hki => by rcases h.owned i hmem k hki with h1 | h1; exact hS h1; exact by omega)]
    exact h.same k hk hS
  · intro j hj
    obtain ⟨m, hm⟩ := List.mem_iff_getElem?.1 hj
    rcases hget m j hm with ⟨_, rfl⟩ | ⟨h1, h2⟩
    · exact hi'
    · exact (hold m j h2 h1).1
  · intro j hj k hk
    obtain ⟨m, hm⟩ := List.mem_iff_getElem?.1 hj
    rcases hget m j hm with ⟨_, rfl⟩ | ⟨h1, h2⟩
    · rcases hf k hk with h3 | h3
      · exact h.owned i hmem k h3
      · exact .inr (Nat.le_trans h.size h3)
    · exact h.owned j (List.mem_of_getElem? h2) k hk
  · have key : ∀ (m m' : Nat) j j', (is.set n i')[m]? = some j → (is.set n i')[m']? = some j' → m < m' → ∀ k ∈ j.foot, k ∉ j'.foot := fun m m' j j' hj hj' hmm k hk hk' => by
      rcases hget m j hj with ⟨e1, e2⟩ | ⟨h1, h2⟩ <;> rcases hget m' j' hj' with ⟨e3, e4⟩ | ⟨h3, h4⟩
      · omega
      · rw [e2] at hk
        rcases hf k hk with h5 | h5
        · exact hap m' j' h4 h3 k hk' h5
        · have := (hold m' j' h4 h3).2 k hk'; omega
      · rw [e4] at hk'
        rcases hf k hk' with h5 | h5
        · exact hap m j h2 h1 k hk h5
        · have := (hold m j h2 h1).2 k hk; omega
      · have hp := List.pairwise_iff_getElem.1 h.disj
        obtain ⟨hml, rfl⟩ := List.getElem?_eq_some_iff.1 h2
        obtain ⟨hml', rfl⟩ := List.getElem?_eq_some_iff.1 h4
        exact hp m m' hml hml' hmm k hk hk'
    rw [List.pairwise_iff_getElem]
    intro m m' hm hm' hmm k hk
    exact key m m' _ _ (List.getElem?_eq_getElem hm) (List.getElem?_eq_getElem hm') hmm k hk

/-- An item without a footprint can be laid beside. -/
theorem Loc.free (h : Loc w0 S is w) (i : Itm) (hf : i.foot = []) (hi : i.holds w) : Loc w0 S (i :: is) w := by
  refine ⟨h.os, h.tape, h.output, h.size, h.same, fun j hj => ?_, fun j hj k hk => ?_, List.pairwise_cons.2 ⟨fun j _ k hk => ?_, h.disj⟩⟩
  · rcases List.mem_cons.1 hj with rfl | hj
    · exact hi
    · exact h.holds j hj
  · rcases List.mem_cons.1 hj with rfl | hj
    · rw [hf] at hk; cases hk
    · exact h.owned j hj k hk
  · rw [hf] at hk; cases hk

theorem Loc.old (h : Loc w0 S is w) {p : Addr} {v : Value} (hv : w0.cell? p = some v) (hS : p.block ∉ S) : w.cell? p = some v :=
  (World.cell?_of_block (h.same p.block (World.block_lt_of_cell? w0 p hv) hS)).trans hv

theorem holds_blk {t : TypeId} {b : Nat} {cs : List Value} (h : (blk t b cs).holds w) : w.heap[b]? = some (.cells cs.toArray t (0, 0)) := h
end

/-! ### What is known of a frame -/
def fget : List (Nat × Value) → Nat → Option Value
  | [], _ => none
  | (k, v) :: r, t => bif Nat.beq k t then some v else fget r t

/-- A frame's make: how many slots, the marks (tag, block) of the loops over functions so far, the round in which it is. -/
structure FN where
  n : Nat
  ms : List (Nat × Nat)
  r : Option Nat
def FN.ds (N : FN) : List Deferred := N.ms.map fun p => { target := .collected p.2, args := #[] }
structure Kn (N : FN) (fs : List (Nat × Value)) (a : Act) : Prop where
  defers : a.defers = N.ds
  size : a.tmps.size = N.n
  get : ∀ t v, fget fs t = some v → a.tmps.getD t undef = v

def pushd (d : Option Tmp) (v : Value) (fs : List (Nat × Value)) : List (Nat × Value) :=
  match d with
  | some d => (d, v) :: fs
  | none => fs

def dOK (N : FN) : Option Tmp → Bool
  | some d => Nat.blt d N.n
  | none => true

section
variable {N : FN} {fs fs' : List (Nat × Value)} {a : Act}

theorem Kn.put (h : Kn N fs a) {d : Option Tmp} (hd : dOK N d = true) (v : Value) : Kn N (pushd d v fs) (a.put d v) := by
  cases d with
  | none => exact h
  | some d =>
    have hdN : d < N.n := Nat.blt_eq.mp hd
    refine ⟨h.defers, by simp [Act.put, h.size], fun t u hu => ?_⟩
    simp only [pushd, fget] at hu
    by_cases hdt : d = t
    · subst hdt
      rw [show Nat.beq d d = true by simp] at hu
      simp at hu
      simp [Act.put, h.size, hdN, hu]
    · have : Nat.beq d t = false := by rw [← Bool.not_eq_true, Nat.beq_eq]; exact hdt
      rw [this] at hu
      have h1 := h.get t u hu
      simp [Act.put, Array.getElem?_setIfInBounds, hdt] at h1 ⊢
      exact h1

theorem Kn.putU (h : Kn N fs a) {d : Option Tmp} (hd : dOK N d = true) : Kn N (pushd d undef fs) (a.put d undef) := h.put hd undef

theorem Kn.mono (h : Kn N fs a) (hs : ∀ t v, fget fs' t = some v → fget fs t = some v) : Kn N fs' a := ⟨h.defers, h.size, fun t v hv => h.get t v (hs t v hv)⟩

def opv (fs : List (Nat × Value)) : Operand → Option Value
  | .tmp t => fget fs t
  | .const v => some v
  | .global g => some (.pointer (some ⟨g, 0, none⟩))
  | .func f => some (.func (.func f) #[] #[])

theorem Kn.eval (h : Kn N fs a) {x : Operand} {v : Value} (hx : opv fs x = some v) : a.eval x = v := by
  cases x with
  | tmp t => exact h.get t v hx
  | const c => exact Option.some.inj hx
  | global g => exact Option.some.inj hx
  | func f => exact Option.some.inj hx

/-- Several operands at once. -/
def opvs (fs : List (Nat × Value)) : List Operand → Option (List Value)
  | [] => some []
  | x :: xs => match opv fs x, opvs fs xs with
    | some v, some vs => some (v :: vs)
    | _, _ => none
theorem Kn.evals (h : Kn N fs a) {xs : List Operand} {vs : List Value} (hx : opvs fs xs = some vs) : xs.map a.eval = vs := by
  induction xs generalizing vs with
  | nil => simpa [opvs] using hx
  | cons x xs ih =>
    simp only [opvs] at hx
    cases h1 : opv fs x with
    | none => simp [h1] at hx
    | some v =>
      cases h2 : opvs fs xs with
      | none => simp [h1, h2] at hx
      | some vs' =>
        simp [h1, h2] at hx
        subst hx
        simp [h.eval h1, ih h2]
end

/-! ### Regions: one walk in the order of the text -/
section
variable {P : Program}

/-- Which operations of a drawn region are soft. -/
def softOp : Op → Bool
  | .move _ | .assign _ | .pick .. | .load .. | .nilCheck _ | .binOp .. | .unOp .. | .convert .. | .makeFunc .. | .slice .. | .fieldAddr .. | .field .. | .indexAddr .. | .index .. | .extract .. | .build .. | .makeInterface .. => true
  | .call { callee := .builtin b, .. } => match b with | .len | .cap | .max | .min => true | _ => false
  | _ => false
/-- .. but for those whose slots are listed. -/
def sfOf (hard : List Nat) (o : Oper) : Bool := softOp o.op && !(match o.dst with | some d => hard.any (Nat.beq d) | none => false)
def maskGo (sf : Oper → Bool) : List Oper → Nat → Nat
  | [], _ => 0
  | o :: l, k => (if sf o then 2 ^ k else 0) ||| maskGo sf l (k + 1)
theorem maskGo_test (sf : Oper → Bool) : ∀ (l : List Oper) (k j : Nat), (maskGo sf l k).testBit j = (decide (k ≤ j) && ((l[j - k]?).map sf).getD false)
  | [], k, j => by simp [maskGo]
  | o :: l, k, j => by
    rw [maskGo, Nat.testBit_or, maskGo_test sf l (k + 1) j]
    have h1 : (if sf o then 2 ^ k else 0).testBit j = (sf o && decide (k = j)) := by
      by_cases h : sf o = true
      · rw [if_pos h, Nat.testBit_two_pow, h]; simp
      · rw [if_neg h]; simp at h; simp [h]
    rw [h1]
    by_cases hkj : k = j
    · subst hkj; simp; omega
    · by_cases hlt : k < j
      · obtain ⟨m, hm⟩ : ∃ m, j - k = m + 1 := ⟨j - k - 1, by omega⟩
        rw [hm, show j - (k + 1) = m by omega]
        simp [hkj, show k + 1 ≤ j by omega, show k ≤ j by omega]
      · simp [hkj, show ¬ k + 1 ≤ j by omega, show ¬ k ≤ j by omega]

def wantT (T : List (Option Tmp)) (a : Act) (o : Oper) : Bool :=
  match o.guard with
  | none => true
  | some (g, want) => match T.getD g none with
    | some d => isB (a.tmps.getD d undef) want
    | none => false
theorem wantT_eq (ops : Array Oper) (a : Act) (o : Oper) : Region.wanted o (yielded ops a.tmps) = wantT (ops.toList.map (·.dst)) a o := by
  have h := want_eq (ops := ops) o a.tmps.toList a.defers
  simp only [Array.toArray_toList] at h
  rw [h]
  unfold wantL wantT
  cases o.guard with
  | none => rfl
  | some gw =>
    obtain ⟨g, want⟩ := gw
    simp only
    cases (ops.toList.map (·.dst)).getD g none with
    | none => rfl
    | some d =>
      simp only
      rw [← lget_eq]
      simp
end
end Go.Proofs.YtihboegopigkmaaDoor
