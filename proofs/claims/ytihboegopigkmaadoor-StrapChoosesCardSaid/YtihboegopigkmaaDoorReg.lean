/- A statement whose order is left open, walked once in the order of the text: its operations that read (or reckon) yield the same in every world of a class; of the others (calls, stores, new blocks) any two stand in the order that the edges give, and each leaves a world of the class. -/
import Derived.Still
import Derived.Deep.Draws
import Derived.WalkKit
import Derived.RangeFuncRecord
import Derived.RangeFuncLeaves
import Derived.TacticsIn
import Derived.OrdersIn
import Derived.LoopNIn
namespace Go.Proofs.YtihboegopigkmaaDoor
set_option linter.unusedSimpArgs false
set_option linter.unusedVariables false

section
variable {P : Program} {ops : Array Oper} {C : World → Prop} {mask : Nat}

def softUpon (w : World) (v : Value) : Result Next → Prop
  | .ok (.value u) w' => w' = w ∧ u = v
  | .ok .skip w' => w' = w ∧ v = undef
  | _ => False

def SoftAt (P : Program) (o : Oper) (a : Act) (w : World) (v : Value) : Prop := softUpon w v ((execOp a.eval o).run P w)

theorem SoftAt.det {o : Oper} {a : Act} {w : World} {v v' : Value} (h : SoftAt P o a w v) (h' : SoftAt P o a w v') : v = v' := by
  unfold SoftAt at *
  generalize (execOp a.eval o).run P w = r at *
  cases r with
  | ok n w' => cases n <;> simp only [softUpon] at h h' <;> (first | exact h.2.symm.trans h'.2 | exact h.2.trans h'.2.symm)
  | halt x w' => exact h.elim

/-- What comes of an operation's result: a call's return, a round's return; no other way out. -/
def uponN (P : Program) (o : Oper) (a : Act) (next : Act → World → Prop) : Result Next → Prop
  | .ok (.value v) w' => next (a.put o.dst v) w'
  | .ok .skip w' => next (a.put o.dst undef) w'
  | .ok (.enter f args) w' => Calls P f args w' fun e w'' => match e with
      | .returned v => next (a.put o.dst v) w''
      | _ => False
  | .ok (.row row args) w' => Rows P row args w' fun v w'' => next (a.put o.dst v) w''
  | .ok (.round l f tmps assign body) w' => RoundIn Fence.wide 0 P l f tmps assign body w' fun e w'' => match e with
      | .returned v => next (a.put o.dst v) w''
      | _ => False
  | _ => False
def wpN (P : Program) (o : Oper) (a : Act) (w : World) (next : Act → World → Prop) : Prop := uponN P o a next ((execOp a.eval o).run P w)

theorem SoftAt.wp {o : Oper} {a : Act} {w : World} {v : Value} (h : SoftAt P o a w v) {K : Act → World → Prop} (hk : K (a.put o.dst v) w) : wpN P o a w K := by
  unfold SoftAt at h
  unfold wpN
  generalize (execOp a.eval o).run P w = r at *
  cases r with
  | ok n w' =>
    cases n <;> simp only [softUpon] at h <;> simp only [uponN]
    · rw [h.1, h.2]; exact hk
    · rw [h.1, ← h.2]; exact hk
  | halt x w' => exact h.elim

/-- The fences: a function's frame, or a round's. -/
def FW : Option Nat → Fence
  | none => Fence.wide
  | some l => Fence.wide.inRound l
theorem FW_fn (r : Option Nat) (f : FuncId) : (FW r).fn f := by cases r <;> exact trivial
theorem FW_round (r : Option Nat) : (FW r).round = r := by cases r <;> rfl
theorem FW_depth (r : Option Nat) : (FW r).depth = none := by cases r <;> rfl
theorem calls_fw {r : Option Nat} {n : Nat} {f : FuncId} {args : Array Value} {w : World} {R : Ending → World → Prop} (h : Calls P f args w R) : CallsIn (FW r) n P f args w R := by
  cases r with
  | none => exact callsIn_wide.2 h
  | some l => exact (callsIn_wide (n := n)).2 h
theorem rows_fw {r : Option Nat} {n : Nat} {row : String} {args : Array Value} {w : World} {R : Value → World → Prop} (h : Rows P row args w R) : RowsIn (FW r) n P row args w R := by
  have key : ∀ {R : Value → World → Prop}, Rows P row args w R → RowsIn Fence.wide n P row args w R := fun h c cs _ => by
    obtain ⟨v, w', hr, hs⟩ := h c cs
    exact ⟨v, w', hr, stepsIn_wide.2 hs⟩
  cases r with
  | none => exact key h
  | some l => exact key h
theorem round_fw {r : Option Nat} {n l : Nat} {f : FuncId} {tmps : Array Value} {assign body : Code} {w : World} {R : Ending → World → Prop} (h : RoundIn Fence.wide 0 P l f tmps assign body w R) : RoundIn (FW r) n P l f tmps assign body w R := by
  have key : RoundIn Fence.wide n P l f tmps assign body w R := ⟨trivial, fun c cs _ => h.2 c cs (fun d hd => by cases hd)⟩
  cases r with
  | none => exact key
  | some l => exact key
theorem uponN_defer {o : Oper} {a : Act} {w : World} {K : Act → World → Prop} {c : Call} (ho : o.op = .defer c) (h : wpN P o a w K) : False := by
  unfold wpN at h
  simp only [execOp, ho, Sem.run_bind] at h
  generalize (resolve a.eval c o.type).run P w = r at h
  cases r with
  | ok d w' => simp [Result.andThen, uponN] at h
  | halt x w' => simp [Result.andThen, uponN] at h
theorem wpN_in {r : Option Nat} {o : Oper} {a : Act} {w : World} {K K' : Act → World → Prop} {Q : Exit → Act → World → Prop} (hk : ∀ a w, K a w → K' a w) (h : wpN P o a w K) : o.wpIn (FW r) 0 P a w K' Q := by
  refine ⟨fun f _ => FW_fn r f, ?_⟩
  rw [Oper.semAt_eq _ _ _ (fun c hc => uponN_defer hc h)]
  unfold wpN at h
  generalize (execOp a.eval o).run P w = x at h
  cases x with
  | ok n w' =>
    cases n <;> simp only [uponN] at h <;> simp only [Oper.uponIn]
    case value u => exact hk _ _ h
    case skip => exact hk _ _ h
    case enter f args => exact ⟨fun hd => by rw [FW_depth] at hd; (cases hd), calls_fw (Calls.mono h fun e w'' he => by cases e <;> first | exact hk _ _ he | exact he.elim)⟩
    case row row args => exact ⟨fun hd => by rw [FW_depth] at hd; (cases hd), rows_fw (Rows.mono h fun v w'' he => hk _ _ he)⟩
    case round l f tmps assign body => exact ⟨fun hd => by rw [FW_depth] at hd; (cases hd), round_fw (RoundIn.mono h fun e w'' he => by cases e <;> first | exact hk _ _ he | exact he.elim)⟩
  | halt x w' => exact h.elim

/-- Operation number i comes up. -/
def mOp (P : Program) (ops : Array Oper) (mask : Nat) (C : World → Prop) (i : Nat) (K : Act → World → Prop) (a : Act) (w : World) : Prop :=
  match ops[i]? with
  | none => K a w
  | some o =>
    if Region.wanted o (yielded ops a.tmps) = true then
      (if mask.testBit i = true then ∃ v, (∀ w', C w' → SoftAt P o a w' v) ∧ K (a.put o.dst v) w else wpN P o a w (fun a' w' => C w' ∧ K a' w'))
    else K (a.put o.dst undef) w

theorem wp_mono2 {o : Oper} {a : Act} {w : World} {K K' : Act → World → Prop} (h : ∀ a w, K a w → K' a w)
    (hh : wpN P o a w K) : wpN P o a w K' := by
  unfold wpN at *
  generalize (execOp a.eval o).run P w = r at *
  cases r with
  | ok n w' =>
    cases n <;> simp only [uponN] at hh ⊢ <;>
      first
        | exact h _ _ hh
        | exact Calls.mono hh (fun e w'' he => by cases e <;> first | exact h _ _ he | exact he.elim)
        | exact Rows.mono hh (fun _ _ he => h _ _ he)
        | exact RoundIn.mono hh (fun e w'' he => by cases e <;> first | exact h _ _ he | exact he.elim)
  | halt x w' => exact hh.elim

theorem mOp_mono {i : Nat} {a : Act} {w : World} {K K' : Act → World → Prop} (h : ∀ a w, C w → K a w → K' a w) (hw : C w) (hh : mOp P ops mask C i K a w) : mOp P ops mask C i K' a w := by
  unfold mOp at *
  cases ho : ops[i]? with
  | none => simp only [ho] at hh ⊢; exact h _ _ hw hh
  | some o =>
    simp only [ho] at hh ⊢
    by_cases hwt : Region.wanted o (yielded ops a.tmps) = true
    · rw [if_pos hwt] at hh ⊢
      by_cases hm : mask.testBit i = true
      · rw [if_pos hm] at hh ⊢
        obtain ⟨v, h1, h2⟩ := hh
        exact ⟨v, h1, h _ _ hw h2⟩
      · rw [if_neg hm] at hh ⊢
        exact wp_mono2 (fun a w ⟨c, k⟩ => ⟨c, h a w c k⟩) hh
    · rw [if_neg hwt] at hh ⊢
      exact h _ _ hw hh

/-- Whatever order is picked from here on. -/
def mAny (P : Program) (ops : Array Oper) (mask : Nat) (C : World → Prop) (Q : Act → World → Prop) : Nat → Array Bool → Act → World → Prop
  | 0, listed, a, w => Region.ready .any ops listed = [] ∧ Q a w
  | fuel + 1, listed, a, w =>
    (Region.ready .any ops listed = [] → Q a w) ∧
    ∀ i ∈ Region.ready .any ops listed, mOp P ops mask C i (mAny P ops mask C Q fuel (listed.setIfInBounds i true)) a w

theorem wpAny_of_mAny {r : Option Nat} {Q : Exit → Act → World → Prop} : ∀ (fuel : Nat) (listed : Array Bool) (a : Act) (w : World), C w →
    mAny P ops mask C (Q .normal) fuel listed a w → wpAnyIn (FW r) 0 P .any ops Q fuel listed a w
  | 0, _, _, _, _, h => h
  | fuel + 1, listed, a, w, hw, h => ⟨h.1, fun i hi => by
      have := h.2 i hi
      unfold mOp at this
      unfold wpOpIn
      cases ho : ops[i]? with
      | none => simp only [ho] at this ⊢; exact wpAny_of_mAny fuel _ _ _ hw this
      | some o =>
        simp only [ho] at this ⊢
        by_cases hwt : Region.wanted o (yielded ops a.tmps) = true
        · rw [if_pos hwt] at this
          rw [if_pos hwt]
          by_cases hm : mask.testBit i = true
          · rw [if_pos hm] at this
            obtain ⟨v, h1, h2⟩ := this
            exact wpN_in (fun _ _ k => k) ((h1 w hw).wp (wpAny_of_mAny fuel _ _ _ hw h2))
          · rw [if_neg hm] at this
            exact wpN_in (fun a w ⟨c, k⟩ => wpAny_of_mAny fuel _ _ _ c k) this
        · rw [if_neg hwt] at this
          rw [if_neg hwt]
          exact ⟨fun f _ => FW_fn r f, wpAny_of_mAny fuel _ _ _ hw this⟩⟩

/-- In state a, in every world of the class, operation o leaves v and the world. -/
def Yld (P : Program) (ops : Array Oper) (C : World → Prop) (o : Oper) (v : Value) (a : Act) : Prop :=
  (Region.wanted o (yielded ops a.tmps) = true ∧ ∀ w, C w → SoftAt P o a w v) ∨ (Region.wanted o (yielded ops a.tmps) = false ∧ v = undef)

theorem Yld.of_same {o : Oper} {v : Value} {a a' : Act} (hy : Yld P ops C o v a) (he : execOp a'.eval o = execOp a.eval o)
    (hw : Region.wanted o (yielded ops a'.tmps) = Region.wanted o (yielded ops a.tmps)) : Yld P ops C o v a' := by
  unfold Yld SoftAt at *
  rw [he, hw]
  exact hy

theorem Yld.det {o : Oper} {v v' : Value} {a : Act} {w : World} (hw : C w) (h : Yld P ops C o v a) (h' : Yld P ops C o v' a) : v = v' := by
  rcases h with ⟨h1, h2⟩ | ⟨h1, rfl⟩ <;> rcases h' with ⟨h3, h4⟩ | ⟨h3, h4⟩
  · exact (h2 w hw).det (h4 w hw)
  · rw [h1] at h3; cases h3
  · rw [h1] at h3; cases h3
  · exact h4.symm

theorem Yld.mOp {i : Nat} {o : Oper} {v : Value} {a : Act} {w : World} (hi : ops[i]? = some o) (hm : mask.testBit i = true ∨ Region.wanted o (yielded ops a.tmps) = false) (hy : Yld P ops C o v a) {K : Act → World → Prop} (h : K (a.put o.dst v) w) : mOp P ops mask C i K a w := by
  unfold Proofs.YtihboegopigkmaaDoor.mOp
  simp only [hi]
  rcases hy with ⟨hw, hv⟩ | ⟨hw, rfl⟩
  · rw [if_pos hw]
    rcases hm with hm | hm
    · rw [if_pos hm]; exact ⟨v, hv, h⟩
    · rw [hw] at hm; cases hm
  · rw [if_neg (by rw [hw]; exact Bool.false_ne_true)]; exact h

theorem yld_of_mOp {i : Nat} {o : Oper} {a : Act} {w : World} {K : Act → World → Prop} (hi : ops[i]? = some o) (hm : mask.testBit i = true ∨ Region.wanted o (yielded ops a.tmps) = false) (h : mOp P ops mask C i K a w) : ∃ v, Yld P ops C o v a ∧ K (a.put o.dst v) w := by
  unfold Proofs.YtihboegopigkmaaDoor.mOp at h
  simp only [hi] at h
  by_cases hw : Region.wanted o (yielded ops a.tmps) = true
  · rw [if_pos hw] at h
    rcases hm with hm | hm
    · rw [if_pos hm] at h
      obtain ⟨v, h1, h2⟩ := h
      exact ⟨v, .inl ⟨hw, h1⟩, h2⟩
    · rw [hw] at hm; cases hm
  · rw [if_neg hw] at h
    exact ⟨undef, .inr ⟨by simpa using hw, rfl⟩, h⟩

/-- What an operation does is done the same where another one's value already lies in its temporary. -/
theorem upon_put {o : Oper} {a : Act} {x : Option Tmp} {v : Value} {r : Result Next} {K K' : Act → World → Prop} (hx : ∀ d, x = some d → o.dst ≠ some d)
    (hk : ∀ a' w', (∃ u ds, a' = ({ a with defers := ds } : Act).put o.dst u) → K (a'.put x v) w' → K' a' w') (h : uponN P o (a.put x v) K r) : uponN P o a K' r := by
  have pc : ∀ u, (a.put x v).put o.dst u = (a.put o.dst u).put x v := fun u => Act.put_comm a v u hx
  cases r with
  | ok n w' =>
    cases n <;> simp only [uponN] at h ⊢
    case value u => exact hk _ _ ⟨u, a.defers, rfl⟩ (by rw [← pc]; exact h)
    case skip => exact hk _ _ ⟨undef, a.defers, rfl⟩ (by rw [← pc]; exact h)
    case enter f args => exact Calls.mono h (fun e w'' he => by
      cases e with
      | returned u => exact hk _ _ ⟨u, a.defers, rfl⟩ (by rw [← pc]; exact he)
      | panicked c => exact he
      | outgrown => exact he)
    case row row args => exact Rows.mono h (fun u w'' he => hk _ _ ⟨u, a.defers, rfl⟩ (by rw [← pc]; exact he))
    case round l f tmps assign body => exact RoundIn.mono h (fun e w'' he => by
      cases e with
      | returned u => exact hk _ _ ⟨u, a.defers, rfl⟩ (by rw [← pc]; exact he)
      | panicked c => exact he
      | outgrown => exact he)
  | halt x w' => exact h.elim

/-- .. and the other way round. -/
theorem upon_put' {o : Oper} {a : Act} {x : Option Tmp} {v : Value} {r : Result Next} {K K' : Act → World → Prop} (hx : ∀ d, x = some d → o.dst ≠ some d)
    (hk : ∀ a' w', (∃ u ds, a' = ({ a with defers := ds } : Act).put o.dst u) → K a' w' → K' (a'.put x v) w') (h : uponN P o a K r) : uponN P o (a.put x v) K' r := by
  have pc : ∀ u, (a.put x v).put o.dst u = (a.put o.dst u).put x v := fun u => Act.put_comm a v u hx
  cases r with
  | ok n w' =>
    cases n <;> simp only [uponN] at h ⊢
    case value u => rw [pc]; exact hk _ _ ⟨u, a.defers, rfl⟩ h
    case skip => rw [pc]; exact hk _ _ ⟨undef, a.defers, rfl⟩ h
    case enter f args => exact Calls.mono h (fun e w'' he => by
      cases e with
      | returned u => show K' ((a.put x v).put o.dst u) w''; rw [pc]; exact hk _ _ ⟨u, a.defers, rfl⟩ he
      | panicked c => exact he
      | outgrown => exact he)
    case row row args => exact Rows.mono h (fun u w'' he => by rw [pc]; exact hk _ _ ⟨u, a.defers, rfl⟩ he)
    case round l f tmps assign body => exact RoundIn.mono h (fun e w'' he => by
      cases e with
      | returned u => show K' ((a.put x v).put o.dst u) w''; rw [pc]; exact hk _ _ ⟨u, a.defers, rfl⟩ he
      | panicked c => exact he
      | outgrown => exact he)
  | halt x w' => exact h.elim

theorem exec_defers {o : Oper} (a : Act) (ds : List Deferred) : execOp ({ a with defers := ds } : Act).eval o = execOp a.eval o := rfl

theorem calls_some {f : FuncId} {args : Array Value} {w : World} {R : Ending → World → Prop} (h : Calls P f args w R) : ∃ e w', R e w' := by
  obtain ⟨e, w', _, hr, _⟩ := h []
  exact ⟨e, w', hr⟩
theorem rows_some {row : String} {args : Array Value} {w : World} {R : Value → World → Prop} (h : Rows P row args w R) : ∃ v w', R v w' := by
  obtain ⟨v, w', hr, _⟩ := h (Frame.ofRow P row args .normal) []
  exact ⟨v, w', hr⟩

theorem rounds_some {l : Nat} {f : FuncId} {tmps : Array Value} {assign body : Code} {w : World} {R : Ending → World → Prop} (h : RoundIn Fence.wide 0 P l f tmps assign body w R) : ∃ e w', R e w' := by
  obtain ⟨e, w', hr, _⟩ := h.2 default [] (fun d hd => by cases hd)
  exact ⟨e, w', hr⟩
/-- An operation that goes through has an outcome. -/
theorem wp_some {o : Oper} {a : Act} {w : World} {K : Act → World → Prop} (h : wpN P o a w K) : ∃ a1 w1, K a1 w1 ∧ ∃ u ds, a1 = ({ a with defers := ds } : Act).put o.dst u := by
  unfold wpN at h
  generalize (execOp a.eval o).run P w = r at h
  cases r with
  | ok n w' =>
    cases n <;> simp only [uponN] at h
    case value u => exact ⟨_, _, h, u, a.defers, rfl⟩
    case skip => exact ⟨_, _, h, undef, a.defers, rfl⟩
    case enter f args =>
      obtain ⟨e, w'', he⟩ := calls_some h
      cases e with
      | returned u => exact ⟨_, _, he, u, a.defers, rfl⟩
      | panicked c => exact he.elim
      | outgrown => exact he.elim
    case row row args =>
      obtain ⟨u, w'', he⟩ := rows_some h
      exact ⟨_, _, he, u, a.defers, rfl⟩
    case round l f tmps assign body =>
      obtain ⟨e, w'', he⟩ := rounds_some h
      cases e with
      | returned u => exact ⟨_, _, he, u, a.defers, rfl⟩
      | panicked c => exact he.elim
      | outgrown => exact he.elim
  | halt x w' => exact h.elim

/-! ### What is asked of the region's edges -/
def ancOf (A : List Nat) (l : List Edge) : Nat := l.foldl (fun m e => if Region.binds .any e then (m ||| A.getD e.on 0) ||| 2 ^ e.on else m) 0
def ancs : List Oper → List Nat → List Nat
  | [], acc => acc
  | o :: rest, acc => ancs rest (acc ++ [ancOf acc o.after.toList])
def pairOK (ops : Array Oper) (mask : Nat) (A : List Nat) (k j : Nat) (x y : Oper) : Bool := (A.getD j 0).testBit k || (x.apart ops y && (mask.testBit k || mask.testBit j))
def rowOK (ops : Array Oper) (mask : Nat) (A : List Nat) (k : Nat) (x : Oper) : Nat → List Oper → Bool
  | _, [] => true
  | j, y :: rest => pairOK ops mask A k j x y && rowOK ops mask A k x (j + 1) rest
def allOK (ops : Array Oper) (mask : Nat) (A : List Nat) : Nat → List Oper → Bool
  | _, [] => true
  | k, x :: rest => (A.getD k 0 == ancOf A x.after.toList) && (x.after.toList.all fun e => !Region.binds .any e || decide (e.on < k)) && rowOK ops mask A k x (k + 1) rest && allOK ops mask A (k + 1) rest
def regOK (ops : Array Oper) (mask : Nat) : Bool := Region.noSelect ops && allOK ops mask (ancs ops.toList []) 0 ops.toList

theorem ancOf_spec (A : List Nat) (l : List Edge) : ∀ (x m : Nat), (l.foldl (fun m e => if Region.binds .any e then (m ||| A.getD e.on 0) ||| 2 ^ e.on else m) x).testBit m = true →
    x.testBit m = true ∨ ∃ e ∈ l, Region.binds .any e = true ∧ (m = e.on ∨ (A.getD e.on 0).testBit m = true) := by
  induction l with
  | nil => intro x m h; exact .inl h
  | cons e l ih =>
    intro x m h
    simp only [List.foldl_cons] at h
    rcases ih _ m h with h1 | ⟨e', he', h1⟩
    · by_cases hb : Region.binds .any e = true
      · rw [if_pos hb] at h1
        simp only [Nat.testBit_or, Bool.or_eq_true, Nat.testBit_two_pow, decide_eq_true_eq] at h1
        rcases h1 with (h1 | h1) | h1
        · exact .inl h1
        · exact .inr ⟨e, .head _, hb, .inr h1⟩
        · exact .inr ⟨e, .head _, hb, .inl h1.symm⟩
      · rw [if_neg hb] at h1
        exact .inl h1
    · exact .inr ⟨e', .tail _ he', h1⟩

structure Good (ops : Array Oper) (mask : Nat) (A : List Nat) : Prop where
  anc : ∀ (j : Nat) (o : Oper), ops[j]? = some o → ∀ m, (A.getD j 0).testBit m = true → ∃ e ∈ o.after, Region.binds .any e = true ∧ (m = e.on ∨ (A.getD e.on 0).testBit m = true)
  edge : ∀ (j : Nat) (o : Oper), ops[j]? = some o → ∀ e ∈ o.after, Region.binds .any e = true → e.on < j
  pair : ∀ (k j : Nat) (x y : Oper), ops[k]? = some x → ops[j]? = some y → k < j → (A.getD j 0).testBit k = true ∨ (x.apart ops y = true ∧ (mask.testBit k = true ∨ mask.testBit j = true))
  sel : ∀ (j : Nat) (o : Oper) cs b, ops[j]? = some o → o.op ≠ .select cs b

theorem rowOK_spec {A : List Nat} {k : Nat} {x : Oper} : ∀ (l : List Oper) (j : Nat), rowOK ops mask A k x j l = true → ∀ i y, l[i]? = some y → pairOK ops mask A k (j + i) x y = true
  | [], _, _, _, _, h => by cases h
  | y :: l, j, h, i, z, hz => by
    simp only [rowOK, Bool.and_eq_true] at h
    cases i with
    | zero => simp at hz; subst hz; exact h.1
    | succ i =>
      have := rowOK_spec l (j + 1) h.2 i z (by simpa using hz)
      rw [show j + (i + 1) = j + 1 + i by omega]
      exact this

theorem allOK_spec {A : List Nat} : ∀ (l : List Oper) (k : Nat), allOK ops mask A k l = true → ∀ i x, l[i]? = some x →
    (A.getD (k + i) 0 = ancOf A x.after.toList ∧ (∀ e ∈ x.after, Region.binds .any e = true → e.on < k + i)) ∧ ∀ j y, i < j → l[j]? = some y → pairOK ops mask A (k + i) (k + j) x y = true
  | [], _, _, _, _, h => by cases h
  | x :: l, k, h, i, z, hz => by
    simp only [allOK, Bool.and_eq_true] at h
    obtain ⟨⟨⟨h1, h2⟩, h3⟩, h4⟩ := h
    cases i with
    | zero =>
      simp at hz
      subst hz
      refine ⟨⟨by simpa using h1, fun e he hb => ?_⟩, fun j y hj hy => ?_⟩
      · have := List.all_eq_true.1 h2 e (by simpa using he)
        simp [hb] at this
        exact this
      · cases j with
        | zero => omega
        | succ j =>
          have := rowOK_spec l (k + 1) h3 j y (by simpa using hy)
          rw [show k + (j + 1) = k + 1 + j by omega]
          exact this
    | succ i =>
      obtain ⟨⟨a1, a2⟩, a3⟩ := allOK_spec l (k + 1) h4 i z (by simpa using hz)
      rw [show k + (i + 1) = k + 1 + i by omega]
      refine ⟨⟨a1, a2⟩, fun j y hj hy => ?_⟩
      cases j with
      | zero => omega
      | succ j =>
        rw [show k + (j + 1) = k + 1 + j by omega]
        exact a3 j y (by omega) (by simpa using hy)

theorem good_of_regOK (h : regOK ops mask = true) : ∃ A, Good ops mask A := by
  simp only [regOK, Bool.and_eq_true] at h
  obtain ⟨h1, h2⟩ := h
  refine ⟨ancs ops.toList [], ?_, ?_, ?_, fun j o cs b ho => Region.noSelect_spec h1 j o cs b ho⟩
  · intro j o ho m hm
    obtain ⟨⟨e1, _⟩, _⟩ := allOK_spec _ _ h2 j o (by simpa using ho)
    rw [Nat.zero_add] at e1
    rw [e1] at hm
    rcases ancOf_spec _ _ 0 m hm with h0 | ⟨e, he, hb, h0⟩
    · simp at h0
    · exact ⟨e, by simpa using he, hb, h0⟩
  · intro j o ho e he hb
    obtain ⟨⟨_, e2⟩, _⟩ := allOK_spec _ _ h2 j o (by simpa using ho)
    simpa using e2 e he hb
  · intro k j x y hx hy hkj
    obtain ⟨_, e3⟩ := allOK_spec _ _ h2 k x (by simpa using hx)
    have := e3 j y hkj (by simpa using hy)
    simpa [pairOK] using this

def Down (ops : Array Oper) (listed : Array Bool) : Prop := ∀ j o, ops[j]? = some o → listed.getD j false = true → ∀ e ∈ o.after, Region.binds .any e = true → listed.getD e.on false = true

section
variable {A : List Nat} {Q : Act → World → Prop}

theorem Good.listed (g : Good ops mask A) {listed : Array Bool} (hd : Down ops listed) : ∀ (j : Nat) (o : Oper), ops[j]? = some o →
    (∀ e ∈ o.after, Region.binds .any e = true → listed.getD e.on false = true) → ∀ m, (A.getD j 0).testBit m = true → listed.getD m false = true := by
  intro j
  induction j using Nat.strongRecOn with
  | _ j ih =>
    intro o ho hl m hm
    obtain ⟨e, he, hb, h⟩ := g.anc j o ho m hm
    have hel := hl e he hb
    rcases h with rfl | h
    · exact hel
    · have hlt := g.edge j o ho e he hb
      have hjs : j < ops.size := by
        rcases Nat.lt_or_ge j ops.size with h' | h'
        · exact h'
        · rw [Array.getElem?_eq_none h'] at ho; cases ho
      have hs : e.on < ops.size := by omega
      exact ih e.on hlt ops[e.on] (Array.getElem?_eq_getElem hs) (hd e.on _ (Array.getElem?_eq_getElem hs) hel) m h

/-- Two operations that may both come up now are apart, and one of them is soft. -/
theorem Good.both (g : Good ops mask A) {listed : Array Bool} (hd : Down ops listed) {i j : Nat} {oi oj : Oper} (hi : ops[i]? = some oi) (hj : ops[j]? = some oj) (hri : i ∈ Region.ready .any ops listed) (hrj : j ∈ Region.ready .any ops listed) (hne : j ≠ i) :
    (∀ d, oi.dst = some d → d ∉ oj.looksAt ops) ∧ (∀ d, oi.dst = some d → oj.dst ≠ some d) ∧ (∀ d, oj.dst = some d → d ∉ oi.looksAt ops) ∧ (mask.testBit i = true ∨ mask.testBit j = true) := by
  obtain ⟨hui, oi', hoi, hali⟩ := mem_ready.1 hri
  obtain ⟨huj, oj', hoj, halj⟩ := mem_ready.1 hrj
  rw [hi] at hoi; obtain rfl := Option.some.inj hoi
  rw [hj] at hoj; obtain rfl := Option.some.inj hoj
  have no : ∀ k, listed.getD k true = false → ¬ listed.getD k false = true := by
    intro k h1 h2
    rcases Nat.lt_or_ge k listed.size with h' | h'
    · simp [h'] at h1 h2; rw [h1] at h2; cases h2
    · simp [Array.getElem?_eq_none h'] at h1
  rcases Nat.lt_or_ge i j with hij | hij
  · rcases g.pair i j oi oj hi hj hij with h | ⟨h, hm⟩
    · exact absurd (g.listed hd j oj hj halj i h) (no i hui)
    · obtain ⟨a1, a2, a3⟩ := Oper.apart_spec h
      exact ⟨a1, a2, a3, hm⟩
  · rcases g.pair j i oj oi hj hi (by omega) with h | ⟨h, hm⟩
    · exact absurd (g.listed hd i oi hi hali j h) (no j huj)
    · obtain ⟨a1, a2, a3⟩ := Oper.apart_spec h
      exact ⟨a3, fun d hd' he => a2 d he hd', a1, hm.symm⟩

theorem Down.set {listed : Array Bool} (hd : Down ops listed) {j : Nat} (hr : j ∈ Region.ready .any ops listed) : Down ops (listed.setIfInBounds j true) := by
  obtain ⟨_, oj, hoj, hall⟩ := mem_ready.1 hr
  intro k o ho hk e he hb
  by_cases hjk : j = k
  · subst hjk
    rw [hoj] at ho; obtain rfl := Option.some.inj ho
    exact getD_set_true (hall e he hb)
  · rw [getD_set_ne false hjk] at hk
    exact getD_set_true (hd k o ho hk e he hb)

theorem soft_first (g : Good ops mask A) {i : Nat} {oi : Oper} {v : Value} (hi : ops[i]? = some oi) : ∀ (fuel : Nat) (listed : Array Bool) (a : Act) (w : World), Down ops listed → C w → i ∈ Region.ready .any ops listed →
    (mask.testBit i = true ∨ Region.wanted oi (yielded ops a.tmps) = false) → Yld P ops C oi v a → mAny P ops mask C Q fuel (listed.setIfInBounds i true) (a.put oi.dst v) w → mAny P ops mask C Q (fuel + 1) listed a w := by
  intro fuel
  induction fuel with
  | zero =>
    intro listed a w hd hw hr hm hy H
    refine ⟨fun h => (by rw [h] at hr; cases hr), fun j hj => ?_⟩
    by_cases hji : j = i
    · subst hji; exact hy.mOp hi hm H
    · have := ready_mono hj hji
      rw [H.1] at this
      cases this
  | succ fuel ih =>
    intro listed a w hd hw hr hm hy H
    refine ⟨fun h => (by rw [h] at hr; cases hr), fun j hj => ?_⟩
    by_cases hji : j = i
    · subst hji; exact hy.mOp hi hm H
    · have h1 := H.2 j (ready_mono hj hji)
      obtain ⟨_, oj, hoj, _⟩ := mem_ready.1 hj
      obtain ⟨p1, p2, p3, _⟩ := g.both hd hi hoj hr hj hji
      have comm : (listed.setIfInBounds i true).setIfInBounds j true = (listed.setIfInBounds j true).setIfInBounds i true := Array.setIfInBounds_comm _ _ (Ne.symm hji)
      have keep : ∀ (u : Value) (ds : List Deferred), Yld P ops C oi v (({ a with defers := ds } : Act).put oj.dst u) := fun u ds =>
        hy.of_same (execOp_put oi (fun cs b => g.sel i oi cs b hi) _ oj.dst u p3) (wanted_put oi _ oj.dst u p3)
      have keepm : ∀ (u : Value) (ds : List Deferred), mask.testBit i = true ∨ Region.wanted oi (yielded ops (({ a with defers := ds } : Act).put oj.dst u).tmps) = false := fun u ds => by
        rw [wanted_put oi _ oj.dst u p3]; exact hm
      have step : ∀ (u : Value) (ds : List Deferred) (w' : World), C w' → mAny P ops mask C Q fuel ((listed.setIfInBounds i true).setIfInBounds j true) ((({ a with defers := ds } : Act).put oj.dst u).put oi.dst v) w' →
          mAny P ops mask C Q (fuel + 1) (listed.setIfInBounds j true) (({ a with defers := ds } : Act).put oj.dst u) w' := fun u ds w' hw' h =>
        ih (listed.setIfInBounds j true) _ w' (hd.set hj) hw' (ready_mono hr (Ne.symm hji)) (keepm u ds) (keep u ds) (by rw [← comm]; exact h)
      unfold mOp at h1 ⊢
      simp only [hoj] at h1 ⊢
      rw [wanted_put oj a oi.dst v p1] at h1
      by_cases hwt : Region.wanted oj (yielded ops a.tmps) = true
      · rw [if_pos hwt] at h1 ⊢
        by_cases hmj : mask.testBit j = true
        · rw [if_pos hmj] at h1 ⊢
          obtain ⟨u, hu, hn⟩ := h1
          refine ⟨u, fun w' hw' => ?_, step u a.defers w hw (by rw [← Act.put_comm _ v u p2]; exact hn)⟩
          have := hu w' hw'
          unfold SoftAt at this ⊢
          rwa [execOp_put oj (fun cs b => g.sel j oj cs b hoj) a oi.dst v p1] at this
        · rw [if_neg hmj] at h1 ⊢
          unfold wpN at h1 ⊢
          rw [execOp_put oj (fun cs b => g.sel j oj cs b hoj) a oi.dst v p1] at h1
          refine upon_put p2 (fun a' w' ⟨u, ds, ha⟩ hk => ?_) h1
          subst ha
          exact ⟨hk.1, step u ds w' hk.1 hk.2⟩
      · rw [if_neg hwt] at h1 ⊢
        exact step undef a.defers w hw (by rw [← Act.put_comm _ v undef p2]; exact h1)

theorem hard_first (g : Good ops mask A) {i : Nat} {oi : Oper} (hi : ops[i]? = some oi) (hmi : ¬ mask.testBit i = true) : ∀ (fuel : Nat) (listed : Array Bool) (a : Act) (w : World), Down ops listed → C w → i ∈ Region.ready .any ops listed →
    Region.wanted oi (yielded ops a.tmps) = true → wpN P oi a w (fun a1 w1 => C w1 ∧ mAny P ops mask C Q fuel (listed.setIfInBounds i true) a1 w1) → mAny P ops mask C Q (fuel + 1) listed a w := by
  intro fuel
  induction fuel with
  | zero =>
    intro listed a w hd hw hr hwt H
    refine ⟨fun h => (by rw [h] at hr; cases hr), fun j hj => ?_⟩
    by_cases hji : j = i
    · subst hji
      unfold mOp
      simp only [hi]
      rw [if_pos hwt, if_neg hmi]
      exact H
    · obtain ⟨a1, w1, ⟨_, h0, _⟩, _⟩ := wp_some H
      have := ready_mono hj hji
      rw [h0] at this
      cases this
  | succ fuel ih =>
    intro listed a w hd hw hr hwt H
    refine ⟨fun h => (by rw [h] at hr; cases hr), fun j hj => ?_⟩
    by_cases hji : j = i
    · subst hji
      unfold mOp
      simp only [hi]
      rw [if_pos hwt, if_neg hmi]
      exact H
    · obtain ⟨_, oj, hoj, _⟩ := mem_ready.1 hj
      obtain ⟨p1, p2, p3, pm⟩ := g.both hd hi hoj hr hj hji
      have hmj : mask.testBit j = true := pm.resolve_left hmi
      have comm : (listed.setIfInBounds i true).setIfInBounds j true = (listed.setIfInBounds j true).setIfInBounds i true := Array.setIfInBounds_comm _ _ (Ne.symm hji)
      have rj := ready_mono (i := i) hj hji
      -- its value
      have back : ∀ (v : Value) (u : Value) (ds : List Deferred), Yld P ops C oj v (({ a with defers := ds } : Act).put oi.dst u) → Yld P ops C oj v a := fun v u ds hy =>
        hy.of_same (execOp_put oj (fun cs b => g.sel j oj cs b hoj) ({ a with defers := ds } : Act) oi.dst u p1).symm (wanted_put oj ({ a with defers := ds } : Act) oi.dst u p1).symm
      obtain ⟨a1, w1, ⟨hw1, h1⟩, u1, ds1, rfl⟩ := wp_some H
      obtain ⟨v, hy1, _⟩ := yld_of_mOp hoj (.inl hmj) (h1.2 j rj)
      have hy := back v u1 ds1 hy1
      refine hy.mOp hoj (.inl hmj) ?_
      refine ih (listed.setIfInBounds j true) _ w (hd.set hj) hw (ready_mono hr (Ne.symm hji)) (by rw [wanted_put oi a oj.dst v p3]; exact hwt) ?_
      unfold wpN at H ⊢
      rw [execOp_put oi (fun cs b => g.sel i oi cs b hi) a oj.dst v p3]
      refine upon_put' (fun d hd' he => p2 d he hd') (fun a' w' ⟨u, ds, ha⟩ hk => ⟨hk.1, ?_⟩) H
      subst ha
      obtain ⟨v', hy', h2⟩ := yld_of_mOp hoj (.inl hmj) (hk.2.2 j rj)
      obtain rfl : v = v' := hy.det hw (back v' u ds hy')
      rw [← comm]
      exact h2

/-- The walk in the order of the text. -/
def wpMix (P : Program) (ops : Array Oper) (mask : Nat) (C : World → Prop) (Q : Act → World → Prop) : Nat → List Oper → Act → World → Prop
  | _, [], a, w => Q a w
  | k, o :: rest, a, w =>
    if Region.wanted o (yielded ops a.tmps) = true then
      (if mask.testBit k = true then ∃ v, (∀ w', C w' → SoftAt P o a w' v) ∧ wpMix P ops mask C Q (k + 1) rest (a.put o.dst v) w
        else wpN P o a w (fun a' w' => C w' ∧ wpMix P ops mask C Q (k + 1) rest a' w'))
    else wpMix P ops mask C Q (k + 1) rest (a.put o.dst undef) w

theorem mAny_lex (g : Good ops mask A) : ∀ (l : List Oper) (k : Nat) (listed : Array Bool) (a : Act) (w : World), (∀ j, l[j]? = ops[k + j]?) → listed.size = ops.size → (∀ m, m < ops.size → (listed.getD m false = true ↔ m < k)) →
    Down ops listed → C w → wpMix P ops mask C Q k l a w → mAny P ops mask C Q l.length listed a w
  | [], k, listed, a, w, hl, hs, hp, hd, hw, h => by
    refine ⟨?_, h⟩
    cases hr : Region.ready .any ops listed with
    | nil => rfl
    | cons i r =>
      have hi : i ∈ Region.ready .any ops listed := by rw [hr]; exact .head _
      obtain ⟨hu, oi, hoi, _⟩ := mem_ready.1 hi
      have hlt : i < ops.size := by
        rcases Nat.lt_or_ge i ops.size with h' | h'
        · exact h'
        · rw [Array.getElem?_eq_none h'] at hoi; cases hoi
      have hk : ops.size ≤ k := by
        rcases Nat.lt_or_ge k ops.size with h' | h'
        · have := hl 0
          simp [h'] at this
        · exact h'
      have := (hp i hlt).2 (by omega)
      simp [hs, hlt] at this hu
      rw [this] at hu; cases hu
  | o :: l, k, listed, a, w, hl, hs, hp, hd, hw, h => by
    have h0 : ops[k]? = some o := by simpa using (hl 0).symm
    have hlt : k < ops.size := by
      rcases Nat.lt_or_ge k ops.size with h' | h'
      · exact h'
      · rw [Array.getElem?_eq_none h'] at h0; cases h0
    have hr : k ∈ Region.ready .any ops listed := by
      refine mem_ready.2 ⟨?_, o, h0, fun e he hb => ?_⟩
      · have : ¬ listed.getD k false = true := fun h' => by have := (hp k hlt).1 h'; omega
        simp [hs, hlt] at this ⊢
        exact this
      · have := g.edge k o h0 e he hb
        exact (hp e.on (by omega)).2 this
    have next : ∀ (a' : Act) (w' : World), C w' → wpMix P ops mask C Q (k + 1) l a' w' → mAny P ops mask C Q l.length (listed.setIfInBounds k true) a' w' := fun a' w' hw' h' =>
      mAny_lex g l (k + 1) _ a' w' (fun j => by have := hl (j + 1); simpa [Nat.add_assoc, Nat.add_comm 1 j] using this) (by simpa using hs)
        (fun m hm => by
          by_cases hkm : k = m
          · subst hkm
            simp [hs, hlt]
          · rw [getD_set_ne false hkm, hp m hm]
            omega) (hd.set hr) hw' h'
    unfold wpMix at h
    by_cases hwt : Region.wanted o (yielded ops a.tmps) = true
    · rw [if_pos hwt] at h
      by_cases hm : mask.testBit k = true
      · rw [if_pos hm] at h
        obtain ⟨v, hv, hn⟩ := h
        exact soft_first g h0 l.length listed a w hd hw hr (.inl hm) (.inl ⟨hwt, hv⟩) (next _ _ hw hn)
      · rw [if_neg hm] at h
        exact hard_first g h0 hm l.length listed a w hd hw hr hwt (wp_mono2 (fun a1 w1 ⟨c, n⟩ => ⟨c, next a1 w1 c n⟩) h)
    · rw [if_neg hwt] at h
      exact soft_first g h0 l.length listed a w hd hw hr (.inr (by simpa using hwt)) (.inr ⟨by simpa using hwt, rfl⟩) (next _ _ hw h)
end

section
variable {P : Program} {ops : Array Oper} {o : Oper}
/-! ### The same over a frame that is a list, the guards read off a list of slots -/
def lget : List Value → Nat → Value
  | [], _ => undef
  | v :: _, 0 => v
  | _ :: l, n + 1 => lget l n
theorem lget_eq (l : List Value) (t : Nat) : l.getD t undef = lget l t := by
  induction l generalizing t with
  | nil => rfl
  | cons v l ih =>
    cases t with
    | zero => rfl
    | succ t => rw [List.getD_cons_succ]; exact ih t
def look (l : List Value) : Operand → Value
  | .tmp t => lget l t
  | .const v => v
  | x => (Act.mk l.toArray []).eval x
@[go_sem] theorem look_tmp (l : List Value) (t : Nat) : look l (.tmp t) = lget l t := rfl
@[go_sem] theorem look_const (l : List Value) (v : Value) : look l (.const v) = v := rfl
@[go_sem] theorem look_func (l : List Value) (f : FuncId) : look l (.func f) = (Act.mk l.toArray []).eval (.func f) := rfl
@[go_sem] theorem look_global (l : List Value) (g : Nat) : look l (.global g) = (Act.mk l.toArray []).eval (.global g) := rfl
theorem look_eq (l : List Value) (ds : List Deferred) : (Act.mk l.toArray ds).eval = look l := by
  funext x
  cases x <;> simp [look, Act.eval, ← lget_eq, List.getD]
attribute [go_sem] lget

def lset (d : Option Tmp) (v : Value) (l : List Value) : List Value :=
  match d with
  | some d => l.set d v
  | none => l
theorem lset_eq (d : Option Tmp) (v : Value) (l : List Value) (ds : List Deferred) : (Act.mk l.toArray ds).put d v = ⟨(lset d v l).toArray, ds⟩ := by
  cases d <;> simp [Act.put, lset]

def isB (v : Value) (want : Bool) : Bool :=
  match v with
  | .bool b => b == want
  | _ => false
def wantL (T : List (Option Tmp)) (o : Oper) (l : List Value) : Bool :=
  match o.guard with
  | none => true
  | some (g, want) => match T.getD g none with
    | some d => isB (lget l d) want
    | none => false

theorem want_eq (o : Oper) (l : List Value) (ds : List Deferred) : Region.wanted o (yielded ops (Act.mk l.toArray ds).tmps) = wantL (ops.toList.map (·.dst)) o l := by
  unfold Region.wanted wantL
  cases o.guard with
  | none => rfl
  | some gw =>
    obtain ⟨g, want⟩ := gw
    simp only [yielded]
    have e : (ops.toList.map (·.dst)).getD g none = (ops[g]?).bind (·.dst) := by
      rw [List.getD_eq_getElem?_getD, List.getElem?_map, Array.getElem?_toList]
      cases ops[g]? <;> rfl
    rw [e]
    cases (ops[g]?).bind (·.dst) with
    | none => cases want <;> rfl
    | some d =>
      simp only [Option.bind_some, List.getElem?_toArray, ← lget_eq, List.getD_eq_getElem?_getD]
      cases l[d]? with
      | none => cases want <;> rfl
      | some v => cases v <;> simp [isB] <;> cases want <;> rfl

end
section
variable {P : Program}
theorem below_frozen {B : Nat} {w w' : World} (h : RowKit.Below B w w') : ∀ b o, b < B → w'.frozen? ⟨b, o, none⟩ = w.frozen? ⟨b, o, none⟩ := fun b o hb => h.frozen (p := ⟨b, o, none⟩) hb
theorem below_cell {B : Nat} {w w' : World} (h : RowKit.Below B w w') : ∀ b o, b < B → w'.cell? ⟨b, o, none⟩ = w.cell? ⟨b, o, none⟩ := fun b o hb => h.cell (p := ⟨b, o, none⟩) hb
end
end
end Go.Proofs.YtihboegopigkmaaDoor
