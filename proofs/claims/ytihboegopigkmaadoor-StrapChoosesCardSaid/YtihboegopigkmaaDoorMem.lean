/- Words for memory: a slice of integers that reads as a list; appending to one of the call's own. -/
import Derived.Test.YtihboegopigkmaaDoorProg
import Derived.WalkKit
import Derived.WalkSpells
import Derived.WalkLawsBesides
import Derived.Lib.Hide
import Derived.Deep.Draws
import Derived.Laws.AppendOwnNone
namespace Go.Proofs.YtihboegopigkmaaDoor
set_option linter.unusedSimpArgs false
set_option linter.unusedVariables false
set_option linter.unnecessarySimpa false
set_option linter.unusedSectionVars false
open Go.RowKit

theorem ret_int {k : IntKind} {a b : Int} (h : a = b) : Ending.returned (.int k a) = .returned (.int k b) := by rw [h]
theorem ret_bool {a b : Bool} (h : a = b) : Ending.returned (.bool a) = .returned (.bool b) := by rw [h]

/-- A slice of integers that reads as a list. -/
def IRow (k : IntKind) (w : World) (A : Option Addr) (n : Nat) (zs : List Int) : Prop :=
  zs.length = n ∧ (0 < n → ∃ b off, A = some ⟨b, off, none⟩ ∧ ∀ j, j < n → w.cell? ⟨b, off + j, none⟩ = some (.int k (zs.getD j 0)))

section
variable {k : IntKind} {w w' : World} {A : Option Addr} {n : Nat} {zs : List Int}

theorem IRow.nil (k : IntKind) (w : World) (A : Option Addr) : IRow k w A 0 [] := ⟨rfl, fun h => absurd h (by omega)⟩

theorem IRow.keep (h : IRow k w A n zs) (hk : ∀ p : Addr, (w.cell? p).isSome = true → w'.cell? p = w.cell? p) : IRow k w' A n zs :=
  ⟨h.1, fun hn => by
    obtain ⟨b, off, e, hc⟩ := h.2 hn
    exact ⟨b, off, e, fun j hj => (hk _ (by rw [hc j hj]; rfl)).trans (hc j hj)⟩⟩

theorem IRow.below (h : IRow k w A n zs) (hb : Below w.heap.size w w') : IRow k w' A n zs :=
  h.keep fun p hp => by
    obtain ⟨v, hv⟩ := Option.isSome_iff_exists.1 hp
    exact hb.cell (World.block_lt_of_cell? w p hv)

theorem IRow.alloc (h : IRow k w A n zs) (o : Obj) : IRow k (w.alloc o) A n zs := h.below ((Below.refl _ _).alloc (Nat.le_refl _) o)
theorem IRow.drew (h : IRow k w A n zs) : IRow k w.drew A n zs := h
theorem IRow.drewN (h : IRow k w A n zs) (m : Nat) : IRow k (w.drewN m) A n zs := h

theorem IRow.take (h : IRow k w A n zs) {m : Nat} (hm : m ≤ n) : IRow k w A m (zs.take m) :=
  ⟨by rw [List.length_take, h.1]; omega, fun hp => by
    obtain ⟨b, off, e, hc⟩ := h.2 (by omega)
    exact ⟨b, off, e, fun j hj => by rw [hc j (by omega)]; simp [List.getD, List.getElem?_take, hj]⟩⟩

theorem heap_new (w : World) (o : Obj) (B : Nat) (hB : w.heap.size = B) : (w.alloc o).heap[B]? = some o := by subst hB; exact heap_alloc_new _ _

theorem irow_blk {k : IntKind} {w : World} {B : Nat} {t : TypeId} {zs : List Int} (h : w.heap[B]? = some (.cells (zs.map (Value.int k)).toArray t (0, 0))) : IRow k w (some ⟨B, 0, none⟩) zs.length zs := by
  refine ⟨rfl, fun _ => ⟨_, _, rfl, fun j hj => ?_⟩⟩
  rw [Nat.zero_add, cell_of_row _ _ _ _ _ _ h]
  simp [List.getD, hj]

theorem irow_new (k : IntKind) (w : World) (t : TypeId) (zs : List Int) : IRow k (w.alloc (.cells (zs.map (Value.int k)).toArray t)) (some ⟨w.heap.size, 0, none⟩) zs.length zs := by
  refine ⟨rfl, fun _ => ⟨_, _, rfl, fun j hj => ?_⟩⟩
  rw [Nat.zero_add, cell_of_row _ _ _ _ _ _ (heap_alloc_new w _)]
  simp [List.getD, hj]

theorem IRow.of_own {base : Nat} {e : TypeId} {cap : Nat} (h : w.ownsRow base e 1 (.slice A n cap) n (zs.map (Value.int k))) : IRow k w A n zs := by
  obtain ⟨hl, h2⟩ := h
  have hl' : zs.length = n := by simpa using hl
  refine ⟨hl', fun hp => ?_⟩
  rcases h2 with ⟨_, h0⟩ | ⟨g, cap', cur, hv, _, hh, hnc, _, hs, ht⟩
  · omega
  · injection hv with hA _ _
    refine ⟨g, 0, hA, fun j hj => ?_⟩
    rw [Nat.zero_add, cell_of_row _ _ _ _ _ _ hh]
    have h3 : (cur.toList.take (n * 1))[j]? = (zs.map (Value.int k))[j]? := by rw [ht]
    rw [List.getElem?_take, if_pos (by omega)] at h3
    rw [← Array.getElem?_toList, h3]
    simp [List.getD, List.getElem?_eq_getElem (show j < zs.length by omega)]
end

theorem own_nil (w : World) (base : Nat) (e : TypeId) (k : IntKind) : w.ownsRow base e 1 (.slice none 0 0) 0 (([] : List Int).map (Value.int k)) := World.ownsRow_nil _ _ _ _

/-- Appending integers to a slice of the call's own: wherever they come from. -/
theorem wpList_append_ints {P : Program} {w : World} {ops : Array Oper} {rest : List Oper} {o : Oper} {a : Act} {Q : Exit → Act → World → Prop} (s x : Operand) (k : IntKind) (t e : TypeId) (bytes base : Nat)
    (A : Option Addr) (n cap : Nat) (zs : List Int) (hown : w.ownsRow base e 1 (.slice A n cap) n (zs.map (Value.int k)))
    (A2 : Option Addr) (m c2 : Nat) (ys : List Int) (hr : IRow k w A2 m ys)
    (hgd : o.guard = none) (ho : o.op = .call { callee := .builtin .append, args := #[s, x], argTypes := #[t, t] })
    (ht : P.underlying t = some (.slice e)) (hi : (P.info? e).map (fun i => (i.zero, i.size, i.bytes)) = some (some (.int k 0), 1, bytes)) (h8 : bytes ≤ 8)
    (hs : a.eval s = .slice A n cap) (hx : a.eval x = .slice A2 m c2) (hn0 : A2 = none → c2 = 0) (hnm : n + m ≤ 1000000000000) (hbase : base ≤ w.heap.size)
    (h : ∀ A' cap' w', w'.ownsRow base e 1 (.slice A' (n + m) cap') (n + m) ((zs ++ ys).map (Value.int k)) → w.grownBy w' (Value.slice A n cap).ownBlock → wpList P ops Q rest (a.put o.dst (.slice A' (n + m) cap')) w') : wpList P ops Q (o :: rest) a w := by
  obtain ⟨i, hi, hz, hsz, hby⟩ := info_parts hi
  cases A2 with
  | none =>
    have hm : m = 0 := by
      rcases Nat.eq_zero_or_pos m with h0 | h0
      · exact h0
      · obtain ⟨_, _, e, _⟩ := hr.2 h0; cases e
    subst hm
    obtain rfl := hn0 rfl
    obtain rfl : ys = [] := List.eq_nil_of_length_eq_zero hr.1
    refine wpList_append_own_none hgd s x t ho base e i 1 ht hi _ n _ hs hown hx ?_
    have := h A cap w (by simpa using hown) ⟨rfl, rfl, rfl, Nat.le_refl _, fun _ _ _ => rfl⟩
    simpa using this
  | some ad =>
    refine wpList_append_own w hgd s x t ho base e i (.int k 0) 1 bytes ht hi hz hsz hby rfl (by omega) _ n _ hs hown ad m c2 (ys.map (Value.int k)) hx (by simp [hr.1]) ?_ ?_ (by unfold maxLen; omega) ?_ hbase ?_
    · intro j u hu
      have hj : j < m := by
        have := List.getElem?_eq_some_iff.1 hu
        obtain ⟨h1, _⟩ := this
        rw [List.length_map, hr.1] at h1
        exact h1
      obtain ⟨b, off, e, hc⟩ := hr.2 (by omega)
      injection e with e
      subst e
      have h2 : (⟨b, off, none⟩ : Addr).add j = ⟨b, off + j, none⟩ := by unfold Addr.add; split <;> simp_all
      rw [h2, hc j hj, ← hu]
      simp [List.getD, List.getElem?_eq_getElem (show j < ys.length by rw [hr.1]; exact hj)]
    · intro u hu
      obtain ⟨y, _, rfl⟩ := List.mem_map.1 hu
      rfl
    · have := Nat.mul_le_mul (show n + m ≤ 1000000000000 from hnm) h8
      omega
    · intro v' w' hown' hg _
      rw [← List.map_append] at hown'
      obtain ⟨A', cap', rfl⟩ : ∃ A' cap', v' = .slice A' (n + m) cap' := by
        rcases hown'.2 with ⟨rfl, h0⟩ | ⟨g, cap', cur, rfl, _⟩
        · exact ⟨none, 0, by rw [h0]⟩
        · exact ⟨_, cap', rfl⟩
      exact h A' cap' w' hown' hg

theorem own_block' {w : World} {base : Nat} {e : TypeId} {size : Nat} {v : Value} {n : Nat} {xs : List Value} (h : w.ownsRow base e size v n xs) : ∀ g, v.ownBlock = some g → base ≤ g := fun g hg => (h.lt g hg).1
/-- Behind an append onto what is owned from base on: below base all is as it was. -/
theorem own_grown {w w' : World} {base : Nat} {e : TypeId} {size : Nat} {v : Value} {n : Nat} {xs : List Value} (h : w.ownsRow base e size v n xs) (hg : w.grownBy w' v.ownBlock) (hb : base ≤ w.heap.size) : Below base w w' :=
  (Below.refl _ _).grown hg hb (own_block' h)
theorem nil_grown {w w' : World} (base : Nat) (hg : w.grownBy w' (Value.slice none 0 0).ownBlock) (hb : base ≤ w.heap.size) : Below base w w' := (Below.refl _ _).grown hg hb (fun k hk => by cases hk)
theorem own_block {w : World} {base : Nat} {e : TypeId} {size : Nat} {v : Value} {n : Nat} {xs : List Value} (h : w.ownsRow base e size v n xs) : ∀ g, v.ownBlock = some g → base ≤ g := fun g hg => (h.lt g hg).1

/-- Behind an append onto a row that was just made empty. -/
theorem below_made {w w1 w2 : World} {o : Obj} {n c : Nat} (hb : Below w.heap.size w w1) (hg : (w1.alloc o).grownBy w2 (Value.slice (some ⟨w1.heap.size, 0, none⟩) n c).ownBlock) : Below w.heap.size w w2 := by
  refine (hb.alloc hb.size _).grown hg (by have := hb.size; simp; omega) ?_
  intro k hk
  have := hb.size
  have : w1.heap.size = k := by simpa [Value.ownBlock] using hk
  omega
end Go.Proofs.YtihboegopigkmaaDoor
