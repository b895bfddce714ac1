/- bytes.Join: the shelf's contract, laid; as bytes that are read. -/
import Derived.Test.YtpblllkkcpahgaaBz
import Derived.Shelf.Bytes.SlJoin
namespace Go.Proofs.Ytpblllkkcpahgaa
set_option linter.unusedSimpArgs false
set_option linter.unusedVariables false
set_option linter.unnecessarySimpa false
set_option maxRecDepth 100000
open Go.RowKit

def rho : Go.Shelf.Ren := ⟨fun k => if k = 14 then 61 else if k = 15 then 76 else k, fun k => if k = 0 then 0 else if k = 3 then 3 else if k = 4 then 4 else if k = 9 then 9 else if k = 20 then 20 else if k = 22 then 22 else if k = 26 then 57 else if k = 5 then 5 else k, fun g => g⟩
theorem laysJ : SlLaysJ.n14 Try.prog rho where
  mixed := by kernel_rfl
  f14 := by kernel_rfl
  f15 := by kernel_rfl
  t0 := by kernel_rfl
  a0 := fun _ => by kernel_rfl
  z0 := fun _ => by kernel_rfl
  v0 := fun _ => by kernel_rfl
  t3 := by kernel_rfl
  a3 := fun _ => by kernel_rfl
  z3 := fun _ => by kernel_rfl
  v3 := fun _ => by kernel_rfl
  t4 := by kernel_rfl
  a4 := fun _ => by kernel_rfl
  z4 := fun _ => by kernel_rfl
  v4 := fun _ => by kernel_rfl
  t9 := by kernel_rfl
  a9 := fun _ => by kernel_rfl
  z9 := fun _ => by kernel_rfl
  v9 := fun _ => by kernel_rfl
  t20 := by kernel_rfl
  a20 := fun _ => by kernel_rfl
  z20 := fun _ => by kernel_rfl
  v20 := fun _ => by kernel_rfl
  t22 := by kernel_rfl
  a22 := fun _ => by kernel_rfl
  z22 := fun _ => by kernel_rfl
  v22 := fun _ => by kernel_rfl
  t26 := by kernel_rfl
  a26 := fun _ => by kernel_rfl
  z26 := fun _ => by kernel_rfl
  v26 := fun _ => by kernel_rfl
  t5 := by kernel_rfl
  z5 := fun _ => by kernel_rfl
  i5 := by kernel_rfl
theorem cell_same {w w' : World} {b off : Nat} (h : w'.heap[b]? = w.heap[b]?) : w'.cell? ⟨b, off, none⟩ = w.cell? ⟨b, off, none⟩ := by
  unfold World.cell?
  rw [h]
theorem lt_same {w w' : World} {b : Nat} (h : w'.heap[b]? = w.heap[b]?) (hl : b < w.heap.size) : b < w'.heap.size := by
  rw [Array.getElem?_eq_getElem hl] at h
  exact (Array.getElem?_eq_some_iff.1 h).1
theorem cell_lt {w : World} {b off : Nat} {v : Value} (h : w.cell? ⟨b, off, none⟩ = some v) : b < w.heap.size := by
  unfold World.cell? at h
  split at h
  · rename_i h1; exact (Array.getElem?_eq_some_iff.1 h1).1
  · cases h
/-- Bytes that are read, in a block that was made. -/
def ro (A : Option Addr) (n : Nat) (zs : List Int) : Itm where
  foot := match A with | some a => [a.block] | none => []
  holds w := IRow .u8 w A n zs ∧ (∀ a, A = some a → a.block < w.heap.size)
  loc w w' h hh := by
    refine ⟨⟨hh.1.1, fun hn => ?_⟩, fun a ha => ?_⟩
    · obtain ⟨b, off, e, hc⟩ := hh.1.2 hn
      refine ⟨b, off, e, fun j hj => ?_⟩
      have h1 := h b (by rw [e]; exact List.mem_singleton.2 rfl)
      rw [← hc j hj]
      exact cell_same h1
    · have h1 := h a.block (by rw [ha]; exact List.mem_singleton.2 rfl)
      have h2 := hh.2 a ha
      exact lt_same h1 h2
  live w h k hk := by
    cases hA : A with
    | none => rw [hA] at hk; cases hk
    | some a => rw [hA] at hk; cases List.mem_singleton.1 hk; exact h.2 a hA
theorem ro_irow {w0 w : World} {S : List Nat} {mem : Mem} {A : Option Addr} {n : Nat} {zs : List Int} (hl : Loc w0 S (denM mem) w) (hat : At (denM mem) (ro A n zs)) : IRow .u8 w A n zs := (hl.holds _ hat.mem).1
/-- Bytes, as a result: read alone. -/
def RoR (tag : Nat) (zs : List Int) (v : SV) (mi : Mem) : Prop :=
  ∃ A c, v = .sl tag A zs.length c ∧ mi = [.oth tag (ro A zs.length zs)] ∧ zs.length ≤ c ∧ c ≤ maxLen ∧ (A = none → c = 0)
theorem bytesOf_len (zs : List Int) : (Lib.bytesOf zs).length = zs.length := by simp [Lib.bytesOf]
theorem bytesOf_get {zs : List Int} (hu : AllU8 zs) {i : Nat} {x : UInt8} (h : (Lib.bytesOf zs)[i]? = some x) : i < zs.length ∧ (x.toNat : Int) = zs.getD i 0 := by
  simp only [Lib.bytesOf, List.getElem?_map, Option.map_eq_some_iff] at h
  obtain ⟨z, hz, rfl⟩ := h
  have hi := (List.getElem?_eq_some_iff.1 hz).1
  have h1 := hu z (List.mem_of_getElem? hz)
  unfold U8 at h1
  refine ⟨hi, ?_⟩
  rw [List.getD, hz]
  simp
  omega
theorem bytesOf_inj {xs ys : List Int} (hx : AllU8 xs) (hy : AllU8 ys) (h : Lib.bytesOf xs = Lib.bytesOf ys) : xs = ys := by
  have hl : xs.length = ys.length := by rw [← bytesOf_len xs, ← bytesOf_len ys, h]
  apply getD_eq hl
  intro j hj
  have e1 : (Lib.bytesOf xs)[j]? = some (Lib.bytesOf xs)[j]! := by rw [List.getElem!_eq_getElem?_getD]; simp [bytesOf_len, hj]
  have a := bytesOf_get hx (e1)
  have b := bytesOf_get hy (by rw [← h]; exact e1)
  omega
theorem bytesOf_append (xs ys : List Int) : Lib.bytesOf (xs ++ ys) = Lib.bytesOf xs ++ Lib.bytesOf ys := by simp [Lib.bytesOf]
theorem join_flat (L : List (List Int)) : Lib.join (L.map Lib.bytesOf) [] = Lib.bytesOf (L.flatMap id) := by
  unfold Lib.join
  induction L with
  | nil => rfl
  | cons x L ih =>
    cases L with
    | nil => simp [List.intercalate]
    | cons y L =>
      rw [List.map_cons, List.map_cons, List.intercalate_cons_cons, List.flatMap_cons, bytesOf_append]
      rw [List.map_cons] at ih
      rw [ih]
      simp
theorem bjoin_X (tag h h2 b k : Nat) (L : List BL) (w : World) (ys : List Int) (hL : BLt h w b L) (hk : L.length = k) (hys : BLs.all L = ys) (hu : AllU8 ys) (h0 : 0 < ys.length) (htot : ys.length ≤ 1000000000) (hk1 : 2 ≤ k) (hk2 : k ≤ 1000) :
    RetX Try.prog 61 [.slB h b 0 k k, .sl h2 none 0 0] w [] (RoR tag ys) := by
  obtain ⟨⟨e, hb⟩, hr⟩ := hL
  have hul : ∀ r ∈ L, AllU8 r.2.2 := fun r hr x hx => hu x (by rw [← hys]; exact List.mem_flatMap.2 ⟨r, hr, hx⟩)
  have hP : Lib.PartsAt w ⟨b, 0, none⟩ (L.map BL.v) (L.map fun r => Lib.bytesOf r.2.2) := by
    refine ⟨by simp, fun i v hv => ?_, fun i v l hv hl => ?_⟩
    · rw [Addr.add_lit, Nat.zero_add, cell_of_row _ _ _ _ _ _ hb]
      simpa using hv
    · simp only [List.getElem?_map, Option.map_eq_some_iff] at hv hl
      obtain ⟨r, hr1, rfl⟩ := hv
      obtain ⟨r', hr2, rfl⟩ := hl
      rw [hr1] at hr2
      injection hr2 with hr2
      subst hr2
      have hm := List.mem_of_getElem? hr1
      obtain ⟨h1, h3⟩ := hr r hm
      refine ⟨r.1, r.2.1, by simp [BL.v, bytesOf_len], fun hn => ?_, fun a ha i x hx => ?_⟩
      · rcases Nat.eq_zero_or_pos r.2.2.length with h4 | h4
        · rw [List.eq_nil_of_length_eq_zero h4]; rfl
        · obtain ⟨_, _, e4, _⟩ := h1.2 h4
          rw [hn] at e4; cases e4
      · obtain ⟨hi, hx⟩ := bytesOf_get (hul r hm) hx
        obtain ⟨b', off, e4, hc⟩ := h1.2 (by omega)
        rw [ha] at e4
        injection e4 with e4
        subst e4
        rw [Addr.add_lit, hc i hi, hx]
  have hlen : Lib.lens (L.map fun r => Lib.bytesOf r.2.2) = ys.length := by
    rw [← hys]
    unfold Lib.lens BLs.all
    rw [List.length_flatMap, List.map_map]
    congr 1
    apply List.map_congr_left
    intro r _
    exact bytesOf_len _
  have key := Any.bytes_Join_many laysJ b 0 k k (L.map BL.v) (L.map fun r => Lib.bytesOf r.2.2) (.slice none 0 0) [] w (by simp [hk]) hk1 hP (Nat.le_refl _) ⟨none, 0, rfl, fun _ => rfl, fun a ha => by cases ha⟩ (by omega) (by rw [hlen]; simp; omega)
  refine ⟨Calls.mono key fun e' w' ⟨v', he, hf, hbel⟩ => ?_⟩
  have hj : Lib.join (L.map fun r => Lib.bytesOf r.2.2) [] = Lib.bytesOf ys := by
    have := join_flat (L.map fun r => r.2.2)
    rw [List.map_map] at this
    rw [← hys]
    unfold BLs.all
    rw [show (L.map fun r => Lib.bytesOf r.2.2) = L.map (Lib.bytesOf ∘ fun r => r.2.2) from rfl, this]
    congr 1
    rw [List.flatMap_map]
    rfl
  rw [hj] at hf
  obtain ⟨g, cap, zs, rfl, hg, hle, hcm, hzl, hzu, hzt, hc, _⟩ := hf
  rw [bytesOf_len] at hle hzt
  have hzu' : AllU8 zs := hzu
  have hzy : zs.take ys.length = ys := bytesOf_inj (hzu'.take _) hu hzt
  have hcell : ∀ j, j < ys.length → w'.cell? ⟨g, 0 + j, none⟩ = some (.int .u8 (ys.getD j 0)) := fun j hj => by
    rw [Nat.zero_add, hc j (by omega)]
    have : ys.getD j 0 = zs.getD j 0 := by
      conv => lhs; rw [← hzy]
      simp [List.getD, List.getElem?_take, hj]
    rw [this]
  have hgl : g < w'.heap.size := cell_lt (hcell 0 h0)
  refine ⟨_, _, he, ⟨.sl tag (some ⟨g, 0, none⟩) ys.length cap, [.oth tag (ro (some ⟨g, 0, none⟩) ys.length ys)], by rw [bytesOf_len]; rfl, rfl, ⟨_, _, rfl, rfl, hle, hcm, fun h => by cases h⟩⟩, ?_⟩
  have l0 := Loc.of_below hbel
  refine ⟨l0.os, l0.tape, l0.output, l0.size, l0.same, fun i hi => ?_, fun i hi k hk => ?_, List.pairwise_singleton _ _⟩
  · cases List.mem_singleton.1 hi
    exact ⟨⟨rfl, fun _ => ⟨g, 0, rfl, hcell⟩⟩, fun a ha => by injection ha with ha; subst ha; exact hgl⟩
  · cases List.mem_singleton.1 hi
    right
    rcases List.mem_singleton.1 hk with rfl
    exact hg
end Go.Proofs.Ytpblllkkcpahgaa
