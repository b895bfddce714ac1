/- Contracts of what all references use: numbers' bytes; helpers of laws over bytes. -/
import Derived.Test.YtjbjnkjilgndmaaBy
namespace Go.Proofs.Ytjbjnkjilgndmaa
set_option linter.unusedSimpArgs false
set_option linter.unusedVariables false
set_option linter.unnecessarySimpa false
set_option maxRecDepth 100000
open Go.RowKit

/-- A fact that the arithmetic is not to see yet. -/
structure Hid (p : Prop) : Prop where
  h : p
section
variable {w0 : World} {S : List Nat} {mem : Mem}
theorem same_B (h h' b : Nat) (A : Option Addr) (n cp n' cp' : Nat) (xs ys : List Int) (w : World) (hr : IRow .u8 w A n xs) (hr' : IRt h' .u8 w (some ⟨b, 0, none⟩) n' ys) (hn : n ≤ 9223372036854775807) (hn' : n' ≤ 9223372036854775807) :
    RetS Try.prog 57 [.sl h A n cp, .slB h' b 0 n' cp'] w (.boo (decide (xs = ys))) := ⟨(same_S h 0 A _ n cp n' cp' xs ys w hr hr' hn hn').go⟩
/-- Slices of bytes in a block of a tag. -/
def BLt (_ : Nat) (w : World) (b : Nat) (L : List BL) : Prop := BLs w b L
theorem join_T (tag h b k : Nat) (L : List BL) (w : World) (ys : List Int) (hL : BLt h w b L) (hk : L.length = k) (hys : BLs.all L = ys) (htot : ys.length ≤ 1000000000) (hk2 : k ≤ 1000) :
    RetX Try.prog 94 [.slB h b 0 k k] w [] (BRow tag ys) := by subst hys; exact join_X tag h b k L w hL hk htot hk2
theorem bls_tag {w : World} {b h : Nat} {e : TypeId} {cs : List SV} {L : List BL} (hl : Loc w0 S (denM mem) w) (hf : findB mem h = some (.blk h e b cs)) (hx : dens cs = L.map BL.v) (hL : ∀ r ∈ L, IRow .u8 w r.1 r.2.2.length r.2.2 ∧ (r.1 = none → r.2.1 = 0)) : BLt h w b L :=
  ⟨⟨e, by rw [← hx]; exact hl.holds _ (findB_at hf).mem⟩, hL⟩
theorem irow_at {w : World} {ik : IntKind} {b : Nat} {e : TypeId} {cs : List Value} {zs : List Int} (hl : Loc w0 S (denM mem) w) (hat : At (denM mem) (blk e b cs)) (hx : cs = zs.map (Value.int ik)) : IRow ik w (some ⟨b, 0, none⟩) zs.length zs := by
  subst hx
  exact irow_blk (t := e) (hl.holds _ hat.mem)
theorem irow_tagV {w : World} {ik : IntKind} {h b : Nat} {e : TypeId} {cs : List Value} {zs : List Int} (hl : Loc w0 S (denM mem) w) (hf : findB mem h = some (.blkV h e b cs)) (hx : cs = zs.map (Value.int ik)) : IRow ik w (some ⟨b, 0, none⟩) zs.length zs := by
  subst hx
  exact irow_blk (t := e) (hl.holds _ (findB_at hf).mem)
end
theorem all_nil {p : BL → Prop} : ∀ r ∈ ([] : List BL), p r := fun _ h => nomatch h
theorem all_cons {p : BL → Prop} {r : BL} {L : List BL} (h : p r) (hL : ∀ q ∈ L, p q) : ∀ q ∈ r :: L, p q := by
  intro q hq
  rcases List.mem_cons.1 hq with rfl | hq
  · exact h
  · exact hL q hq
theorem zeros_map (n : Nat) : zeros n (dens [u8 0]) = (List.replicate n (0 : Int)).map (Value.int .u8) := by
  show zeros n [Value.int .u8 0] = _
  rw [zeros_one]
  simp
theorem cut_N (tag : Nat) (h : Nat) (A : Option Addr) (n cp : Nat) (zs : List Int) (m : Nat) (w : World) (hr : IRow .u8 w A n zs) (hn : n ≤ 9223372036854775807) (hm : m ≤ 1000000) :
    RetX Try.prog 55 [.sl h A n cp, i64 m] w [] (BRow tag (zs.take m)) := by
  have := cut_X tag h A n cp zs m w hr hn (by omega)
  rwa [Int.toNat_natCast] at this
/-! numbers -/
def be2 (x : Int) : List Int := [x / 256, x % 256]
def be4 (x : Int) : List Int := [x / 16777216, x / 65536 % 256, x / 256 % 256, x % 256]
/-- The bytes, the highest first, as a number. -/
def val (zs : List Int) : Int := zs.foldl (fun a b => 256 * a + b) 0
end Go.Proofs.Ytjbjnkjilgndmaa
