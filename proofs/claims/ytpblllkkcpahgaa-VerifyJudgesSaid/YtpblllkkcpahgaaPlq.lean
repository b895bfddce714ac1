/- Layer 9 (packet): Same, Next; the statements' helpers; PacketSame. -/
import Derived.Test.YtpblllkkcpahgaaPxq
import Derived.Test.YtpblllkkcpahgaaDpq
import Derived.Laws.BytesArg
namespace Go.Proofs.Ytpblllkkcpahgaa
set_option linter.unusedSimpArgs false
set_option linter.unusedVariables false
set_option linter.unnecessarySimpa false
set_option maxRecDepth 100000
open Go.RowKit

def pktEq (c1 : Bool) (a1 n1 : Int) (xs : List Int) (c2 : Bool) (a2 n2 : Int) (ys : List Int) : Bool := (c1 == c2) && decide (a1 = a2) && decide (n1 = n2) && decide (xs = ys)
/-- A packet, as a result. -/
def KRes (tag : Nat) (cmd : Bool) (apid count : Int) (zs : List Int) (v : SV) (mi : Mem) : Prop :=
  ∃ A c, v = .agg [.boo cmd, u16 apid, u16 count, .sl tag A zs.length c] ∧ mi = [.row tag 5 1 A zs.length c (zs.map (Value.int .u8))] ∧ RF A zs.length c
/-! the example -/
theorem same_E (h h' : Nat) (A A' : Option Addr) (n cp n' cp' : Nat) (xs : List Int) (w : World) (hr : IRow .u8 w A n xs) (hr' : IRow .u8 w A' n' xs) (hn : n ≤ 9223372036854775807) (hn' : n' ≤ 9223372036854775807) :
    RetS Try.prog 24 [.sl h A n cp, .sl h' A' n' cp'] w (.lit true) := by
  have := same_S h h' A A' n cp n' cp' xs xs w hr hr' hn hn'
  rw [decide_eq_true rfl] at this
  exact ⟨this.go⟩
theorem pktB_ok {cmd : Bool} {apid count : Int} {zs : List Int} (h : pktE apid count zs = 0) : pktB cmd apid count zs = summed (pktH cmd apid count zs) ∧ apid < 2048 ∧ count < 16384 ∧ zs.length ≤ 200 := by
  unfold pktE at h
  unfold pktB
  by_cases h1 : 2047 < apid ∨ 16383 < count
  · rw [if_pos h1] at h; omega
  · rw [if_neg h1] at h ⊢
    by_cases h2 : 200 < zs.length
    · rw [if_pos h2] at h; omega
    · rw [if_neg h2]
      exact ⟨rfl, by omega, by omega, by omega⟩
end Go.Proofs.Ytpblllkkcpahgaa
