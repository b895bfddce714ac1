/- Tags of items may be exchanged. No program. -/
import Derived.Test.YtihboegopigkmaaDoorGs
namespace Go.Proofs.YtihboegopigkmaaDoor
set_option linter.unusedSimpArgs false
set_option linter.unusedVariables false
set_option linter.unnecessarySimpa false
set_option linter.unusedSectionVars false
open Go.RowKit

def MI.setTag (t : Nat) : MI → MI
  | .blk _ a b c => .blk t a b c
  | .blkV _ a b c => .blkV t a b c
  | .row _ a b c d e f => .row t a b c d e f
  | .oth _ i => .oth t i
theorem MI.setTag_itm (t : Nat) (i : MI) : (i.setTag t).itm = i.itm := by cases i <;> rfl
def swapT (a b : Nat) : Mem → Mem
  | [] => []
  | i :: m => (match Nat.beq i.tag a with
    | true => i.setTag b
    | false => match Nat.beq i.tag b with
      | true => i.setTag a
      | false => i) :: swapT a b m
theorem swapT_den (a b : Nat) : ∀ m : Mem, denM (swapT a b m) = denM m
  | [] => rfl
  | i :: m => by
    have := swapT_den a b m
    show MI.itm _ :: denM (swapT a b m) = MI.itm i :: denM m
    rw [this]
    congr 1
    split
    · exact MI.setTag_itm _ _
    · split
      · exact MI.setTag_itm _ _
      · rfl
section
variable {P : Program} {tab : Tr} {N : FN} {w0 : World} {S : List Nat} {k : Kt} {fs : Fr} {mem : Mem} {c : Code}
theorem x_swap (a b : Nat) {ex : Exit} (nx : XE P N w0 S k fs (swapT a b mem) ex) : XE P N w0 S k fs mem ex :=
  ⟨⟨fun a' w hk hl => nx.go.go a' w hk (by rw [swapT_den]; exact hl)⟩⟩
theorem x_swapL (a b : Nat) (nx : XLoop P N w0 S k fs (swapT a b mem) c) : XLoop P N w0 S k fs mem c :=
  ⟨⟨fun a' w hk hl => nx.go.go a' w hk (by rw [swapT_den]; exact hl)⟩⟩
theorem x_swapC (a b : Nat) (nx : XC P N w0 S k fs (swapT a b mem) c) : XC P N w0 S k fs mem c :=
  ⟨⟨fun a' w hk hl => nx.go.go a' w hk (by rw [swapT_den]; exact hl)⟩⟩
end
end Go.Proofs.YtihboegopigkmaaDoor
