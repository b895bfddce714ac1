/- The walk by reckoning, part 8: a region that draws its order, in two halves: what stands last comes behind all else. -/
import Derived.Test.YtpblllkkcpahgaaGfq
namespace Go.Proofs.Ytpblllkkcpahgaa
set_option linter.unusedSimpArgs false
set_option linter.unusedVariables false
set_option linter.unnecessarySimpa false
set_option linter.unusedSectionVars false
open Go.RowKit

section
variable {P : Program} {os1 os2 : List Oper} {mask mask2 : Nat} {A : List Nat}
def down2 (A : List Nat) (m : Nat) : Nat → Bool
  | 0 => true
  | r + 1 => (List.range m).all (fun i => (A.getD (m + r) 0).testBit i) && down2 A m r
def grd1 (os : List Oper) : Bool := os.all fun o => match o.guard with
  | some (g, _) => Nat.blt g os.length
  | none => true
/-- The second half is behind the first one. -/
def reg2 (os1 os2 : List Oper) (sf1 sf2 al : Oper → Bool) (π1 π2 : List Nat) : Bool :=
  regX os1.toArray sf1 al π1 && (regOK (os1 ++ os2).toArray (2 ^ (os1 ++ os2).toArray.size - 1) && (ordOK (os1 ++ os2).toArray sf2 al (ancs (os1 ++ os2).toArray.toList []) π2 (2 ^ os1.length - 1) &&
    (down2 (ancs (os1 ++ os2).toArray.toList []) os1.length os2.length && (grd1 os1 && (Nat.beq π1.length os1.length && Nat.beq π2.length os2.length)))))
end
section
variable {P : Program} {tab : Tr} {N : FN} {w0 : World} {S : List Nat} {mem : Mem} {k : Kt} {fs : Fr}
end
end Go.Proofs.Ytpblllkkcpahgaa
