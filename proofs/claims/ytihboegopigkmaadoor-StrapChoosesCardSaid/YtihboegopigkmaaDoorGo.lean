/- A drawn region in two halves; what the first half writes is told by tags. No program. -/
import Derived.Test.YtihboegopigkmaaDoorGw
namespace Go.Proofs.YtihboegopigkmaaDoor
set_option linter.unusedSimpArgs false
set_option linter.unusedVariables false
set_option linter.unnecessarySimpa false
set_option linter.unusedSectionVars false
open Go.RowKit

section
variable {P : Program} {tab : Tr} {N : FN} {w0 : World} {S : List Nat} {k : Kt} {fs : Fr} {mem : Mem}
theorem x_drw2G (ht : tab.ok P) {id : Nat} {os : List Oper} (m : Nat) (hard1 hs π1 hard2 ds2 π2 : List Nat) {km : Mem} (hm : P.follows .mixedOrders = true) (hB : reg2 (os.take m) (os.drop m) (sfOf hard1) (sfOf hard2) alOf π1 π2 = true) (hks : remG hs mem = km)
    (h : xs P tab N w0 S km ((os.take m).map (·.dst)) (sfOf hard1) (fun fs' mem' => match remX fs' ds2 mem' with
      | some km2 => xs P tab N w0 S km2 (os.map (·.dst)) (sfOf hard2) (xe P tab N w0 S k .normal) (pickL os π2) fs' mem'
      | none => False) (pickL (os.take m) π1) fs mem) : XDrw P N w0 S id os.toArray k fs mem :=
  ⟨⟨fun a w hk hl => by
    have e : os.take m ++ os.drop m = os := List.take_append_drop m os
    have key := wp_region_2 (P := P) (r := N.r) (id := id) (Q := k.sem P N.r) (a := a) (w := w) (os1 := os.take m) (os2 := os.drop m) (sfOf hard1) (sfOf hard2) alOf π1 π2 (loc_class w0 S (denM km)) hm hB (hl.drew.sub (denM_sub (hks ▸ remG_sub)))
    rw [e] at key
    refine key ?_
    refine (xs_ok ht (fun fs' mem' h' a' w' hk' hl' => ?_) _ fs mem (hks ▸ remG_sub) h).go [] a w.drew hk hl.drew (hl.drew.sub (denM_sub (hks ▸ remG_sub)))
    split at h'
    · rename_i km2 hk2
      refine ⟨_, loc_class w0 S (denM km2), hl'.sub (denM_sub (remX_sub hk2)), ?_⟩
      exact (xs_ok ht (fun fs mem h a w hk hl => (xe_ok ht h).go a w hk hl) _ fs' mem' (remX_sub hk2) h').go [] a' w' hk' hl' (hl'.sub (denM_sub (remX_sub hk2)))
    · exact h'.elim⟩⟩
end
end Go.Proofs.YtihboegopigkmaaDoor
