/- What lies in memory is told otherwise. No program. -/
import Derived.Test.YtihboegopigkmaaDoorGs
namespace Go.Proofs.YtihboegopigkmaaDoor
set_option linter.unusedSimpArgs false
set_option linter.unusedVariables false
set_option linter.unnecessarySimpa false
set_option linter.unusedSectionVars false
open Go.RowKit

section
variable {P : Program} {tab : Tr} {N : FN} {w0 : World} {S : List Nat} {k : Kt} {fs : Fr} {mem mem' : Mem} {c : Code} {e : Exit}
/-- What lies in memory is told otherwise. -/
theorem x_convC (h : ∀ w, Loc w0 S (denM mem) w → Loc w0 S (denM mem') w) (nx : XC P N w0 S k fs mem' c) : XC P N w0 S k fs mem c := ⟨⟨fun a w hk hl => nx.go.go a w hk (h w hl)⟩⟩
theorem x_convL (h : ∀ w, Loc w0 S (denM mem) w → Loc w0 S (denM mem') w) (nx : XLoop P N w0 S k fs mem' c) : XLoop P N w0 S k fs mem c := ⟨⟨fun a w hk hl => nx.go.go a w hk (h w hl)⟩⟩
theorem x_convE (h : ∀ w, Loc w0 S (denM mem) w → Loc w0 S (denM mem') w) (nx : XE P N w0 S k fs mem' e) : XE P N w0 S k fs mem e := ⟨⟨fun a w hk hl => nx.go.go a w hk (h w hl)⟩⟩
theorem x_convR {R : Ending → World → Prop} {v : SV} (h : ∀ w, Loc w0 S (denM mem) w → Loc w0 S (denM mem') w) (nx : XRet w0 S R mem' v) : XRet w0 S R mem v := ⟨fun w hl => nx.go w (h w hl)⟩
theorem x_convO (h : ∀ w, Loc w0 S (denM mem) w → Loc w0 S (denM mem') w) (nx : XOth P N w0 S k fs mem' c) : XOth P N w0 S k fs mem c := ⟨⟨fun a w hk hl => nx.go.go a w hk (h w hl)⟩⟩
end
end Go.Proofs.YtihboegopigkmaaDoor
