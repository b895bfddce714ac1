/- A bag of slices of bytes that are one's own and are only read. No program. -/
import Derived.Test.YtjbjnkjilgndmaaBy
namespace Go.Proofs.Ytjbjnkjilgndmaa
set_option linter.unusedSimpArgs false
set_option linter.unusedVariables false
set_option linter.unnecessarySimpa false
set_option linter.unusedSectionVars false
open Go.RowKit

def BL.own (e : TypeId) (r : BL) : Itm := Go.Proofs.Ytjbjnkjilgndmaa.own e 1 (.slice r.1 r.2.2.length r.2.1) r.2.2.length (r.2.2.map (Value.int .u8))
def bag (e : TypeId) (L : List BL) : Itm where
  foot := L.flatMap fun r => (r.own e).foot
  holds w := ∀ r ∈ L, (r.own e).holds w
  loc w w' h hh := fun r hr => (r.own e).loc w w' (fun k hk => h k (List.mem_flatMap.2 ⟨r, hr, hk⟩)) (hh r hr)
  live w h k hk := by
    obtain ⟨r, hr, hk⟩ := List.mem_flatMap.1 hk
    exact (r.own e).live w (h r hr) k hk
theorem bag_irow {w : World} {e : TypeId} {L : List BL} (h : (bag e L).holds w) {r : BL} (hr : r ∈ L) : IRow .u8 w r.1 r.2.2.length r.2.2 := IRow.of_own (h r hr)
theorem bag_rf {w : World} {e : TypeId} {L : List BL} (h : (bag e L).holds w) {r : BL} (hr : r ∈ L) : RF r.1 r.2.2.length r.2.1 := rf_own (h r hr)
section
variable {P : Program} {tab : Tr} {N : FN} {w0 : World} {S : List Nat} {k : Kt} {fs : Fr} {mem mem' : Mem} {c : Code} {e : Exit}
/-- What lies in memory is told otherwise. -/
theorem x_convC (h : ∀ w, Loc w0 S (denM mem) w → Loc w0 S (denM mem') w) (nx : XC P N w0 S k fs mem' c) : XC P N w0 S k fs mem c := ⟨⟨fun a w hk hl => nx.go.go a w hk (h w hl)⟩⟩
theorem x_convL (h : ∀ w, Loc w0 S (denM mem) w → Loc w0 S (denM mem') w) (nx : XLoop P N w0 S k fs mem' c) : XLoop P N w0 S k fs mem c := ⟨⟨fun a w hk hl => nx.go.go a w hk (h w hl)⟩⟩
theorem x_convE (h : ∀ w, Loc w0 S (denM mem) w → Loc w0 S (denM mem') w) (nx : XE P N w0 S k fs mem' e) : XE P N w0 S k fs mem e := ⟨⟨fun a w hk hl => nx.go.go a w hk (h w hl)⟩⟩
theorem x_convR {R : Ending → World → Prop} {v : SV} (h : ∀ w, Loc w0 S (denM mem) w → Loc w0 S (denM mem') w) (nx : XRet w0 S R mem' v) : XRet w0 S R mem v := ⟨fun w hl => nx.go w (h w hl)⟩
end
section
variable {w0 w : World} {S : List Nat} {is : List Itm} {mem m1 m2 : Mem}
theorem Loc.conv2 {i i' : Itm} (h : Loc w0 S (i :: is) w) (hf : ∀ k ∈ i'.foot, k ∈ i.foot) (hh : i.holds w → i'.holds w) : Loc w0 S (i' :: is) w := by
  refine ⟨h.os, h.tape, h.output, h.size, h.same, fun j hj => ?_, fun j hj k hk => ?_, ?_⟩
  · rcases List.mem_cons.1 hj with rfl | hj
    · exact hh (h.holds i (.head _))
    · exact h.holds j (.tail _ hj)
  · rcases List.mem_cons.1 hj with rfl | hj
    · exact h.owned i (.head _) k (hf k hk)
    · exact h.owned j (.tail _ hj) k hk
  · have := List.pairwise_cons.1 h.disj
    exact List.pairwise_cons.2 ⟨fun j hj k hk => this.1 j hj k (hf k hk), this.2⟩
theorem Loc.join2 {i j k : Itm} (h : Loc w0 S (i :: j :: is) w) (hf : ∀ b ∈ k.foot, b ∈ i.foot ∨ b ∈ j.foot) (hh : i.holds w → j.holds w → k.holds w) : Loc w0 S (k :: is) w := by
  have hd := List.pairwise_cons.1 h.disj
  have hd2 := List.pairwise_cons.1 hd.2
  refine ⟨h.os, h.tape, h.output, h.size, h.same, fun x hx => ?_, fun x hx b hb => ?_, ?_⟩
  · rcases List.mem_cons.1 hx with rfl | hx
    · exact hh (h.holds i (.head _)) (h.holds j (.tail _ (.head _)))
    · exact h.holds x (.tail _ (.tail _ hx))
  · rcases List.mem_cons.1 hx with rfl | hx
    · rcases hf b hb with hb | hb
      · exact h.owned i (.head _) b hb
      · exact h.owned j (.tail _ (.head _)) b hb
    · exact h.owned x (.tail _ (.tail _ hx)) b hb
  · refine List.pairwise_cons.2 ⟨fun x hx b hb => ?_, hd2.2⟩
    rcases hf b hb with hb | hb
    · exact hd.1 x (.tail _ hx) b hb
    · exact hd2.1 x hx b hb
theorem bag_nil {e : TypeId} {h : Nat} : ∀ w, Loc w0 S (denM mem) w → Loc w0 S (denM (.oth h (bag e []) :: mem)) w := fun w hl => hl.free (bag e []) rfl (fun r hr => nomatch hr)
/-- A row of one's own is put into the bag. -/
theorem bag_put {e : TypeId} {hr hb n c : Nat} {A : Option Addr} {zs : List Int} {L : List BL} (h1 : takeB mem hr = some (.row hr e 1 A n c (zs.map (Value.int .u8)), m1)) (h2 : takeB m1 hb = some (.oth hb (bag e L), m2)) (hz : zs.length = n) :
    ∀ w, Loc w0 S (denM mem) w → Loc w0 S (denM (.oth hb (bag e (L ++ [(A, c, zs)])) :: m2)) w := fun w hl => by
  subst hz
  have p1 := (takeB_perm h1).map MI.itm
  have p2 := (takeB_perm h2).map MI.itm
  rw [← denM_map, ← denM_map] at p1 p2
  have hl := hl.perm (p1.trans (.cons _ p2))
  refine Loc.join2 hl (fun b hb => ?_) (fun ha hL r hr => ?_)
  · obtain ⟨r, hr, hb⟩ := List.mem_flatMap.1 hb
    rcases List.mem_append.1 hr with hr | hr
    · exact .inr (List.mem_flatMap.2 ⟨r, hr, hb⟩)
    · cases List.mem_singleton.1 hr; exact .inl hb
  · rcases List.mem_append.1 hr with hr | hr
    · exact hL r hr
    · cases List.mem_singleton.1 hr; exact ha
/-- Some of a bag. -/
theorem bag_less {e : TypeId} {hb : Nat} {L L' : List BL} (h2 : takeB mem hb = some (.oth hb (bag e L), m2)) (hs : ∀ r ∈ L', r ∈ L) :
    ∀ w, Loc w0 S (denM mem) w → Loc w0 S (denM (.oth hb (bag e L') :: m2)) w := fun w hl => by
  have p2 := (takeB_perm h2).map MI.itm
  rw [← denM_map, ← denM_map] at p2
  refine (hl.perm p2).conv2 (fun k hk => ?_) (fun h r hr => h r (hs r hr))
  obtain ⟨r, hr, hk⟩ := List.mem_flatMap.1 hk
  exact List.mem_flatMap.2 ⟨r, hs r hr, hk⟩
end
end Go.Proofs.Ytjbjnkjilgndmaa
