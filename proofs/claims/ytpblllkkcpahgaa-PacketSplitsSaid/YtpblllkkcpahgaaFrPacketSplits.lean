/- The statement of the law PacketSplits: the row's frame round the walk; no condition. -/
import Derived.Test.YtpblllkkcpahgaaRows
import Derived.Test.YtpblllkkcpahgaaFrm
import Derived.Test.YtpblllkkcpahgaaFt
import Derived.Test.YtpblllkkcpahgaaDp
import Derived.Test.YtpblllkkcpahgaaLt
namespace Go.Proofs.Ytpblllkkcpahgaa.packetSplits
open Go.ChangeShapes Go.WideShapes Go.ChangeAt Go.RowKit
set_option linter.unusedVariables false

set_option maxRecDepth 100000
theorem dl_4 : DLp Try.prog 4 [.b] := dlp_bool (by kernel_rfl) (by kernel_rfl)
theorem dl_26 : DLp Try.prog 26 [.i .u16] := dlp_int (by kernel_rfl) (by kernel_rfl)
theorem dl_5 : DLp Try.prog 5 [.i .u8] := dlp_int (by kernel_rfl) (by kernel_rfl)
theorem dl_22 : DLp Try.prog 22 [.s [.i .u8]] := dlp_slice (by kernel_rfl) dl_5 (by decide) (by kernel_rfl)
theorem dl_48 : DLp Try.prog 48 [.b, .i .u16, .i .u16, .s [.i .u8]] := dlp_struct (L := [(true, 0, 4), (true, 1, 26), (true, 2, 26), (true, 3, 22)]) (by kernel_rfl) (.cons dl_4 rfl rfl (.cons dl_26 rfl rfl (.cons dl_26 rfl rfl (.cons dl_22 rfl rfl (.nil))))) (by kernel_rfl)
theorem dl_56 : DLp Try.prog 56 [.s [.b, .i .u16, .i .u16, .s [.i .u8]]] := dlp_slice (by kernel_rfl) dl_48 (by decide) (by kernel_rfl)

theorem own : ownKnob Try.prog.godebug = none := by kernel_rfl
theorem laidOut : laidOutB Try.prog = true := by kernel_rfl

set_option maxRecDepth 100000 in
theorem lifted (os : Os) (started : os.Started) (H : Type) (enc : TypeId × Value → H) :
    ReturnsInHanded {} Try.checked os 6 .any (Rows.packetSplitsSpec.pre6 enc Try.prog Try.f6 Rows.packetSplitsRow.domain false) (Rows.packetSplitsSpec.post enc Try.prog Try.f6 false true false false) := by
  refine returnsInHanded_of_change (C := Try.checked) own started (by kernel_rfl) Try.func6
    (ChangeSpec.witness6 (enc := enc) (C := Try.checked) false ⟨#[], #[.slice none 0 0, .slice none 0 0], []⟩ 8 (by kernel_rfl) (by kernel_rfl) (by kernel_rfl) (by kernel_rfl)) ?_
  intro W base args ds gs before hval0 hW hcnd _
  have hval : ∀ (j : Nat) t v, Try.f6.params[j]? = some t → args[j]? = some v → Value.okWide Try.prog W .any base t v := hval0
  have hW' := hW
  obtain ⟨p, q, hA0, hV, rfl, hfz, hnd⟩ := hW
  have hA : DataW.TrodAll enc Try.prog W 0 (fun _ => true) true Try.f6.params.toList args.toList ds p := hA0
  rw [Try.params6] at hA hval
  obtain ⟨v0, vs0, d0, ds0, p0, q0, hargs, rfl, rfl, h0, r0⟩ := trodAll_cons hA
  obtain ⟨v1, vs1, d1, ds1, p1, q1, rfl, rfl, rfl, h1, r1⟩ := trodAll_cons r0
  obtain ⟨rfl, rfl, rfl⟩ := trodAll_nil r1
  obtain rfl : args = #[v0, v1] := by cases args; simp_all
  obtain ⟨rfl, rfl⟩ := trodVars_none hV
  have k0 := h0
  have lt0 : ∀ x ∈ p0, x.block < W.heap.size := by obtain ⟨m, hm⟩ := k0; exact DataW.trod_lt m _ _ _ hm
  have dk0 := open_deepS (e := 48) dl_56 (by kernel_rfl) (hval 0 56 v0 rfl rfl) h0
  have k1 := h1
  have lt1 : ∀ x ∈ p1, x.block < W.heap.size := by obtain ⟨m, hm⟩ := k1; exact DataW.trod_lt m _ _ _ hm
  obtain ⟨a1, len1, cap1, z1, rfl, ir1, le1, mx1, wz1, nl1⟩ := open_irow Try.underlying22 Try.underlying5 (by kernel_rfl) (hval 1 22 v1 rfl rfl) h1
  clear hA0 hval0
  refine (packetSplits_walk v0 a1 len1 cap1 z1 W dk0 ir1 le1 mx1 (fun z hz => inR_wf (wz1 z hz)) nl1).mono fun e W' ⟨he, bel⟩ => ?_
  subst he
  exact ⟨_, rfl, _, _, _, [], _, [], hW', trodAll_mk1 (shut_bool Try.underlying4 _), (trodAll_cons_mk (Below.trod laidOut (by kernel_rfl) (of_decide_eq_true (by kernel_rfl)) k0 bel lt0) (trodAll_cons_mk (Below.trod laidOut (by kernel_rfl) (of_decide_eq_true (by kernel_rfl)) k1 bel lt1) trodAll_mk0)), rfl, bel.frame _, fun h => by cases h⟩

theorem over : Rows.packetSplitsRow.holds Try.pinned (OpenSpec.ofChange Rows.packetSplitsSpec) :=
  OpenClaim.holds_of_wide 6 Try.f6 rfl rfl rfl rfl rfl rfl rfl ⟨rfl, rfl, rfl, rfl, rfl⟩ rfl rfl rfl rfl rfl (by kernel_rfl) Try.func6 (by kernel_rfl)
    (of_decide_eq_true (by kernel_rfl)) (by unfold Func.isWrapper; first | (rw [if_pos (by decide +kernel)]; kernel_rfl) | (rw [if_neg (by decide +kernel)]; exact ⟨rfl, rfl⟩))
    (fun os started H enc _ => lifted os started H enc)

theorem proved : Rows.PacketSplitsSaid := over
#print axioms proved
end Go.Proofs.Ytpblllkkcpahgaa.packetSplits
