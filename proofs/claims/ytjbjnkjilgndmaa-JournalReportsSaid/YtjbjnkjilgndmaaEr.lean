/- Journals: what a journal holds behind many notes. -/
import Derived.Test.YtjbjnkjilgndmaaEm
import Derived.Test.YtjbjnkjilgndmaaGy
import Derived.Test.YtjbjnkjilgndmaaFl
namespace Go.Proofs.Ytjbjnkjilgndmaa.RE
set_option linter.unusedSimpArgs false
set_option linter.unusedVariables false
set_option linter.unnecessarySimpa false
set_option maxRecDepth 100000
set_option maxHeartbeats 4000000
open Go.RowKit

theorem valsE_sub {l : List En} {i : Nat} (h : i < l.length) : ((valsE l).drop (i * 5)).take 5 = dens (l.getD i e0).svs := by
  have h1 := valsE_get h
  have h2 := valsE_len l
  unfold rdv at h1
  rw [if_pos (by omega)] at h1
  simp only [if_true, Option.some.injEq] at h1
  have h3 := congrArg (fun v => match v with | Value.agg a => a.toList | _ => []) h1
  exact h3
/-- The ring that holds the last of what was noted. -/
def JN (k : Nat) (l : List En) : Rg := (pushN (rgNew k) l).1
theorem JN_nil (k : Nat) : JN k [] = rgNew k := rfl
theorem JN_snoc (k : Nat) (l : List En) (x : En) : (pushF (JN k l, 0) x).1 = JN k (l ++ [x]) := by
  unfold JN pushN
  rw [List.foldl_append]
  show _ = (pushF (l.foldl pushF (rgNew k, 0)) x).1
  unfold pushF
  split <;> rfl
structure JNF (k : Nat) (l : List En) : Prop where
  ok : (JN k l).ok
  m : (JN k l).m = k
  list : (JN k l).list = lastN k l
  lo : (JN k l).lo = min (l.length - k) 65535
  n : (JN k l).n = min k l.length
theorem JN_f {k : Nat} (hk : 1 ≤ k ∧ k ≤ 16) (l : List En) : JNF k l := by
  have h0 := rgNew_ok (n := k) (by omega)
  have h1 := pushN_ok h0 l
  have h2 := pushN_list h0 rfl l
  have hm : (rgNew k).m = k := rfl
  have hlo : (rgNew k).lo = 0 := rfl
  rw [hm] at h1 h2
  rw [hlo] at h2
  refine ⟨h1.1, h1.2, h2.1, ?_, ?_⟩
  · have := h2.2.2.1; unfold JN; omega
  · have := (JN k l).list_len
    rw [show (JN k l).list = lastN k l from h2.1, lastN_len] at this
    omega
def En.ok (x : En) : Prop := (0 ≤ x.q ∧ x.q ≤ 4294967295) ∧ (0 ≤ x.t ∧ x.t ≤ 4294967295) ∧ (0 ≤ x.e ∧ x.e ≤ 255) ∧ (0 ≤ x.g ∧ x.g ≤ 255) ∧ (0 ≤ x.d ∧ x.d ≤ 4294967295)
theorem en_of {cs : List Value} (h : skB [.i .u32, .i .u32, .i .u8, .i .u8, .i .u32] cs = true) (hw : wfC cs) : ∃ x : En, cs = dens x.svs ∧ x.ok := by
  obtain ⟨a, _, rfl, ha, h, hw⟩ := sk_i h hw
  obtain ⟨b, _, rfl, hb, h, hw⟩ := sk_i h hw
  obtain ⟨c, _, rfl, hc, h, hw⟩ := sk_i h hw
  obtain ⟨d, _, rfl, hd, h, hw⟩ := sk_i h hw
  obtain ⟨e, _, rfl, he, h, hw⟩ := sk_i h hw
  obtain rfl := sk_nil h
  simp only [inR] at ha hb hc hd he
  exact ⟨⟨a, b, c, d, e⟩, rfl, by simp only [En.ok]; omega⟩
end Go.Proofs.Ytjbjnkjilgndmaa.RE
