/- Strap: what is laid, as the laws use it. -/
import Derived.Test.YtihboegopigkmaaDoorHj
namespace Go.Proofs.YtihboegopigkmaaDoor
set_option linter.unusedSimpArgs false
set_option linter.unusedVariables false
set_option linter.unnecessarySimpa false
set_option maxRecDepth 100000
set_option maxHeartbeats 4000000
open Go.RowKit

/-! What is laid, as the laws use it. -/
def AllR3 (tag k : Nat) (P : List (List Nat)) (sv : SV) (mi : Mem) : Prop := ∃ A c, sv = .sl tag A k c ∧ mi = [.row tag 23 6 A k c (valsP P)] ∧ RF A k c
theorem all_E (tag : Nat) (M : HM) (P : List (List Nat)) (k q : Nat) (A : Option Addr) (n c bad : Nat) (w : World) (hP : M.ext bad n 0 0 = P) (hk : P.length = k) (hM : M.ok) (hb : bad < 65536) (hx : XRw w A n fun i => uI (M.R.getD i 0)) (hn : n ≤ 6) :
    RetX Tryd.prog 42 [mapSV q A n c M.L, setV bad] w [] (AllR3 tag k P) := by subst hP hk; exact all2_X tag M q A n c bad w hM hb hx hn
theorem srch_E (M : HM) (r : Option (List Nat)) (h : Nat) (A : Option Addr) (n c bad : Nat) (w : World) (h1 : (M.ext bad n 0 0).head? = r) (ht : Tz w) (hM : M.ok) (hb : bad < 65536) (hr : RRw w A n M.R) (hn : n ≤ 6) :
    RetS Tryd.prog 62 [mapSV h A n c M.L, setV bad] w (nearR r) := by subst h1; rw [← near_none M bad n hn]; exact search_S M h A n c bad w ht hM hb hr hn
theorem right_L (M : HM) (q : Nat) (A : Option Addr) (n c : Nat) (w : World) (hM : M.ok) (hr : RRw w A n M.R) (hn : n ≤ 6) (ha : apart M.R n) :
    RetS Tryd.prog 61 [mapSV q A n c M.L] w (.lit true) := ⟨by
  have h := (right_T M q A n c w hM hr (by omega) ha).go
  have e : (SV.boo (decide (n ≤ 6))).den = (SV.lit true).den := by rw [decide_eq_true hn]; rfl
  rwa [e] at h⟩
theorem adm_E (M : HM) (r : Bool) (q : Nat) (A : Option Addr) (n c bad : Nat) (f : Nat → Int) (w : World) (h1 : admB M bad n f 6 = r) (hM : M.ok) (hb : bad < 65536) (hr : RRw w A n M.R) (hn : n ≤ 6) (hf : ∀ i, I8 (f i)) :
    RetS Tryd.prog 45 [mapSV q A n c M.L, chSV f, setV bad] w (.lit r) := by subst h1; exact admits_S M q A n c bad f w hM hb hr hn hf
theorem and_E (s t k : Nat) (w : World) (h : s &&& t = k) (hs : s < 65536) (ht : t < 65536) : RetS Tryd.prog 20 [setV s, setV t] w (setV k) := by subst h; exact and_S s t w hs ht
section
variable {w0 w : World} {S : List Nat} {mem : Mem}
theorem xrw_lay {e : TypeId} {A : Option Addr} {n c : Nat} {Ls : List JL} {R : List Nat} (hl : Loc w0 S (denM mem) w) (hat : At (denM mem) (own e 1 (.slice A n c) n (Ls.map JL.v))) (hb : At (denM mem) (bagJ Ls)) (hLs : Ls.map (·.2.2) = R.map uI) (hn : R.length = n) : XRw w A n fun i => uI (R.getD i 0) := by
  have hlen : Ls.length = n := by rw [← hn]; have := congrArg List.length hLs; rwa [List.length_map, List.length_map] at this
  refine xrw_of hl hat hb hlen fun j hj => ?_
  have h := congrArg (fun l => l[j]?) hLs
  simp only [List.getElem?_map] at h
  rw [List.getElem?_eq_getElem (by omega), List.getElem?_eq_getElem (by omega)] at h
  simp only [Option.map_some, Option.some.injEq] at h
  rw [List.getD_eq_getElem?_getD, List.getElem?_eq_getElem (by omega), List.getD_eq_getElem?_getD, List.getElem?_eq_getElem (by omega)]
  exact h
end
def mapOf (rs : List Nat) (L : Nat → Nat) (m : Nat) : HM := ⟨lays rs m, L⟩
theorem mapOf_ok {rs : List Nat} {L : Nat → Nat} (m : Nat) (hrs : ∀ r ∈ rs, r < 65536) (hL : ∀ j, L j < 65536) : (mapOf rs L m).ok := ⟨fun r hr => lays_lt (getD_lt hrs) m r hr, hL⟩
theorem lay_E (M : HM) (rs : List Nat) (h : Nat) (A : Option Addr) (n c m : Nat) (w : World) (hM : mapOf rs M.L m = M) (hr : RRw w A n rs) (hrs : ∀ r ∈ rs, r < 65536) (hm : min n 6 = m) (hle : n ≤ c) (hc : c ≤ 9223372036854775807) :
    RetX Tryd.prog 41 [.sl h A n c, .agg (linkV M.L)] w [] (LayR 91 92 93 m M.R M.L) := by
  have e : M.R = lays rs m := by rw [← hM]; rfl
  rw [e]
  exact lay_X 91 92 93 rs M.L h A n c m w hr hrs hm hle hc
theorem chF_eqs (f : Nat → Int) : cellEq (chF f) (chF f) := by simp [cellEq, chF]
theorem mlen {c : Nat} (h : c ≤ maxLen) : c ≤ 9223372036854775807 := Nat.le_trans h (by decide)
end Go.Proofs.YtihboegopigkmaaDoor
