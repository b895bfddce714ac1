/- The walk by reckoning, part 3: the reckoning tells the truth. -/
import Derived.Test.YtihboegopigkmaaDoorGb
namespace Go.Proofs.YtihboegopigkmaaDoor
set_option linter.unusedSimpArgs false
set_option linter.unusedVariables false
set_option linter.unnecessarySimpa false
set_option linter.unusedSectionVars false
open Go.RowKit

theorem ptrOf_den {v : SV} {p : Addr} (h : ptrOf v = some p) : v.den = .pointer (some p) := by
  unfold ptrOf at h
  split at h
  · injection h with h; subst h; rfl
  · injection h with h; subst h; rfl
  · split at h
    · injection h with h; subst h; rfl
    · cases h
  · cases h
section
variable {P : Program} {tab : Tr} {N : FN} {w0 : World} {S : List Nat} {km : Mem}
variable {T : List (Option Tmp)} {sf al : Oper → Bool} {K : Act → World → Prop} {rest : List Oper} [AlC al]
variable {fs : Fr} {mem : Mem} {k : Fr → Mem → Prop}

theorem denF_push (d : Option Tmp) (v : SV) (fs : Fr) : denF (pushX d v fs) = pushd d v.den (denF fs) := by cases d <;> rfl
theorem xput_ok {dst : Option Tmp} {v : SV} (h : xput N dst v fs mem k) : dOK N dst = true ∧ k (pushX dst v fs) mem := by
  unfold xput at h
  cases dst with
  | none => exact ⟨rfl, h⟩
  | some d =>
    simp only at h
    split at h
    · rename_i h1; exact ⟨h1, h⟩
    · exact h.elim

variable (hk : ∀ fs' mem', km.Sublist mem' → k fs' mem' → GS P T sf al (denM km) K N w0 S (denF fs') (denM mem') rest) (hs : km.Sublist mem)
include hk hs
theorem pure_ok {o : Oper} (hg : o.guard = none) (hal : alOf o = false) (v : SV)
    (hrun : ∀ a w, Kn N (denF fs) a → Loc w0 S (denM km) w → (sf o = true ∨ Loc w0 S (denM mem) w) → (execOp a.eval o).run P w = .ok (.value v.den) w) (h : xput N o.dst v fs mem k) :
    GS P T sf al (denM km) K N w0 S (denF fs) (denM mem) (o :: rest) := by
  obtain ⟨h1, h2⟩ := xput_ok h
  exact s_val hg h1 hrun (by rw [← denF_push]; exact hk _ _ hs h2) hal
theorem pureV_ok {o : Oper} (hg : o.guard = none) (hal : alOf o = false) {X : SV → Prop} {b : Bool} (hb : sf o = b) (h : LVal P N w0 S km b o fs mem X) (hX : ∀ v, X v → xput N o.dst v fs mem k) :
    GS P T sf al (denM km) K N w0 S (denF fs) (denM mem) (o :: rest) := by
  subst hb
  obtain ⟨v, h1, h2⟩ := h.go
  exact pure_ok hk hs hg hal v h1 (hX v h2)
theorem eff_ok {o : Oper} (hg : o.guard = none) (hal : alOf o = false) (hsf : sf o = false) {X : SV → Mem → Prop} (h : LEff P N w0 S km o fs mem X) (hd : dOK N o.dst = true) (hX : ∀ v m, X v m → k (pushX o.dst v fs) m) :
    GS P T sf al (denM km) K N w0 S (denF fs) (denM mem) (o :: rest) := by
  obtain ⟨V, val, its, h1, h2⟩ := h.go
  exact s_eff (V := V) (val := fun u => (val u).den) (its := fun u => denM (its u)) hg hd hsf h1 (fun u => denM_sub ((h2 u).1 hs)) (fun u => by rw [← denF_push]; exact hk _ _ ((h2 u).1 hs) (hX _ _ (h2 u).2)) hal
theorem xany_ok {o : Oper} (hg : o.guard = none) {b : Bool} (hb : b = sf o) (h : xany P N w0 S km b o fs mem k) : GS P T sf al (denM km) K N w0 S (denF fs) (denM mem) (o :: rest) := by
  subst hb
  unfold xany at h
  split at h
  · exact h.elim
  · rename_i hal
    split at h
    · rename_i d hd
      split at h
      · rename_i hN
        split at h
        · rename_i hsf
          refine pureV_ok hk hs hg hal rfl h (fun v hv => ?_)
          simp only [xput, hd, hN]; exact hv
        · rename_i hsf
          refine eff_ok hk hs hg hal hsf h (by rw [hd]; exact hN) (fun v m hv => ?_)
          rw [hd]; exact hv
      · exact h.elim
    · rename_i hd
      split at h
      · rename_i hsf
        refine pureV_ok hk hs hg hal rfl h (fun v hv => ?_)
        simp only [xput, hd]; exact hv
      · rename_i hsf
        refine eff_ok hk hs hg hal hsf h (by rw [hd]; rfl) (fun v m hv => ?_)
        rw [hd]; exact hv

variable {d : Tmp} {ty : TypeId} {pos : String} {aft : Array Edge} {x y : Operand} {dst : Option Tmp}
theorem xmove_ok (h : xmove N ⟨dst, .move x, ty, pos, aft, none⟩ x fs mem k) : GS P T sf al (denM km) K N w0 S (denF fs) (denM mem) (⟨dst, .move x, ty, pos, aft, none⟩ :: rest) := by
  unfold xmove at h
  split at h
  · exact h.elim
  · rename_i v hv
    split at h
    · exact h.elim
    · rename_i d hd
      simp only at hd; subst hd
      split at h
      · exact h.elim
      · rename_i hN
        exact s_move (opx_some hv) hN (hk _ _ hs h)
theorem xassign_ok (h : xmove N ⟨dst, .assign x, ty, pos, aft, none⟩ x fs mem k) : GS P T sf al (denM km) K N w0 S (denF fs) (denM mem) (⟨dst, .assign x, ty, pos, aft, none⟩ :: rest) := by
  unfold xmove at h
  split at h
  · exact h.elim
  · rename_i v hv
    split at h
    · exact h.elim
    · rename_i d hd
      simp only at hd; subst hd
      split at h
      · exact h.elim
      · rename_i hN
        exact s_assign (opx_some hv) hN (hk _ _ hs h)
theorem lload_ok {t : TypeId} {p : Addr} {v : SV} {sfb : Bool} (hsf : sfb = sf ⟨dst, .load t x, ty, pos, aft, none⟩) (hv : opx fs x = some v) (hp : v.den = .pointer (some p)) (h : LLoad P w0 S km t p sfb mem fun v => xput N dst v fs mem k) :
    GS P T sf al (denM km) K N w0 S (denF fs) (denM mem) (⟨dst, .load t x, ty, pos, aft, none⟩ :: rest) := by
  subst hsf
  obtain ⟨u, h1, h2⟩ := h.go
  refine pure_ok hk hs rfl rfl u (fun a w hka hl hm => ?_) h2
  have := h1 w hl hm
  simp [execOp, hka.eval (opx_some hv), hp, Instr.loadAt, Instr.sureAddr, this]
theorem xload_ok (ht : tab.ok P) {t : TypeId} {sfb : Bool} (hsf : sfb = sf ⟨dst, .load t x, ty, pos, aft, none⟩) (h : xload P tab N w0 S km sfb ⟨dst, .load t x, ty, pos, aft, none⟩ t x fs mem k) :
    GS P T sf al (denM km) K N w0 S (denF fs) (denM mem) (⟨dst, .load t x, ty, pos, aft, none⟩ :: rest) := by
  unfold xload at h
  split at h
  · exact h.elim
  · rename_i v hv
    split at h
    · rename_i hh b off
      split at h
      · rename_i i hi
        split at h
        · rename_i h' e b' cs
          split at h
          · rename_i ti hti
            split at h
            · rename_i v hrd
              obtain ⟨rfl, h⟩ := h
              have F := Tr.get_ok ht hti
              haveI := F.tl
              refine pure_ok hk hs rfl rfl v (fun a w hka hl hm => ?_) h
              have hat := findB_at hi
              have hw : (blk e b (dens cs)).holds w := by
                subst hsf
                cases hb : sf (⟨dst, .load t x, ty, pos, aft, none⟩ : Oper) with
                | true => rw [hb] at hat; exact hl.holds _ hat.mem
                | false =>
                  rw [hb] at hat hm
                  rcases hm with hm | hm
                  · cases hm
                  · exact hm.holds _ hat.mem
              have := run_loadVar_blk (P := P) (t := t) hw (rdX_some hrd)
              simp [execOp, hka.eval (opx_some hv), SV.den, Instr.loadAt, Instr.sureAddr, this]
            · exact h.elim
          · exact h.elim
        · exact lload_ok hk hs hsf hv rfl h
      · exact lload_ok hk hs hsf hv rfl h
    · split at h
      · rename_i p hp
        exact lload_ok hk hs hsf hv (ptrOf_den hp) h
      · exact xany_ok hk hs rfl hsf h
theorem xstore_ok (ht : tab.ok P) {t : TypeId} {sfb : Bool} (hsf : sfb = sf ⟨dst, .store t x y, ty, pos, aft, none⟩) (h : xstore P tab N w0 S km sfb ⟨dst, .store t x y, ty, pos, aft, none⟩ t x y fs mem k) :
    GS P T sf al (denM km) K N w0 S (denF fs) (denM mem) (⟨dst, .store t x y, ty, pos, aft, none⟩ :: rest) := by
  unfold xstore at h
  split at h
  · exact h.elim
  · split at h
    · exact h.elim
    · rename_i hd
      simp only at hd; subst hd
      split at h
      · exact h.elim
      · rename_i xv hx
        split at h
        · exact h.elim
        · rename_i v hy
          split at h
          · rename_i hh b off
            split at h
            · rename_i i hi
              split at h
              · rename_i h' e b' cs
                split at h
                · rename_i ti hti
                  cases hc : cellsO v with
                  | none => rw [hc] at h; exact h.elim
                  | some vs =>
                    rw [hc] at h
                    have hc := cellsO_some hc
                    subst hc
                    simp only at h
                    split at h
                    · rename_i hl
                      split at h
                      · rename_i cs' hcs
                        split at h
                        · rename_i mem' hm
                          split at h
                          · rename_i hn
                            obtain ⟨rfl, h⟩ := h
                            obtain ⟨h1, h⟩ := xones_ok h
                            have F := Tr.get_ok ht hti
                            haveI := F.tl
                            obtain ⟨e1, e2⟩ := (splX_spl hcs).eq
                            refine s_storeV (t := t) (e := e) (b := b) (off := off) (cs := dens cs) (vs := dens (cellsX v)) (cs' := dens cs') (is' := denM mem') (dd := none) (opx_some hx) (opx_some hy) (allOne_cells h1) (by rw [dens_length, lenX_eq hl]) (allOne_den h1) e2 e1 (updB_upd hi hm) hsf.symm (denM_sub (updB_sub hs hn hm)) ?_
                            exact hk _ _ (updB_sub hs hn hm) h
                          · exact h.elim
                        · exact h.elim
                      · exact h.elim
                    · exact h.elim
                · exact h.elim
              · exact xany_ok hk hs rfl hsf h
            · exact xany_ok hk hs rfl hsf h
          · exact xany_ok hk hs rfl hsf h
theorem xalloc_ok (ht : tab.ok P) {t : TypeId} {sfb : Bool} (hsf : sfb = sf ⟨dst, .alloc t, ty, pos, aft, none⟩) (h : xalloc tab N sfb ⟨dst, .alloc t, ty, pos, aft, none⟩ t fs mem k) :
    GS P T sf al (denM km) K N w0 S (denF fs) (denM mem) (⟨dst, .alloc t, ty, pos, aft, none⟩ :: rest) := by
  unfold xalloc at h
  split at h
  · exact h.elim
  · split at h
    · exact h.elim
    · rename_i d hd
      simp only at hd; subst hd
      split at h
      · exact h.elim
      · rename_i ti hti
        split at h
        · exact h.elim
        · rename_i z hz
          split at h
          · exact h.elim
          · rename_i hN
            have F := Tr.get_ok ht hti
            haveI := F.tz z hz
            exact s_alloc hsf.symm (denM_sub hs) hN (fun b => hk _ (.blk d t b z :: mem) (hs.cons _) (h.go b))
theorem xbox_ok {t : TypeId} {sfb : Bool} (hsf : sfb = sf ⟨dst, .box t x, ty, pos, aft, none⟩) (h : xbox N sfb ⟨dst, .box t x, ty, pos, aft, none⟩ t x fs mem k) :
    GS P T sf al (denM km) K N w0 S (denF fs) (denM mem) (⟨dst, .box t x, ty, pos, aft, none⟩ :: rest) := by
  unfold xbox at h
  split at h
  · exact h.elim
  · split at h
    · exact h.elim
    · rename_i d hd
      simp only at hd; subst hd
      split at h
      · exact h.elim
      · rename_i v hv
        split at h
        · exact h.elim
        · rename_i hN
          cases hc : cellsO v with
          | none => rw [hc] at h; exact h.elim
          | some vs =>
          rw [hc] at h
          have hc := cellsO_some hc
          subst hc
          obtain ⟨h1, h⟩ := xones_ok h
          exact s_box (cs := dens (cellsX v)) (opx_some hv) (allOne_cells h1) hsf.symm (denM_sub hs) hN (fun b => hk _ (.blk d t b (cellsX v) :: mem) (hs.cons _) (h.go b))
theorem xfieldAddr_ok (ht : tab.ok P) {t : TypeId} {f : Nat} {sfb : Bool} (hsf : sfb = sf ⟨dst, .fieldAddr t x f, ty, pos, aft, none⟩) (h : xfieldAddr P tab N w0 S km sfb ⟨dst, .fieldAddr t x f, ty, pos, aft, none⟩ t x f fs mem k) :
    GS P T sf al (denM km) K N w0 S (denF fs) (denM mem) (⟨dst, .fieldAddr t x f, ty, pos, aft, none⟩ :: rest) := by
  unfold xfieldAddr at h
  split at h
  · exact h.elim
  · rename_i v hv
    split at h
    · exact h.elim
    · rename_i p hp
      obtain ⟨off, agg, sz⟩ := p
      (try simp only at h)
      split at h
      · exact h.elim
      · rename_i hz
        cases dst with
        | none => exact h.elim
        | some d =>
          (try simp only at h)
          split at h
          · exact h.elim
          · rename_i hN
            obtain ⟨ft, h1, h2⟩ := fldX_ok ht hp
            haveI := h1
            haveI := h2
            split at h
            · exact s_fieldAddr hz (opx_some hv) rfl hN (hk _ _ hs h)
            · exact s_fieldAddr hz (opx_some hv) rfl hN (hk _ _ hs h)
            · exact xany_ok hk hs rfl hsf h
theorem xfield_ok (ht : tab.ok P) {t : TypeId} {f : Nat} {sfb : Bool} (hsf : sfb = sf ⟨dst, .field t x f, ty, pos, aft, none⟩) (h : xfield P tab N w0 S km sfb ⟨dst, .field t x f, ty, pos, aft, none⟩ t x f fs mem k) :
    GS P T sf al (denM km) K N w0 S (denF fs) (denM mem) (⟨dst, .field t x f, ty, pos, aft, none⟩ :: rest) := by
  unfold xfield at h
  split at h
  · exact h.elim
  · rename_i v hv
    split at h
    · exact h.elim
    · rename_i p hp
      obtain ⟨off, agg, sz⟩ := p
      simp only at h
      obtain ⟨ft, h1, h2⟩ := fldX_ok ht hp
      split at h
      · rename_i cs
        split at h
        · rename_i u hu
          refine pure_ok hk hs rfl rfl u (fun a w hka hl hm => ?_) h
          obtain ⟨fl, z, hu', hz', ho, ht'⟩ := h1.run
          subst ho
          have hp := run_part (P := P) (t := ft) (rdX_some hu) w
          rw [← ht'] at hp
          simp [execOp, hka.eval (opx_some hv), SV.den, Instr.field, run_underlying hu', hz', asAgg, hp]
        · exact h.elim
      · exact xany_ok hk hs rfl hsf h
theorem xindexAddr_ok (ht : tab.ok P) {t : TypeId} {sfb : Bool} (hsf : sfb = sf ⟨dst, .indexAddr t x y, ty, pos, aft, none⟩) (h : xindexAddr P tab N w0 S km sfb ⟨dst, .indexAddr t x y, ty, pos, aft, none⟩ t x y fs mem k) :
    GS P T sf al (denM km) K N w0 S (denF fs) (denM mem) (⟨dst, .indexAddr t x y, ty, pos, aft, none⟩ :: rest) := by
  unfold xindexAddr at h
  split at h
  · exact h.elim
  · rename_i v hv
    split at h
    · exact h.elim
    · rename_i yv hy
      split at h
      · rename_i ik n
        split at h
        · exact h.elim
        · rename_i q hq
          obtain ⟨l, e, agg, sz⟩ := q
          (try simp only at h)
          cases dst with
          | none => exact h.elim
          | some d =>
            (try simp only at h)
            split at h
            · exact h.elim
            · rename_i hN
              split at h
              · rename_i len
                obtain ⟨h1, h2⟩ := elX_arr ht hq
                haveI := h1
                haveI := h2
                split at h
                · obtain ⟨j, a1, a2, rfl, h⟩ := h.go
                  rcases h with h | h
                  · exact s_indexAddrA (opx_some hv) (opx_some hy) ⟨a1, a2⟩ rfl hN (hk _ _ hs h)
                  · exact s_indexAddrA (opx_some hv) (opx_some hy) ⟨a1, a2⟩ rfl hN (hk _ _ hs h)
                · obtain ⟨j, a1, a2, rfl, h⟩ := h.go
                  rcases h with h | h
                  · exact s_indexAddrA (opx_some hv) (opx_some hy) ⟨a1, a2⟩ rfl hN (hk _ _ hs h)
                  · exact s_indexAddrA (opx_some hv) (opx_some hy) ⟨a1, a2⟩ rfl hN (hk _ _ hs h)
                · exact xany_ok hk hs rfl hsf h
              · obtain ⟨h1, h2⟩ := elX_sl ht hq
                haveI := h1
                haveI := h2
                split at h
                · obtain ⟨a1, a2, b, o, rfl, h3⟩ := h.go
                  exact s_indexAddrS (opx_some hv) (opx_some hy) ⟨a1, a2⟩ rfl hN (hk _ _ hs h3)
                · obtain ⟨j, a1, a2, rfl, h⟩ := h.go
                  rcases h with h | h
                  · exact s_indexAddrS (opx_some hv) (opx_some hy) ⟨a1, a2⟩ rfl hN (hk _ _ hs h)
                  · exact s_indexAddrS (opx_some hv) (opx_some hy) ⟨a1, a2⟩ rfl hN (hk _ _ hs h)
                · exact xany_ok hk hs rfl hsf h
      · exact h.elim
theorem xindex_ok (ht : tab.ok P) {t : TypeId} {sfb : Bool} (hsf : sfb = sf ⟨dst, .index t x y, ty, pos, aft, none⟩) (h : xindex P tab N w0 S km sfb ⟨dst, .index t x y, ty, pos, aft, none⟩ t x y fs mem k) :
    GS P T sf al (denM km) K N w0 S (denF fs) (denM mem) (⟨dst, .index t x y, ty, pos, aft, none⟩ :: rest) := by
  unfold xindex at h
  split at h
  · exact h.elim
  · rename_i v hv
    split at h
    · exact h.elim
    · rename_i yv hy
      split at h
      · rename_i ik n
        split at h
        · exact xany_ok hk hs rfl hsf h
        · rename_i q hq
          obtain ⟨l, e, agg, sz⟩ := q
          simp only at h
          split at h
          · rename_i len
            obtain ⟨h1, h2⟩ := elX_arr ht hq
            split at h
            · rename_i cs
              obtain ⟨j, a1, a2, rfl, h⟩ := h.go
              have key : ∀ u : SV, rdv agg sz (dens cs) (n.toNat * sz) = some u.den → xput N dst u fs mem k → GS P T sf al (denM km) K N w0 S (denF fs) (denM mem) (⟨dst, .index t x y, ty, pos, aft, none⟩ :: rest) := fun u hu h => by
                refine pure_ok hk hs rfl rfl u (fun a w hka hl hm => ?_) h
                have hp := run_part (P := P) (t := e) hu w
                simp [execOp, hka.eval (opx_some hv), hka.eval (opx_some hy), SV.den, Instr.index, asIntOf, run_underlying h1.u, a1, a2, TL.sizeOf (P := P) (t := e), hp]
              rcases h with h | h
              · split at h
                · rename_i u hu
                  exact key u (rdX_some hu) h
                · exact h.elim
              · obtain ⟨u, hu, h⟩ := h.go
                exact key u hu h
            · exact xany_ok hk hs rfl hsf h
          · exact xany_ok hk hs rfl hsf h
      · exact xany_ok hk hs rfl hsf h
end
end Go.Proofs.YtihboegopigkmaaDoor
