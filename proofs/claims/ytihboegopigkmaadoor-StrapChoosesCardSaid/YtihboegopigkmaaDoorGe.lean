/- The walk by reckoning, part 5: the reckoning tells the truth, for regions. -/
import Derived.Test.YtihboegopigkmaaDoorGd
namespace Go.Proofs.YtihboegopigkmaaDoor
set_option linter.unusedSimpArgs false
set_option linter.unusedVariables false
set_option linter.unnecessarySimpa false
set_option linter.unusedSectionVars false
open Go.RowKit

theorem hasValP_one : ∀ {ps : List (Nat × SV)}, hasValP ps = false → partsOne ps
  | [], _ => trivial
  | (i, v) :: r, h => by
    simp only [hasValP] at h
    cases v <;> first | (cases h; done) | exact hasValP_one (ps := r) h
theorem zerosX_eq : ∀ {n : Nat} {z r : List SV}, zerosX n z = some r → dens r = zeros n (dens z)
  | 0, z, r, h => by simp [zerosX] at h; subst h; rfl
  | n + 1, z, r, h => by
    simp only [zerosX] at h
    cases h1 : zerosX n z with
    | none => rw [h1] at h; cases h
    | some r1 =>
      rw [h1] at h
      simp only at h
      cases h2 : splX (z ++ r1) 0 z with
      | none => rw [h2] at h; cases h
      | some r2 =>
        rw [h2] at h
        injection h with h
        subst h
        have := (splX_spl h2).eq.1
        rw [zeros, ← zerosX_eq h1, ← this]
        simp [splice, dens_append, dens_length]

section
variable {P : Program} {tab : Tr} {N : FN} {w0 : World} {S : List Nat} {km : Mem}
variable {T : List (Option Tmp)} {sf al : Oper → Bool} {K : Act → World → Prop} {rest : List Oper} [AlC al]
variable {fs : Fr} {mem : Mem} {k : Fr → Mem → Prop}
section
variable (hk : ∀ fs' mem', km.Sublist mem' → k fs' mem' → GS P T sf al (denM km) K N w0 S (denF fs') (denM mem') rest) (hs : km.Sublist mem)
include hk hs
variable {d : Tmp} {ty : TypeId} {pos : String} {aft : Array Edge} {x y : Operand} {dst : Option Tmp}
theorem xmakeFunc_ok {fn : Fn} {f c : List Operand} (h : xmakeFunc N ⟨dst, .makeFunc fn f.toArray c.toArray, ty, pos, aft, none⟩ fn f c fs mem k) :
    GS P T sf al (denM km) K N w0 S (denF fs) (denM mem) (⟨dst, .makeFunc fn f.toArray c.toArray, ty, pos, aft, none⟩ :: rest) := by
  unfold xmakeFunc at h
  cases h1 : opxs fs f with
  | none => rw [h1] at h; exact h.elim
  | some vf =>
    rw [h1] at h
    simp only at h
    cases h2 : opxs fs c with
    | none => rw [h2] at h; exact h.elim
    | some vc =>
      rw [h2] at h
      simp only at h
      cases dst with
      | none => exact h.elim
      | some d =>
        (try simp only at h)
        cases hN : Nat.blt d N.n with
        | false => rw [hN] at h; exact h.elim
        | true =>
          rw [hN] at h
          exact s_makeFunc (opxs_some h1) (opxs_some h2) hN (hk _ _ hs h)
theorem xextract_ok {ix : Nat} {sfb : Bool} (hsf : sfb = sf ⟨dst, .extract x ix, ty, pos, aft, none⟩) (h : xextract P N w0 S km sfb ⟨dst, .extract x ix, ty, pos, aft, none⟩ x ix fs mem k) :
    GS P T sf al (denM km) K N w0 S (denF fs) (denM mem) (⟨dst, .extract x ix, ty, pos, aft, none⟩ :: rest) := by
  unfold xextract at h
  split at h
  · rename_i vs hx
    split at h
    · rename_i v hv
      cases dst with
      | none => exact h.elim
      | some d =>
        (try simp only at h)
        cases hN : Nat.blt d N.n with
        | false => rw [hN] at h; exact h.elim
        | true =>
          rw [hN] at h
          exact s_extract (opx_some hx) (by rw [nthX_den, hv]; rfl) hN (hk _ _ hs h)
    · exact h.elim
  · exact xany_ok hk hs rfl hsf h
theorem xbuild_ok (ht : tab.ok P) {t : TypeId} {parts : List (Nat × Operand)} (h : xbuild tab N ⟨dst, .build t parts.toArray, ty, pos, aft, none⟩ t parts fs mem k) :
    GS P T sf al (denM km) K N w0 S (denF fs) (denM mem) (⟨dst, .build t parts.toArray, ty, pos, aft, none⟩ :: rest) := by
  unfold xbuild at h
  split at h
  · exact h.elim
  · rename_i ps hps
    split at h
    · exact h.elim
    · rename_i ti hti
      split at h
      · exact h.elim
      · rename_i z hz
        split at h
        · exact h.elim
        · rename_i pl hpl
          split at h
          · exact h.elim
          · rename_i cs hcs
            cases dst with
            | none => exact h.elim
            | some d =>
              (try simp only at h)
              cases hN : Nat.blt d N.n with
              | false => rw [hN] at h; exact h.elim
              | true =>
                rw [hN] at h
                simp only at h
                haveI := (Tr.get_ok ht hti).tbd _ _ hpl hz
                split at h
                · rename_i hv
                  exact s_build (opxps_some hps) (fillX_fil hcs (hasValP_one hv)) hN (hk _ _ hs h)
                · obtain ⟨h1, h⟩ := h
                  exact s_build (opxps_some hps) (fillX_fil hcs h1) hN (hk _ _ hs h)
theorem xbuildSlice_ok (ht : tab.ok P) {t : TypeId} {len : Nat} {parts : List (Nat × Operand)} {sfb : Bool} (hsf : sfb = sf ⟨dst, .buildSlice t len parts.toArray, ty, pos, aft, none⟩) (h : xbuildSlice tab N sfb ⟨dst, .buildSlice t len parts.toArray, ty, pos, aft, none⟩ t len parts fs mem k) :
    GS P T sf al (denM km) K N w0 S (denF fs) (denM mem) (⟨dst, .buildSlice t len parts.toArray, ty, pos, aft, none⟩ :: rest) := by
  unfold xbuildSlice at h
  split at h
  · exact h.elim
  · split at h
    · exact h.elim
    · rename_i ps hps
      split at h
      · rename_i e _ _ hel
        split at h
        · exact h.elim
        · rename_i ei hei
          split at h
          · rename_i z zs hz
            split at h
            · exact h.elim
            · rename_i hle
              split at h
              · exact h.elim
              · rename_i zz hzz
                split at h
                · exact h.elim
                · rename_i cs hcs
                  cases dst with
                  | none => exact h.elim
                  | some d =>
                    (try simp only at h)
                    cases hN : Nat.blt d N.n with
                    | false => rw [hN] at h; exact h.elim
                    | true =>
                      rw [hN] at h
                      simp only at h
                      have F := Tr.get_ok ht hei
                      obtain ⟨hTS, _⟩ := elX_sl ht hel
                      haveI := hTS
                      haveI := F.tw _ hz (by simp)
                      have key : ∀ (h1 : partsOne ps), (∀ b, k ((d, .slB d b 0 len len) :: fs) (.blk d e b cs :: mem)) → GS P T sf al (denM km) K N w0 S (denF fs) (denM mem) (⟨some d, .buildSlice t len parts.toArray, ty, pos, aft, none⟩ :: rest) := fun h1 h2 => by
                        have hf := fillX_fil hcs h1
                        rw [zerosX_eq hzz] at hf
                        exact s_buildSlice (cs := dens cs) (opxps_some hps) hle hf hsf.symm (denM_sub hs) hN (fun b => hk _ (.blk d e b cs :: mem) (hs.cons _) (h2 b))
                      split at h
                      · rename_i hv
                        exact key (hasValP_one hv) h.go
                      · exact key h.p h.x.go
          · exact h.elim
      · exact h.elim
theorem xmakeSlice_ok (ht : tab.ok P) {t : TypeId} {x y : Operand} {sfb : Bool} (hsf : sfb = sf ⟨dst, .makeSlice t x y, ty, pos, aft, none⟩) (h : xmakeSlice tab N sfb ⟨dst, .makeSlice t x y, ty, pos, aft, none⟩ t x y fs mem k) :
    GS P T sf al (denM km) K N w0 S (denF fs) (denM mem) (⟨dst, .makeSlice t x y, ty, pos, aft, none⟩ :: rest) := by
  unfold xmakeSlice at h
  split at h
  · exact h.elim
  · split at h
    · rename_i kl l hx
      split at h
      · rename_i kc c hy
        split at h
        · rename_i e _ _ hel
          split at h
          · exact h.elim
          · rename_i ei hei
            split at h
            · rename_i z zs hz
              cases dst with
              | none => exact h.elim
              | some d =>
                (try simp only at h)
                cases hN : Nat.blt d N.n with
                | false => rw [hN] at h; exact h.elim
                | true =>
                  rw [hN] at h
                  simp only at h
                  have F := Tr.get_ok ht hei
                  obtain ⟨hTS, _⟩ := elX_sl ht hel
                  haveI := hTS
                  haveI := F.tw _ hz (by simp)
                  haveI := F.tb
                  obtain ⟨n, rfl, rfl, hb, hn, h2⟩ := h.go
                  rcases h2 with h2 | h2
                  · split at h2
                    · rename_i cs hcs
                      exact s_makeSlice (n := n) (opx_some hx) (opx_some hy) hb hn hsf.symm (denM_sub hs) hN (fun b => by
                        have := hk _ (.blk d e b cs :: mem) (hs.cons _) (h2.go b)
                        simpa only [denF, denM, SV.den, MI.itm, zerosX_eq hcs] using this)
                    · exact h2.elim
                  · exact s_makeSlice (n := n) (opx_some hx) (opx_some hy) hb hn hsf.symm (denM_sub hs) hN (fun b => hk _ (.blkV d e b (zeros n (dens (z :: zs))) :: mem) (hs.cons _) (h2.go b))
            · exact h.elim
        · exact h.elim
      · exact h.elim
    · exact h.elim
theorem xnil_ok {sfb : Bool} (hsf : sfb = sf ⟨dst, .nilCheck x, ty, pos, aft, none⟩) (h : xnil P N w0 S km sfb ⟨dst, .nilCheck x, ty, pos, aft, none⟩ x fs mem k) :
    GS P T sf al (denM km) K N w0 S (denF fs) (denM mem) (⟨dst, .nilCheck x, ty, pos, aft, none⟩ :: rest) := by
  unfold xnil at h
  split at h
  · exact h.elim
  · rename_i v hv
    split at h
    · rename_i p hp
      refine pure_ok hk hs rfl rfl v (fun a w hka _ _ => ?_) h
      simp [execOp, hka.eval (opx_some hv), ptrOf_den hp]
    · exact xany_ok hk hs rfl hsf h
theorem oInt_some {d n : Int} {lo : Option Operand} (h : oInt fs d lo = some n) : (lo = none ∧ n = d) ∨ ∃ x ik, lo = some x ∧ opv (denF fs) x = some (.int ik n) := by
  unfold oInt at h
  cases lo with
  | none => injection h with h; exact .inl ⟨rfl, h.symm⟩
  | some x =>
    simp only at h
    split at h
    · rename_i ik n' hx
      injection h with h
      subst h
      exact .inr ⟨x, ik, rfl, opx_some hx⟩
    · cases h
theorem slice_run {t : TypeId} {e sz : Nat} {agg : Bool} (h1 : TS P t e) (h2 : TL P e agg sz) {A : Option Addr} {n c : Nat} {lo hi : Option Operand} {v : Value} {a b : Int} (hlo : oInt fs 0 lo = some a) (hhi : oInt fs n hi = some b)
    (ha : 0 ≤ a) (hab : a ≤ b) (hbc : b ≤ c) {act : Act} (hka : Kn N (denF fs) act) (hx : opv (denF fs) x = some (.slice A n c)) {w : World}
    (hv : v = .slice (if c = a.toNat then A else A.map (·.add (a.toNat * sz))) (b.toNat - a.toNat) (c - a.toNat)) : (execOp act.eval ⟨dst, .slice t x lo hi none, ty, pos, aft, none⟩).run P w = .ok (.value v) w := by
  have hu : P.underlying t = some (.slice (P.elem t)) := by
    have := h1.u
    simp [Program.elem, this]
  have he : P.elem t = e := by simp [Program.elem, h1.u]
  have hsz := TL.sizeOf (P := P) (t := e) w
  subst hv
  simp only [execOp, hka.eval hx, Sem.run_bind, run_sliceAt_slice w t _ _ _ _ hu]
  rcases oInt_some (k := k) hk hs hlo with ⟨rfl, rfl⟩ | ⟨xl, kl, rfl, el⟩ <;> rcases oInt_some (k := k) hk hs hhi with ⟨rfl, rfl⟩ | ⟨xh, kh, rfl, eh⟩
  · simp [run_slice_all w t A n c hu, he, hsz, sliced]
  · simp [hka.eval eh, run_slice_h w t A n c hu kh b hab hbc, he, hsz, sliced]
  · simp [hka.eval el, run_slice_l w t A n c hu kl a ha hab, he, hsz, sliced]
  · simp [hka.eval el, hka.eval eh, run_slice_lh w t A n c hu kl kh a b ha hab hbc, he, hsz, sliced]
theorem slice_runA {t : TypeId} {e sz len : Nat} {agg : Bool} (h1 : TA P t len e) (h2 : TL P e agg sz) {A : Addr} {lo hi : Option Operand} {v : Value} {a b : Int} (hlo : oInt fs 0 lo = some a) (hhi : oInt fs len hi = some b)
    (ha : 0 ≤ a) (hab : a ≤ b) (hbc : b ≤ len) {act : Act} (hka : Kn N (denF fs) act) (hx : opv (denF fs) x = some (.pointer (some A))) {w : World}
    (hv : v = .slice (if len = a.toNat then some A else (some A).map (·.add (a.toNat * sz))) (b.toNat - a.toNat) (len - a.toNat)) : (execOp act.eval ⟨dst, .slice t x lo hi none, ty, pos, aft, none⟩).run P w = .ok (.value v) w := by
  have hl : P.arrayLen t = len := by simp [Program.arrayLen, h1.u]
  have he : P.elem t = e := by simp [Program.elem, h1.u]
  have hu : P.underlying t = some (.array (P.arrayLen t) (P.elem t)) := by rw [hl, he]; exact h1.u
  have hsz := TL.sizeOf (P := P) (t := e) w
  subst hv
  have ei : ∀ c d : Nat, (if c = d then some A else some (A.add (d * sz))) = some (if c = d then A else A.add (d * sz)) := fun c d => by split <;> rfl
  simp only [execOp, hka.eval hx, Sem.run_bind, Option.map_some, ei]
  rcases oInt_some (k := k) hk hs hlo with ⟨rfl, rfl⟩ | ⟨xl, kl, rfl, el⟩ <;> rcases oInt_some (k := k) hk hs hhi with ⟨rfl, rfl⟩ | ⟨xh, kh, rfl, eh⟩
  · simp [run_sliceAt_array_all w t A hu, he, hl, hsz, slicedAt]
  · simp [hka.eval eh, run_sliceAt_array_h w t A hu kh b hab (by rw [hl]; exact hbc), he, hl, hsz, slicedAt]
  · simp [hka.eval el, run_sliceAt_array_l w t A hu kl a ha (by rw [hl]; exact hab), he, hl, hsz, slicedAt]
  · simp [hka.eval el, hka.eval eh, run_sliceAt_array_lh w t A hu kl kh a b ha hab (by rw [hl]; exact hbc), he, hl, hsz, slicedAt]
theorem xslice_ok (ht : tab.ok P) {t : TypeId} {lo hi mx : Option Operand} {sfb : Bool} (hsf : sfb = sf ⟨dst, .slice t x lo hi mx, ty, pos, aft, none⟩) (h : xslice P tab N w0 S km sfb ⟨dst, .slice t x lo hi mx, ty, pos, aft, none⟩ t x lo hi mx fs mem k) :
    GS P T sf al (denM km) K N w0 S (denF fs) (denM mem) (⟨dst, .slice t x lo hi mx, ty, pos, aft, none⟩ :: rest) := by
  unfold xslice at h
  cases hx : opx fs x with
  | none => rw [hx] at h; exact h.elim
  | some xv =>
    rw [hx] at h
    simp only at h
    cases dst with
    | none => exact h.elim
    | some d =>
      (try simp only at h)
      cases hN : Nat.blt d N.n with
      | false => rw [hN] at h; exact h.elim
      | true =>
        rw [hN] at h
        simp only at h
        have ex := opx_some hx
        cases mx with
        | some m => exact xany_ok hk hs rfl hsf h
        | none =>
          (try simp only at h)
          split at h
          · rename_i l e agg sz hel
            split at h
            · obtain ⟨h1, h2⟩ := elX_sl ht hel
              split at h
              · split at h
                · exact h.elim
                · rename_i a hlo
                  split at h
                  · exact h.elim
                  · rename_i b hhi
                    obtain ⟨ha, hab, hbc, sv, hsv, h3⟩ := h.go
                    exact s_val rfl hN (fun act w hka _ _ => slice_run (k := k) hk hs h1 h2 hlo hhi ha hab hbc hka ex hsv) (hk _ _ hs h3)
              · split at h
                · exact h.elim
                · rename_i a hlo
                  split at h
                  · exact h.elim
                  · rename_i b hhi
                    obtain ⟨ha, hab, hbc, sv, hsv, h3⟩ := h.go
                    exact s_val rfl hN (fun act w hka _ _ => slice_run (k := k) hk hs h1 h2 hlo hhi ha hab hbc hka ex hsv) (hk _ _ hs h3)
              · exact xany_ok hk hs rfl hsf h
            · obtain ⟨h1, h2⟩ := elX_arr ht hel
              split at h
              · split at h
                · exact h.elim
                · rename_i a hlo
                  split at h
                  · exact h.elim
                  · rename_i b hhi
                    obtain ⟨ha, hab, hbc, sv, hsv, h3⟩ := h.go
                    exact s_val rfl hN (fun act w hka _ _ => slice_runA (k := k) hk hs h1 h2 hlo hhi ha hab hbc hka ex hsv) (hk _ _ hs h3)
              · exact xany_ok hk hs rfl hsf h
          · exact xany_ok hk hs rfl hsf h
theorem xop_ok (ht : tab.ok P) {o : Oper} (hg : o.guard = none) (h : xop P tab N w0 S km (sf o) o fs mem k) : GS P T sf al (denM km) K N w0 S (denF fs) (denM mem) (o :: rest) := by
  obtain ⟨dst, op, ty, pos, aft, g⟩ := o
  simp only at hg
  subst hg
  unfold xop at h
  cases op with
  | move x => exact xmove_ok hk hs h
  | assign x => exact xassign_ok hk hs h
  | pick c x y => exact xpick_ok hk hs h
  | alloc t => exact xalloc_ok hk hs ht rfl h
  | box t x => exact xbox_ok hk hs rfl h
  | build t ps => exact xbuild_ok hk hs ht (parts := ps.toList) h
  | buildSlice t len ps => exact xbuildSlice_ok hk hs ht (parts := ps.toList) rfl h
  | makeSlice t x y => exact xmakeSlice_ok hk hs ht rfl h
  | load t x => exact xload_ok hk hs ht rfl h
  | store t x y => exact xstore_ok hk hs ht rfl h
  | nilCheck x => exact xnil_ok hk hs rfl h
  | binOp op t x y yt => exact xbin_ok hk hs ht rfl h
  | unOp op t x => exact xun_ok hk hs rfl h
  | convert a b x => exact xconv_ok hk hs ht rfl h
  | makeFunc fn f c => exact xmakeFunc_ok hk hs (f := f.toList) (c := c.toList) h
  | slice t x lo hi mx => exact xslice_ok hk hs ht rfl h
  | fieldAddr t x f => exact xfieldAddr_ok hk hs ht rfl h
  | field t x f => exact xfield_ok hk hs ht rfl h
  | indexAddr t x y => exact xindexAddr_ok hk hs ht rfl h
  | index t x y => exact xindex_ok hk hs ht rfl h
  | extract x ix => exact xextract_ok hk hs rfl h
  | call c => exact xcall_ok hk hs ht rfl h
  | _ => exact xany_ok hk hs rfl rfl h
end
theorem isBX_eq (b want : Bool) : isBX b want = (b == want) := by cases b <;> cases want <;> rfl
theorem xguard_ok (ht : tab.ok P) [hsf : SfOK sf] [hal : SfOK al] {o : Oper} (hk : ∀ fs' mem', km.Sublist mem' → k fs' mem' → GS P T sf al (denM km) K N w0 S (denF fs') (denM mem') rest) (hs : km.Sublist mem)
    (h : xguard P tab N w0 S km T sf o fs mem k) : GS P T sf al (denM km) K N w0 S (denF fs) (denM mem) (o :: rest) := by
  unfold xguard at h
  split at h
  · rename_i hg
    exact xop_ok hk hs ht hg h
  · rename_i gw hg
    obtain ⟨g, want⟩ := gw
    simp only at h
    split at h
    · exact h.elim
    · rename_i d hT
      obtain ⟨dst, op, ty, pos, aft, gg⟩ := o
      simp only at hg
      subst hg
      have run : ∀ (fs : Fr) (b : Bool), fget (denF fs) d = some (.bool b) → (b == want) = true → xop P tab N w0 S km (sf ⟨dst, op, ty, pos, aft, none⟩) ⟨dst, op, ty, pos, aft, none⟩ fs mem k →
          GS P T sf al (denM km) K N w0 S (denF fs) (denM mem) (⟨dst, op, ty, pos, aft, some (g, want)⟩ :: rest) := fun fs b hv hb h => s_want hT hv hb (xop_ok hk hs ht rfl h)
      have pass : ∀ (fs : Fr) (b : Bool), fget (denF fs) d = some (.bool b) → (b == want) = false → xput N dst (.val undef) fs mem k →
          GS P T sf al (denM km) K N w0 S (denF fs) (denM mem) (⟨dst, op, ty, pos, aft, some (g, want)⟩ :: rest) := fun fs b hv hb h => by
        obtain ⟨h1, h2⟩ := xput_ok h
        refine s_pass rfl hT hv hb h1 ?_
        have := hk _ _ hs h2
        rw [denF_push] at this
        exact this
      have part : ∀ (b : Bool) (X Y : Fr → Prop), fget (denF fs) d = some (.bool b) → (b = true → GS P T sf al (denM km) K N w0 S ((d, .bool true) :: denF fs) (denM mem) (⟨dst, op, ty, pos, aft, some (g, want)⟩ :: rest)) →
          (b = false → GS P T sf al (denM km) K N w0 S ((d, .bool false) :: denF fs) (denM mem) (⟨dst, op, ty, pos, aft, some (g, want)⟩ :: rest)) → GS P T sf al (denM km) K N w0 S (denF fs) (denM mem) (⟨dst, op, ty, pos, aft, some (g, want)⟩ :: rest) :=
        fun b X Y hv h1 h2 => s_part rfl hT hv h1 h2
      have hd1 : ∀ b, fget (denF ((d, SV.lit b) :: fs)) d = some (.bool b) := fun b => by simp [denF, fget, SV.den]
      split at h
      · exact h.elim
      · rename_i v hv
        have ev : fget (denF fs) d = some v.den := by rw [fgetX_den, hv]; rfl
        split at h
        · rename_i b
          rw [isBX_eq] at h
          split at h
          · rename_i hb; exact run fs b ev hb h
          · rename_i hb; exact pass fs b ev hb h
        · rename_i p i
          cases want with
          | true =>
            refine s_part rfl hT ev (fun hp => run ((d, .lit true) :: fs) true (hd1 true) rfl (h.t (of_decide_eq_true hp))) (fun hp => pass ((d, .lit false) :: fs) false (hd1 false) rfl (h.f (of_decide_eq_false hp)))
          | false =>
            refine s_part rfl hT ev (fun hp => pass ((d, .lit true) :: fs) true (hd1 true) rfl (h.t (of_decide_eq_true hp))) (fun hp => run ((d, .lit false) :: fs) false (hd1 false) rfl (h.f (of_decide_eq_false hp)))
        · rename_i b
          cases want with
          | true =>
            refine s_part rfl hT ev (fun hp => run ((d, .lit true) :: fs) true (hd1 true) rfl (h.t hp)) (fun hp => pass ((d, .lit false) :: fs) false (hd1 false) rfl (h.f (by simp [hp])))
          | false =>
            refine s_part rfl hT ev (fun hp => pass ((d, .lit true) :: fs) true (hd1 true) rfl (h.t hp)) (fun hp => run ((d, .lit false) :: fs) false (hd1 false) rfl (h.f (by simp [hp])))
        · obtain ⟨rfl, h⟩ := h
          obtain ⟨h1, h2⟩ := xput_ok h
          refine s_passU rfl hT ev h1 ?_
          have := hk _ _ hs h2
          rw [denF_push] at this
          exact this
        · exact h.elim
theorem xs_ok (ht : tab.ok P) [hsf : SfOK sf] [hal : SfOK al] {Kx : Fr → Mem → Prop} (hK : ∀ fs mem, Kx fs mem → ∀ a w, Kn N (denF fs) a → Loc w0 S (denM mem) w → K a w) : ∀ (l : List Oper) (fs : Fr) (mem : Mem), km.Sublist mem →
    xs P tab N w0 S km T sf Kx l fs mem → GS P T sf al (denM km) K N w0 S (denF fs) (denM mem) l
  | [], fs, mem, _, h => s_nil (hK fs mem h)
  | o :: rest, fs, mem, hs, h => xguard_ok ht (fun fs' mem' hs' h' => xs_ok ht hK rest fs' mem' hs' h') hs h
end
end Go.Proofs.YtihboegopigkmaaDoor
