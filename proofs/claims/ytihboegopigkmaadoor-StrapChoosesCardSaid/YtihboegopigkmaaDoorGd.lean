/- The walk by reckoning, part 4: the reckoning tells the truth, for numbers, literals, calls. -/
import Derived.Test.YtihboegopigkmaaDoorGc
namespace Go.Proofs.YtihboegopigkmaaDoor
set_option linter.unusedSimpArgs false
set_option linter.unusedVariables false
set_option linter.unnecessarySimpa false
set_option linter.unusedSectionVars false
open Go.RowKit

section
variable {P : Program} {tab : Tr} {N : FN} {w0 : World} {S : List Nat} {km : Mem}
variable {T : List (Option Tmp)} {sf al : Oper → Bool} {K : Act → World → Prop} {rest : List Oper} [AlC al]
variable {fs : Fr} {mem : Mem} {k : Fr → Mem → Prop}
variable (hk : ∀ fs' mem', km.Sublist mem' → k fs' mem' → GS P T sf al (denM km) K N w0 S (denF fs') (denM mem') rest) (hs : km.Sublist mem)
include hk hs
variable {d : Tmp} {ty : TypeId} {pos : String} {aft : Array Edge} {x y : Operand} {dst : Option Tmp}

theorem cmpX_den {op : BinOp} {m n : Int} {c : SV} (h : cmpX op m n = some c) : ∃ b, cmpV op m n = some b ∧ c.den = .bool b := by
  cases op <;> simp only [cmpX] at h <;> first | (cases h; done) | skip
  all_goals (injection h with h; subst h; exact ⟨_, rfl, by simp [SV.den]⟩)
theorem xbin_ok (ht : tab.ok P) {op : BinOp} {xt yt : TypeId} {sfb : Bool} (hsf : sfb = sf ⟨dst, .binOp op xt x y yt, ty, pos, aft, none⟩) (h : xbin P tab N w0 S km sfb ⟨dst, .binOp op xt x y yt, ty, pos, aft, none⟩ op xt x y fs mem k) :
    GS P T sf al (denM km) K N w0 S (denF fs) (denM mem) (⟨dst, .binOp op xt x y yt, ty, pos, aft, none⟩ :: rest) := by
  unfold xbin at h
  cases hx : opx fs x with
  | none => rw [hx] at h; exact h.elim
  | some xv =>
    rw [hx] at h
    simp only at h
    cases hy : opx fs y with
    | none => rw [hy] at h; exact h.elim
    | some yv =>
      rw [hy] at h
      simp only at h
      cases dst with
      | none => exact h.elim
      | some d =>
        (try simp only at h)
        cases hN : Nat.blt d N.n with
        | false => rw [hN] at h; exact h.elim
        | true =>
          rw [hN] at h
          simp only at h
          have ex := opx_some hx
          have ey := opx_some hy
          split at h
          · rename_i ik m
            split at h
            · rename_i ik' n
              split at h
              · obtain ⟨h0, z, rfl, h⟩ := h.go
                exact s_shl ex ey h0 hN (hk _ _ hs h)
              · obtain ⟨h0, z, rfl, h⟩ := h.go
                exact s_shr ex ey h0 hN (hk _ _ hs h)
              · split at h
                · exact h.elim
                · rename_i hkk
                  have hkk := of_decide_eq_true hkk
                  subst hkk
                  split at h
                  · obtain ⟨z, rfl, h⟩ := h.go
                    exact s_ariW ex ey rfl hN (hk _ _ hs h)
                  · obtain ⟨z, rfl, h⟩ := h.go
                    exact s_ariW ex ey rfl hN (hk _ _ hs h)
                  · obtain ⟨z, rfl, h⟩ := h.go
                    exact s_ariW ex ey rfl hN (hk _ _ hs h)
                  · obtain ⟨h0, z, rfl, h⟩ := h.go
                    refine s_val rfl hN (fun a w hka _ _ => ?_) (hk _ _ hs h)
                    simp only [execOp, hka.eval ex, hka.eval ey, SV.den, eqGuard_at_int]
                    simp [binOp, Op.intDiv, h0]
                  · obtain ⟨h0, z, rfl, h⟩ := h.go
                    refine s_val rfl hN (fun a w hka _ _ => ?_) (hk _ _ hs h)
                    simp only [execOp, hka.eval ex, hka.eval ey, SV.den, eqGuard_at_int]
                    simp [binOp, Op.intDiv, h0]
                  · obtain ⟨z, rfl, h⟩ := h.go
                    exact s_bits ex ey (by simp) hN (hk _ _ hs h)
                  · obtain ⟨z, rfl, h⟩ := h.go
                    exact s_bits ex ey (by simp) hN (hk _ _ hs h)
                  · obtain ⟨z, rfl, h⟩ := h.go
                    exact s_bits ex ey (by simp) hN (hk _ _ hs h)
                  · obtain ⟨z, rfl, h⟩ := h.go
                    exact s_bits ex ey (by simp) hN (hk _ _ hs h)
                  · split at h
                    · rename_i c hc
                      obtain ⟨b, h1, h2⟩ := cmpX_den (k := k) hk hs hc
                      refine s_cmp ex ey h1 hN ?_
                      rw [← h2]
                      exact hk _ _ hs h
                    · exact h.elim
            · exact xany_ok hk hs rfl hsf h
          · rename_i xs
            split at h
            · rename_i ys
              split at h
              · exact h.elim
              · rename_i ti hti
                split at h
                · exact xany_ok hk hs rfl hsf h
                · rename_i ss hss
                  split at h
                  · exact xany_ok hk hs rfl hsf h
                  · rename_i hx1
                    split at h
                    · exact xany_ok hk hs rfl hsf h
                    · rename_i hy1
                      haveI := (Tr.get_ok ht hti).tq ss hss
                      have he := cellEq_dec_eq hx1 hy1
                      split at h
                      · refine s_eqA ex ey (skX_ok hx1) (skX_ok hy1) hN ?_
                        have := hk _ _ hs h
                        simp only [denF, SV.den, he] at this
                        exact this
                      · refine s_neA ex ey (skX_ok hx1) (skX_ok hy1) hN ?_
                        have e : @decide (¬ cellEq xs ys) (@instDecidableNot _ (cellEq_dec xs ys)) = !eqC (dens xs) (dens ys) := by rw [← he]; exact @decide_not _ (cellEq_dec xs ys) (_)
                        have h3 := hk _ _ hs h
                        rw [← e]
                        exact h3
                      · exact h.elim
            · exact xany_ok hk hs rfl hsf h
          · split at h
            · rename_i b hb
              split at h
              · rename_i c hc
                split at h
                · exact h.elim
                · rename_i ti hti
                  split at h
                  · rename_i hd
                    haveI := (Tr.get_ok ht hti).tb' hd
                    rw [toB_den hb] at ex
                    rw [toB_den hc] at ey
                    split at h
                    · exact s_eqB ex ey hN (hk _ _ hs h)
                    · exact s_neB ex ey hN (hk _ _ hs h)
                    · exact h.elim
                  · exact h.elim
              · exact xany_ok hk hs rfl hsf h
            · exact xany_ok hk hs rfl hsf h
theorem xun_ok {op : UnOp} {xt : TypeId} {sfb : Bool} (hsf : sfb = sf ⟨dst, .unOp op xt x, ty, pos, aft, none⟩) (h : xun P N w0 S km sfb ⟨dst, .unOp op xt x, ty, pos, aft, none⟩ op x fs mem k) :
    GS P T sf al (denM km) K N w0 S (denF fs) (denM mem) (⟨dst, .unOp op xt x, ty, pos, aft, none⟩ :: rest) := by
  unfold xun at h
  cases hx : opx fs x with
  | none => rw [hx] at h; exact h.elim
  | some xv =>
    rw [hx] at h
    simp only at h
    cases dst with
    | none => exact h.elim
    | some d =>
      (try simp only at h)
      cases hN : Nat.blt d N.n with
      | false => rw [hN] at h; exact h.elim
      | true =>
        rw [hN] at h
        simp only at h
        have ex := opx_some hx
        split at h
        · split at h
          · split at h
            · exact s_notL ex rfl hN (hk _ _ hs h)
            · exact s_notL ex rfl hN (hk _ _ hs h)
          · refine s_not ex hN ?_
            have := hk _ _ hs h
            simp only [denF, SV.den, decide_not] at this
            exact this
          · exact s_not ex hN (hk _ _ hs h)
          · exact h.elim
        · split at h
          · obtain ⟨z, rfl, h⟩ := h.go
            exact s_negW ex hN (hk _ _ hs h)
          · exact xany_ok hk hs rfl hsf h
        · exact xany_ok hk hs rfl hsf h
theorem xconv_ok (ht : tab.ok P) {xt yt : TypeId} {sfb : Bool} (hsf : sfb = sf ⟨dst, .convert xt yt x, ty, pos, aft, none⟩) (h : xconv P tab N w0 S km sfb ⟨dst, .convert xt yt x, ty, pos, aft, none⟩ xt yt x fs mem k) :
    GS P T sf al (denM km) K N w0 S (denF fs) (denM mem) (⟨dst, .convert xt yt x, ty, pos, aft, none⟩ :: rest) := by
  unfold xconv at h
  cases hx : opx fs x with
  | none => rw [hx] at h; exact h.elim
  | some xv =>
    rw [hx] at h
    simp only at h
    cases dst with
    | none => exact h.elim
    | some d =>
      (try simp only at h)
      cases hN : Nat.blt d N.n with
      | false => rw [hN] at h; exact h.elim
      | true =>
        rw [hN] at h
        simp only at h
        have ex := opx_some hx
        split at h
        · split at h
          · exact h.elim
          · rename_i t1 ht1
            split at h
            · rename_i k1 hd1
              split at h
              · exact h.elim
              · rename_i hkk
                have hkk := of_decide_eq_true hkk
                subst hkk
                split at h
                · exact h.elim
                · rename_i t2 ht2
                  split at h
                  · rename_i k2 hd2
                    haveI := (Tr.get_ok ht ht1).ti _ hd1
                    haveI := (Tr.get_ok ht ht2).ti _ hd2
                    obtain ⟨z, rfl, h⟩ := h.go
                    exact s_convW ex hN (hk _ _ hs h)
                  · exact xany_ok hk hs rfl hsf h
            · exact h.elim
        · exact xany_ok hk hs rfl hsf h
theorem xpick_ok {c : Operand} {sfb : Bool} (h : xpick N sfb ⟨dst, .pick c x y, ty, pos, aft, none⟩ c x y fs mem k) :
    GS P T sf al (denM km) K N w0 S (denF fs) (denM mem) (⟨dst, .pick c x y, ty, pos, aft, none⟩ :: rest) := by
  unfold xpick at h
  cases hc : opx fs c with
  | none => rw [hc] at h; exact h.elim
  | some cv =>
    rw [hc] at h
    simp only at h
    cases hx : opx fs x with
    | none => rw [hx] at h; exact h.elim
    | some xv =>
      rw [hx] at h
      simp only at h
      cases hy : opx fs y with
      | none => rw [hy] at h; exact h.elim
      | some yv =>
        rw [hy] at h
        simp only at h
        cases dst with
        | none => exact h.elim
        | some d =>
          (try simp only at h)
          cases hN : Nat.blt d N.n with
          | false => rw [hN] at h; exact h.elim
          | true =>
            rw [hN] at h
            simp only at h
            have ec := opx_some hc
            have ex := opx_some hx
            have ey := opx_some hy
            split at h
            · split at h
              · exact s_pick_t ec ex hN (hk _ _ hs h)
              · exact s_pick_f ec ey hN (hk _ _ hs h)
            · rename_i p i
              by_cases hp : p
              · refine s_pick_t ?_ ex hN (hk _ _ hs (h.t hp))
                rw [ec]; simp [SV.den, hp]
              · refine s_pick_f ?_ ey hN (hk _ _ hs (h.f hp))
                rw [ec]; simp [SV.den, hp]
            · rename_i b
              cases b with
              | true => exact s_pick_t ec ex hN (hk _ _ hs (h.t rfl))
              | false => exact s_pick_f ec ey hN (hk _ _ hs (h.f (by simp)))
            · exact h.elim
theorem xlen_ok (ht : tab.ok P) {ts : Array TypeId} {t : TypeId} (hts : ts = #[t]) {sfb : Bool} (hsf : sfb = sf ⟨dst, .call ⟨.builtin .len, #[x], ts⟩, ty, pos, aft, none⟩) (h : xlen P tab N w0 S km sfb ⟨dst, .call ⟨.builtin .len, #[x], ts⟩, ty, pos, aft, none⟩ t x fs mem k) :
    GS P T sf al (denM km) K N w0 S (denF fs) (denM mem) (⟨dst, .call ⟨.builtin .len, #[x], ts⟩, ty, pos, aft, none⟩ :: rest) := by
  subst hts
  unfold xlen at h
  cases hx : opx fs x with
  | none => rw [hx] at h; exact h.elim
  | some xv =>
    rw [hx] at h
    simp only at h
    cases dst with
    | none => exact h.elim
    | some d =>
      (try simp only at h)
      cases hN : Nat.blt d N.n with
      | false => rw [hN] at h; exact h.elim
      | true =>
        rw [hN] at h
        simp only at h
        have ex := opx_some hx
        split at h
        · exact xany_ok hk hs rfl hsf h
        · rename_i q hq
          obtain ⟨l, e, agg, sz⟩ := q
          (try simp only at h)
          split at h
          · obtain ⟨h1, h2⟩ := elX_arr ht hq
            haveI := h1
            exact s_lenA ex hN (hk _ _ hs h)
          · obtain ⟨h1, h2⟩ := elX_sl ht hq
            haveI := h1
            split at h
            · exact s_lenS ex hN (hk _ _ hs h)
            · exact s_lenS ex hN (hk _ _ hs h)
            · exact xany_ok hk hs rfl hsf h
theorem xmax_ok {ts : Array TypeId} {sfb : Bool} (hsf : sfb = sf ⟨dst, .call ⟨.builtin .max, #[x, y], ts⟩, ty, pos, aft, none⟩) (h : xmm P N w0 S km true sfb ⟨dst, .call ⟨.builtin .max, #[x, y], ts⟩, ty, pos, aft, none⟩ x y fs mem k) :
    GS P T sf al (denM km) K N w0 S (denF fs) (denM mem) (⟨dst, .call ⟨.builtin .max, #[x, y], ts⟩, ty, pos, aft, none⟩ :: rest) := by
  unfold xmm at h
  split at h
  · rename_i k1 m hx
    split at h
    · rename_i k2 n hy
      split at h
      · rename_i hkk
        have hkk := of_decide_eq_true hkk
        subst hkk
        cases dst with
        | none => exact h.elim
        | some d =>
          (try simp only at h)
          split at h
          · exact h.elim
          · rename_i hN
            obtain ⟨z, rfl, h⟩ := h.go
            exact s_max2 (opx_some hx) (opx_some hy) hN (hk _ _ hs h)
      · exact h.elim
    · exact xany_ok hk hs rfl hsf h
  · exact xany_ok hk hs rfl hsf h
theorem xmin_ok {ts : Array TypeId} {sfb : Bool} (hsf : sfb = sf ⟨dst, .call ⟨.builtin .min, #[x, y], ts⟩, ty, pos, aft, none⟩) (h : xmm P N w0 S km false sfb ⟨dst, .call ⟨.builtin .min, #[x, y], ts⟩, ty, pos, aft, none⟩ x y fs mem k) :
    GS P T sf al (denM km) K N w0 S (denF fs) (denM mem) (⟨dst, .call ⟨.builtin .min, #[x, y], ts⟩, ty, pos, aft, none⟩ :: rest) := by
  unfold xmm at h
  split at h
  · rename_i k1 m hx
    split at h
    · rename_i k2 n hy
      split at h
      · rename_i hkk
        have hkk := of_decide_eq_true hkk
        subst hkk
        cases dst with
        | none => exact h.elim
        | some d =>
          (try simp only at h)
          split at h
          · exact h.elim
          · rename_i hN
            obtain ⟨z, rfl, h⟩ := h.go
            exact s_min2 (opx_some hx) (opx_some hy) hN (hk _ _ hs h)
      · exact h.elim
    · exact xany_ok hk hs rfl hsf h
  · exact xany_ok hk hs rfl hsf h
theorem xappend_ok (ht : tab.ok P) {t : TypeId} {sfb : Bool} (hsf : sfb = sf ⟨dst, .call ⟨.builtin .append, #[x, y], #[t, t]⟩, ty, pos, aft, none⟩) (h : xappend P tab N w0 S km sfb ⟨dst, .call ⟨.builtin .append, #[x, y], #[t, t]⟩, ty, pos, aft, none⟩ t x y fs mem k) :
    GS P T sf al (denM km) K N w0 S (denF fs) (denM mem) (⟨dst, .call ⟨.builtin .append, #[x, y], #[t, t]⟩, ty, pos, aft, none⟩ :: rest) := by
  unfold xappend at h
  split at h
  · exact h.elim
  · split at h
    · rename_i hh A n c hx
      split at h
      · rename_i h2 b2 o2 m c2 hy
        cases dst with
        | none => exact h.elim
        | some d =>
          (try simp only at h)
          split at h
          · exact h.elim
          · rename_i hN
            split at h
            · rename_i e _ _ hel
              split at h
              · rename_i ei hei
                split at h
                · rename_i z zs hz
                  have F := Tr.get_ok ht hei
                  obtain ⟨hTS, _⟩ := elX_sl ht hel
                  haveI := hTS
                  haveI := F.tw _ hz (by simp)
                  haveI := F.tb
                  split at h
                  · rename_i hb e2 b' cs hb2
                    split at h
                    · rename_i r hr
                      split at h
                      · rename_i news hnews
                        obtain ⟨e1, l1⟩ := dropX_some hr
                        obtain ⟨e3, l3⟩ := takeX_some hnews
                        have hat := findB_at hb2
                        have hlen : (dens news).length = m * ei.sz := by rw [dens_length, ← e3, List.length_take]; omega
                        have hget : ∀ w, Loc w0 S (denM mem) w → ∀ j u, (dens news)[j]? = some u → w.cell? ((⟨b', o2, none⟩ : Addr).add j) = some u := fun w hl j u hu => by
                          rw [Addr.add_lit, cell_of_row w b' _ _ _ _ (hl.holds _ hat.mem)]
                          rw [← e3, ← e1, dens_map] at hu
                          rw [dens_map]
                          simp only [List.map_take, List.map_drop, List.getElem?_take] at hu
                          split at hu
                          · rw [List.getElem?_drop] at hu; simpa using hu
                          · cases hu
                        split at h
                        · rename_i hr e' sz' A' n' c' xs hrow
                          split at h
                          · exact h.elim
                          · rename_i he
                            split at h
                            · exact h.elim
                            · rename_i hsz
                              have he := of_decide_eq_true he
                              have hsz := of_decide_eq_true hsz
                              subst he hsz
                              split at h
                              · exact h.elim
                              · rename_i hnt
                                obtain ⟨⟨rfl, rfl, rfl, rfl⟩, h⟩ := h
                                obtain ⟨h1, h⟩ := xones_ok h
                                obtain ⟨nm, ys, rfl, rfl, hb, hby, h⟩ := h.go
                                have hup : ∀ A1 c1, ∃ mem', updB mem hh (.row hh e' ei.sz A1 (n + m) c1 (xs ++ dens news)) = some mem' ∧ (RF A1 (n + m) c1 → k ((d, .sl hh A1 (n + m) c1) :: fs) mem') := fun A1 c1 => by
                                  obtain ⟨mem', hm⟩ := updB_some (j := .row hh e' ei.sz A1 (n + m) c1 (xs ++ dens news)) hrow
                                  refine ⟨mem', hm, fun hf1 => ?_⟩
                                  have := h A1 c1 hf1
                                  rw [hm] at this
                                  exact this
                                refine s_append (is' := fun A1 c1 => denM (Classical.choose (hup A1 c1))) (opx_some hx) (findB_at hrow) (opx_some hy) hget hlen (allOne_den h1) rfl hb hby rfl (fun A1 c1 => updB_upd hrow (Classical.choose_spec (hup A1 c1)).1) hsf.symm (fun A1 c1 => denM_sub (updB_sub hs hnt (Classical.choose_spec (hup A1 c1)).1)) hN (fun A1 c1 hf1 => ?_)
                                exact hk _ _ (updB_sub hs hnt (Classical.choose_spec (hup A1 c1)).1) ((Classical.choose_spec (hup A1 c1)).2 hf1)
                        · exact xany_ok hk hs rfl hsf h
                        · obtain ⟨⟨rfl, rfl, rfl, rfl⟩, h⟩ := h
                          obtain ⟨h1, h⟩ := xones_ok h
                          obtain ⟨nm, ys, e4, rfl, hb, hby, h⟩ := h.go
                          obtain rfl : m = nm := by omega
                          refine s_appendN (opx_some hx) (opx_some hy) hget hlen (allOne_den h1) hb hby hsf.symm (denM_sub hs) hN (fun A1 c1 hf1 => ?_)
                          exact hk _ (.row d e ei.sz A1 m c1 (dens news) :: mem) (hs.cons _) (by have := h A1 c1 hf1; simpa using this)
                      · exact xany_ok hk hs rfl hsf h
                    · exact xany_ok hk hs rfl hsf h
                  · exact xany_ok hk hs rfl hsf h
                · exact h.elim
              · exact h.elim
            · exact h.elim
      · exact xany_ok hk hs rfl hsf h
    · exact xany_ok hk hs rfl hsf h
theorem lcall_ok {f : Operand} {F : FuncId} {first cap vs : List SV} {xs : List Operand} {ts : Array TypeId} (hx : opx fs f = some (.fn (.func F) first cap)) (ha : opxs fs xs = some vs)
    (hsf : sf ⟨dst, .call ⟨.value f, xs.toArray, ts⟩, ty, pos, aft, none⟩ = false) (hd : dOK N dst = true) (h : appK vs cap fun r => appK first r fun args => LCall P w0 S km F args mem fun v mem' => k (pushX dst v fs) mem') :
    GS P T sf al (denM km) K N w0 S (denF fs) (denM mem) (⟨dst, .call ⟨.value f, xs.toArray, ts⟩, ty, pos, aft, none⟩ :: rest) := by
  have h := appK_eq (appK_eq h)
  obtain ⟨hF, M, cons, keep, R, h1, h2, h3, h4, h5⟩ := h.go
  haveI := hF
  have hfirst : opv (denF fs) f = some (.func (.func F) (dens first).toArray (dens cap).toArray) := opx_some hx
  refine s_callM (R := fun v its => ∃ sv mi, v = SV.den sv ∧ its = denM mi ∧ R sv mi) hfirst (opxs_some ha) (fun w hl => ?_) h2 h3 hsf (denM_sub (h4 hs)) hd (fun v its hR => ?_)
  · have := h1 w hl
    rw [dens_append, dens_append] at this
    simpa using this
  · obtain ⟨sv, mi, rfl, rfl, hR⟩ := hR
    rw [← denF_push, ← denM_append]
    exact hk _ _ ((h4 hs).trans (List.sublist_append_right _ _)) (h5 sv mi hR)
theorem xcall_ok (ht : tab.ok P) {c : Call} {sfb : Bool} (hsf : sfb = sf ⟨dst, .call c, ty, pos, aft, none⟩) (h : xcall P tab N w0 S km sfb ⟨dst, .call c, ty, pos, aft, none⟩ c fs mem k) :
    GS P T sf al (denM km) K N w0 S (denF fs) (denM mem) (⟨dst, .call c, ty, pos, aft, none⟩ :: rest) := by
  obtain ⟨callee, args, ts⟩ := c
  unfold xcall at h
  cases callee with
  | value f =>
    simp only at h
    split at h
    · exact h.elim
    · split at h
      · exact h.elim
      · rename_i fv hf
        split at h
        · exact h.elim
        · rename_i vs hvs
          split at h
          · rename_i fn first cap
            split at h
            · rename_i F
              cases dst with
              | none => exact lcall_ok hk hs (xs := args.toList) hf hvs hsf.symm rfl h
              | some d =>
                (try simp only at h)
                split at h
                · exact h.elim
                · rename_i hN
                  exact lcall_ok hk hs (xs := args.toList) hf hvs hsf.symm hN h
            · exact xany_ok hk hs rfl hsf h
          · exact xany_ok hk hs rfl hsf h
  | invoke r m => exact xany_ok hk hs rfl hsf h
  | builtin b =>
    obtain ⟨args⟩ := args
    obtain ⟨ts⟩ := ts
    simp only at h
    split at h
    · split at h
      · split at h
        · split at h
          · exact xlen_ok hk hs ht rfl hsf h
          · exact xany_ok hk hs rfl hsf h
        · exact xany_ok hk hs rfl hsf h
      · split at h
        · split at h
          · exact xmax_ok hk hs hsf h
          · exact xmin_ok hk hs hsf h
          · split at h
            · split at h
              · rename_i hb
                have hb := Nat.eq_of_beq_eq_true hb
                subst hb
                exact xappend_ok hk hs ht hsf h
              · exact xany_ok hk hs rfl hsf h
            · exact xany_ok hk hs rfl hsf h
          · exact xany_ok hk hs rfl hsf h
        · exact xany_ok hk hs rfl hsf h
    · exact xany_ok hk hs rfl hsf h
end
end Go.Proofs.YtihboegopigkmaaDoor
