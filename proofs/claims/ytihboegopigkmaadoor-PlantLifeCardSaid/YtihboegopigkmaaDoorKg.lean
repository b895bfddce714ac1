/- Plants: what orders do, plain; rules as a parameter. -/
import Derived.Test.YtihboegopigkmaaDoorKf
import Derived.Test.YtihboegopigkmaaDoorDp
namespace Go.Proofs.YtihboegopigkmaaDoor
set_option linter.unusedSimpArgs false
set_option linter.unusedVariables false
set_option linter.unnecessarySimpa false
set_option maxRecDepth 100000
open Go.RowKit

theorem uOrd_again (on : Bool) (u : Un) (r : Rl) : uOrd on (uOrd on u r).1 r = ((uOrd on u r).1, false) := by
  unfold uOrd
  cases on with
  | true =>
    simp only [if_true]
    by_cases h : u.s = 1 ∨ u.s = 2
    · simp [h]
    · simp [h]
  | false =>
    simp only [Bool.false_eq_true, if_false]
    by_cases h : u.s = 0
    · simp [h]
    · simp [h, un0]
theorem uOrd_ne {on : Bool} {u : Un} {r : Rl} (h : (uOrd on u r).2 = true) : (uOrd on u r).1.s ≠ u.s := by
  unfold uOrd at h ⊢
  cases on with
  | true =>
    simp only [if_true] at h ⊢
    by_cases h1 : u.s = 1 ∨ u.s = 2
    · simp [h1] at h
    · rw [if_neg h1]; dsimp only; omega
  | false =>
    simp only [Bool.false_eq_true, if_false] at h ⊢
    by_cases h1 : u.s = 0
    · simp [h1] at h
    · rw [if_neg h1]; simp only [un0]; omega
theorem uOrd_same {on : Bool} {u : Un} {r : Rl} (h : (uOrd on u r).2 = false) : (uOrd on u r).1 = u := by
  unfold uOrd at h ⊢
  cases on with
  | true =>
    simp only [if_true] at h ⊢
    by_cases h1 : u.s = 1 ∨ u.s = 2
    · simp [h1]
    · simp [h1] at h
  | false =>
    simp only [Bool.false_eq_true, if_false] at h ⊢
    by_cases h1 : u.s = 0
    · simp [h1]
    · simp [h1] at h
open Classical in
/-- The units when some were ordered. -/
noncomputable def qU (on : Bool) (p : Pl) (done : List Int) (j : Nat) : Un := if (j : Int) ∈ done ∧ (j : Int) < p.n then (uOrd on (p.u j) (p.r j)).1 else p.u j
structure OI (on : Bool) (p : Pl) (done : List Int) (x : Pl × List Int) : Prop where
  n : x.1.n = p.n
  r : x.1.r = p.r
  u : ∀ j, x.1.u j = qU on p done j
  sub : ∀ o ∈ x.2, o ∈ done ∧ 0 ≤ o ∧ o < p.n ∧ (uOrd on (p.u o.toNat) (p.r o.toNat)).2 = true
  nodup : x.2.Nodup
theorem ordF_oi {on : Bool} {p : Pl} {done : List Int} {x : Pl × List Int} (h : OI on p done x) (i : Int) : OI on p (done ++ [i]) (ordF on x i) := by
  have hmem : ∀ o, o ∈ done ++ [i] ↔ o ∈ done ∨ o = i := fun o => by simp
  unfold ordF
  by_cases hin : 0 ≤ i ∧ i < x.1.n
  · rw [if_pos hin]
    obtain ⟨k, rfl⟩ : ∃ k : Nat, i = (k : Int) := ⟨i.toNat, by omega⟩
    rw [h.n] at hin
    rw [Int.toNat_natCast]
    by_cases hd : (k : Int) ∈ done
    · have e : x.1.u k = (uOrd on (p.u k) (p.r k)).1 := by rw [h.u]; unfold qU; rw [if_pos ⟨hd, hin.2⟩]
      have e2 : uOrd on (x.1.u k) (x.1.r k) = (x.1.u k, false) := by rw [e, h.r]; exact uOrd_again on _ _
      rw [e2]
      refine ⟨h.n, h.r, fun j => ?_, fun o ho => ?_, ?_⟩
      · have e3 : (x.1.setU k (x.1.u k)).u j = x.1.u j := by
          unfold Pl.setU; dsimp only
          split
          · rename_i hj; rw [hj]
          · rfl
        dsimp only
        rw [e3, h.u]
        unfold qU
        have : (j : Int) ∈ done ++ [(k : Int)] ↔ (j : Int) ∈ done := by
          rw [hmem]
          refine ⟨fun h => ?_, .inl⟩
          rcases h with h | h
          · exact h
          · rw [h]; exact hd
        simp only [this]
      · rw [if_neg Bool.false_ne_true] at ho
        have := h.sub o ho
        exact ⟨(hmem o).2 (.inl this.1), this.2⟩
      · rw [if_neg Bool.false_ne_true]; exact h.nodup
    · have e : x.1.u k = p.u k := by rw [h.u]; unfold qU; rw [if_neg (fun hh => hd hh.1)]
      rw [e, h.r]
      refine ⟨h.n, h.r, fun j => ?_, fun o ho => ?_, ?_⟩
      · unfold Pl.setU qU; dsimp only
        by_cases hj : j = k
        · subst hj
          rw [if_pos rfl, if_pos ⟨(hmem _).2 (.inr rfl), hin.2⟩]
        · rw [if_neg hj, h.u]
          unfold qU
          have : (j : Int) ∈ done ++ [(k : Int)] ↔ (j : Int) ∈ done := by
            rw [hmem]
            refine ⟨fun h => ?_, .inl⟩
            rcases h with h | h
            · exact h
            · omega
          simp only [this]
      · dsimp only at ho
        split at ho
        · rename_i hok
          rw [List.mem_append] at ho
          rcases ho with ho | ho
          · have := h.sub o ho
            exact ⟨(hmem o).2 (.inl this.1), this.2⟩
          · simp at ho
            subst ho
            exact ⟨(hmem _).2 (.inr rfl), hin.1, hin.2, hok⟩
        · have := h.sub o ho
          exact ⟨(hmem o).2 (.inl this.1), this.2⟩
      · dsimp only
        split
        · rw [List.nodup_append]
          refine ⟨h.nodup, by simp, fun a ha b hb => ?_⟩
          simp at hb
          subst hb
          intro hab
          subst hab
          exact hd (h.sub _ ha).1
        · exact h.nodup
  · rw [if_neg hin]
    refine ⟨h.n, h.r, fun j => ?_, fun o ho => ?_, h.nodup⟩
    · rw [h.u]
      unfold qU
      rw [h.n] at hin
      by_cases hj : (j : Int) = i
      · have hlt : ¬ (j : Int) < p.n := by omega
        simp [hlt]
      · have : (j : Int) ∈ done ++ [i] ↔ (j : Int) ∈ done := by
          rw [hmem]
          exact ⟨fun h => h.resolve_right hj, .inl⟩
        simp only [this]
    · have := h.sub o ho
      exact ⟨(hmem o).2 (.inl this.1), this.2⟩
theorem fold_oi {on : Bool} {p : Pl} : ∀ {l done : List Int} {x : Pl × List Int}, OI on p done x → OI on p (done ++ l) (l.foldl (ordF on) x)
  | [], done, x, h => by simpa using h
  | i :: l, done, x, h => by
    have := fold_oi (l := l) (ordF_oi h i)
    rw [List.append_assoc] at this
    exact this
theorem ordN_oi (on : Bool) (p : Pl) (l : List Int) : OI on p l (ordN on p l) := by
  have h0 : OI on p [] (p, []) := ⟨rfl, rfl, fun j => by unfold qU; simp, fun o ho => by simp at ho, List.nodup_nil⟩
  have := fold_oi (l := l) h0
  simpa [ordN] using this
theorem Pl.ext' {p q : Pl} (hu : p.u = q.u) (hr : p.r = q.r) (hn : p.n = q.n) : p = q := by cases p; cases q; simp_all
theorem ordN_again (on : Bool) (p : Pl) (l : List Int) : ordN on (ordN on p l).1 l = ((ordN on p l).1, []) := by
  have ho := ordN_oi on p l
  obtain ⟨q, hq⟩ : ∃ q, (ordN on p l).1 = q := ⟨_, rfl⟩
  rw [hq]
  have hn := ho.n; have hr := ho.r; have hu := ho.u
  rw [hq] at hn hr hu
  have key : ∀ l' : List Int, (∀ i ∈ l', i ∈ l) → l'.foldl (ordF on) (q, []) = (q, []) := by
    intro l'
    induction l' with
    | nil => intro _; rfl
    | cons i l' ih =>
      intro hsub
      rw [List.foldl_cons]
      have e : ordF on (q, []) i = (q, []) := by
        unfold ordF
        by_cases hin : 0 ≤ i ∧ i < q.n
        · rw [if_pos hin]
          obtain ⟨k, rfl⟩ : ∃ k : Nat, i = (k : Int) := ⟨i.toNat, by omega⟩
          have e2 : uOrd on (q.u k) (q.r k) = (q.u k, false) := by
            rw [hu, hr]
            unfold qU
            rw [if_pos ⟨hsub _ (by simp), by omega⟩]
            exact uOrd_again on _ _
          rw [Int.toNat_natCast, e2]
          refine Prod.ext (Pl.ext' (funext fun j => ?_) rfl rfl) rfl
          unfold Pl.setU; dsimp only
          split
          · rename_i hj; rw [hj]
          · rfl
        · rw [if_neg hin]
      rw [e]
      exact ih fun i hi => hsub i (by simp [hi])
  exact key l fun _ h => h
theorem ordN_apart {on : Bool} {p : Pl} {l : List Int} {i : Int} (h : i ∉ l) : (ordN on p l).1.at i = p.at i := by
  have ho := ordN_oi on p l
  unfold Pl.at
  rw [ho.n]
  split
  · rename_i hin
    rw [ho.u]
    unfold qU
    rw [if_neg (fun hh => h (by have := hh.1; rwa [Int.toNat_of_nonneg hin.1] at this))]
  · rfl
theorem ordN_moved {on : Bool} {p : Pl} {l : List Int} {o : Int} (h : o ∈ (ordN on p l).2) : ((ordN on p l).1.at o).s ≠ (p.at o).s := by
  have ho := ordN_oi on p l
  obtain ⟨h1, h2, h3, h4⟩ := ho.sub o h
  unfold Pl.at
  rw [ho.n, if_pos ⟨h2, h3⟩, if_pos ⟨h2, h3⟩, ho.u]
  unfold qU
  rw [if_pos ⟨by rw [Int.toNat_of_nonneg h2]; exact h1, by omega⟩]
  exact uOrd_ne h4
theorem seen_no {os : List Int} (hd : os.Nodup) {j : Nat} (hj : j < os.length) : hasN (withN 0 (os.take j)) (os.getD j 0) = false := by
  obtain ⟨o, ho⟩ : ∃ o, os.getD j 0 = o := ⟨_, rfl⟩
  rw [ho]
  unfold hasN
  by_cases h : 0 ≤ o ∧ o < 16
  · rw [withN_bit _ _ (by omega)]
    have : (os.take j).any (fun i => decide (i = ((o.toNat : Nat) : Int))) = false := by
      rw [Bool.eq_false_iff]
      intro ha
      rw [List.any_eq_true] at ha
      obtain ⟨i, hi, he⟩ := ha
      have he := of_decide_eq_true he
      rw [Int.toNat_of_nonneg h.1] at he
      subst he
      obtain ⟨m, hm, he⟩ := List.getElem_of_mem hi
      rw [List.getElem_take] at he
      rw [List.length_take] at hm
      have e2 : os[j] = i := by rw [← ho]; simp [List.getD, List.getElem?_eq_getElem hj]
      exact List.pairwise_iff_getElem.1 hd m j (by omega) hj (by omega) (by rw [he, e2])
    rw [this]
    simp
  · rw [decide_eq_false h]; rfl
theorem rrow_of {w : World} {v : Value} (h : okD w (.s [.i .u8, .i .u8]) v) : ∃ A n c rs, v = .slice A n c ∧ n ≤ c ∧ c ≤ maxLen ∧ RRow w A n rs ∧ ∀ j, (rs j).ok := by
  rw [okD] at h
  obtain ⟨A, n, c, rfl, h1, h2, _, h4⟩ := h
  by_cases hn : 0 < n
  · obtain ⟨b, o, hA, hc⟩ := h4 hn
    have hx : ∀ j, ∃ r : Rl, r.ok ∧ (j < n → ∀ i u, (dens r.svs)[i]? = some u → w.cell? ⟨b, o + j * 2 + i, none⟩ = some u) := fun j => by
      by_cases hj : j < n
      · obtain ⟨cs, hcs, hok⟩ := hc j hj
        simp only [okDs] at hok
        obtain ⟨v1, r1, rfl, ⟨x1, rfl, i1⟩, v2, r2, rfl, ⟨x2, rfl, i2⟩, rfl⟩ := hok
        simp only [inR] at i1 i2
        exact ⟨⟨x1, x2⟩, by unfold Rl.ok U8; dsimp only; omega, fun _ i u hu => hcs i u hu⟩
      · exact ⟨⟨0, 0⟩, rl0_ok, fun h => absurd h hj⟩
    exact ⟨A, n, c, fun j => (hx j).choose, rfl, h1, h2, fun _ => ⟨b, o, hA, fun j hj => (hx j).choose_spec.2 hj⟩, fun j => (hx j).choose_spec.1⟩
  · exact ⟨A, n, c, fun _ => ⟨0, 0⟩, rfl, h1, h2, fun h => absurd h hn, fun _ => rl0_ok⟩
theorem sl_preS {A : Option Addr} {c hi' sz : Nat} {hi : Int} {X : SV → Prop} (tag : Nat) (h : 0 ≤ hi ∧ hi ≤ c) (hhi : hi.toNat = hi') (nx : X (.sl tag A hi' c)) : LSl A c sz 0 hi X := by
  subst hhi
  refine ⟨by omega, h.1, h.2, .sl tag A hi.toNat c, ?_, nx⟩
  show Value.slice A hi.toNat c = _
  congr 1
  split
  · rfl
  · cases A with
    | none => rfl
    | some a => simp [Addr.add]
theorem RRow.pre {w : World} {A : Option Addr} {n m : Nat} {rs : Nat → Rl} (h : RRow w A n rs) (hm : m ≤ n) : RRow w A m rs := fun h0 => by
  obtain ⟨b, o, hA, hc⟩ := h (by omega)
  exact ⟨b, o, hA, fun j hj => hc j (by omega)⟩
theorem RRow.loc {w0 w : World} {is : List Itm} {A : Option Addr} {n : Nat} {rs : Nat → Rl} (h : RRow w0 A n rs) (hl : Loc w0 [] is w) : RRow w A n rs := fun h0 => by
  obtain ⟨b, o, hA, hc⟩ := h h0
  exact ⟨b, o, hA, fun j hj i u hu => hl.old (hc j hj i u hu) (by simp)⟩
end Go.Proofs.YtihboegopigkmaaDoor
