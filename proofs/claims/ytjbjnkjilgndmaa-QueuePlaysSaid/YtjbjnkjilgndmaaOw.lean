/- Queues: every script of reports that are put and taken: the plain part. -/
import Derived.Test.YtjbjnkjilgndmaaOv
namespace Go.Proofs.Ytjbjnkjilgndmaa.RQ
set_option linter.unusedSimpArgs false
set_option linter.unusedVariables false
set_option linter.unnecessarySimpa false
set_option maxRecDepth 100000
set_option maxHeartbeats 4000000
open Go.RowKit

/-- A report as it lies, and what it says. -/
structure M1 (L : List BL) (x : En) (p : Rp) : Prop where
  q : x.q = p.q
  t : x.t = p.t
  g : x.g = p.g
  d : x.d = p.d
  n : x.n = p.zs.length
  le : p.zs.length ≤ 1000
  mem : (x.A, x.c, p.zs) ∈ L
structure Mt (L : List BL) (es : List En) (l : List Rp) : Prop where
  len : es.length = l.length
  at_ : ∀ i, i < l.length → M1 L (es.getD i e0) (l.getD i p0)
theorem M1.mono {L L' : List BL} {x : En} {p : Rp} (h : M1 L x p) (hs : ∀ b ∈ L, b ∈ L') : M1 L' x p := ⟨h.q, h.t, h.g, h.d, h.n, h.le, hs _ h.mem⟩
theorem mt_nil (L : List BL) : Mt L [] [] := ⟨rfl, fun i h => absurd h (Nat.not_lt_zero _)⟩
theorem getD_app {α : Type} (d : α) {xs : List α} {x : α} {i : Nat} (h : i < xs.length) : (xs ++ [x]).getD i d = xs.getD i d := by
  simp [List.getD, List.getElem?_append_left h]
theorem getD_end {α : Type} (d : α) {xs : List α} {x : α} : (xs ++ [x]).getD xs.length d = x := by simp [List.getD]
theorem getD_drop {α : Type} (d : α) {xs : List α} {k i : Nat} : (xs.drop k).getD i d = xs.getD (k + i) d := by simp [List.getD]
theorem getD_take {α : Type} (d : α) {xs : List α} {k i : Nat} (h : i < k) : (xs.take k).getD i d = xs.getD i d := by
  simp only [List.getD]; rw [List.getElem?_take, if_pos h]
theorem Mt.snoc {L L' : List BL} {es : List En} {l : List Rp} {x : En} {p : Rp} (h : Mt L es l) (hs : ∀ b ∈ L, b ∈ L') (hx : M1 L' x p) : Mt L' (es ++ [x]) (l ++ [p]) := by
  have hl := h.len
  refine ⟨by rw [List.length_append, List.length_append, hl]; rfl, fun i hi => ?_⟩
  rw [List.length_append, List.length_singleton] at hi
  by_cases e : i < l.length
  · rw [getD_app _ e, getD_app _ (by omega)]
    exact (h.at_ i e).mono hs
  · obtain rfl : i = l.length := by omega
    rw [getD_end, ← hl, getD_end]
    exact hx
theorem Mt.take {L : List BL} {es : List En} {l : List Rp} (h : Mt L es l) (k : Nat) : Mt L (es.take k) (l.take k) := by
  have hl := h.len
  refine ⟨by rw [List.length_take, List.length_take, hl], fun i hi => ?_⟩
  rw [List.length_take] at hi
  rw [getD_take _ (by omega), getD_take _ (by omega)]
  exact h.at_ i (by omega)
theorem Mt.drop {L : List BL} {es : List En} {l : List Rp} (h : Mt L es l) (k : Nat) : Mt L (es.drop k) (l.drop k) := by
  have hl := h.len
  refine ⟨by rw [List.length_drop, List.length_drop, hl], fun i hi => ?_⟩
  rw [List.length_drop] at hi
  rw [getD_drop, getD_drop]
  exact h.at_ _ (by omega)
theorem Mt.sm {L : List BL} {es : List En} {l : List Rp} {w : World} {e : TypeId} (h : Mt L es l) (hb : (bag e L).holds w) : Sm w es l :=
  ⟨h.len, fun i hi => by
    have k := h.at_ i hi
    exact ⟨k.q, k.t, k.g, k.d, by have := k.n; have := k.le; omega, by have := bag_irow hb k.mem; rw [k.n]; exact this⟩⟩
theorem Mt.dats {L : List BL} {r : Rg} {l : List Rp} {w : World} {e : TypeId} (h : Mt L r.list l) (hb : (bag e L).holds w) : Dats w r (l.map (·.zs)) := by
  have hl := h.len
  rw [r.list_len] at hl
  refine ⟨by rw [List.length_map]; exact hl.symm, fun j hj => ?_⟩
  have k := h.at_ j (by omega)
  rw [r.list_get hj] at k
  have e : (l.map (·.zs)).getD j [] = (l.getD j p0).zs := by simp [List.getD, List.getElem?_eq_getElem (show j < l.length by omega)]
  rw [e]
  have h1 := bag_irow hb k.mem
  have h2 := bag_rf hb k.mem
  have h3 := k.n
  have h4 := k.le
  exact ⟨by rw [h3]; exact h1, h2.2.1, by omega, by rw [h3]; exact h2.1.1⟩
theorem Mt.qz {L L7 : List BL} {r : Rg} {l : List Rp} (h : Mt L r.list l) (h7 : L7.map (·.2.2) = l.map (·.zs)) : Mt L7 (qz r.at L7) l := by
  have hl := h.len
  rw [r.list_len] at hl
  have hl7 : L7.length = l.length := by have := congrArg List.length h7; simpa using this
  refine ⟨by rw [qz_len, hl7], fun i hi => ?_⟩
  have k := h.at_ i hi
  rw [r.list_get (by omega)] at k
  have e : (RQ.qz r.at L7).getD i e0 = (r.at i).with (L7.getD i (none, 0, [])) := by
    unfold RQ.qz
    simp [List.getD, List.getElem?_eq_getElem (show i < L7.length by omega), List.getElem?_range (show i < L7.length by omega)]
  have e2 : (L7.getD i (none, 0, [])).2.2 = (l.getD i p0).zs := by
    have := congrArg (fun z : List (List Int) => z[i]?) h7
    simp only [List.getElem?_map, List.getElem?_eq_getElem (show i < L7.length by omega), List.getElem?_eq_getElem hi, Option.map_some, Option.some.injEq] at this
    simp only [List.getD, List.getElem?_eq_getElem (show i < L7.length by omega), List.getElem?_eq_getElem hi, Option.getD_some]
    exact this
  rw [e]
  refine ⟨k.q, k.t, k.g, k.d, ?_, k.le, ?_⟩
  · show (L7.getD i (none, 0, [])).2.2.length = _
    rw [e2]
  · show ((L7.getD i (none, 0, [])).1, (L7.getD i (none, 0, [])).2.1, _) ∈ L7
    rw [← e2]
    simp only [List.getD, List.getElem?_eq_getElem (show i < L7.length by omega), Option.getD_some]
    exact List.getElem_mem _
/-- What holds between two acts. -/
structure Qi (K j : Nat) (r : Rg) (s : Nat) (l : List Rp) (L1 L2 : List BL) (ys : List En) (A : Option Addr) (c : Nat) : Prop where
  ok : r.ok
  m : r.m = K
  s : s ≤ j
  p : Mt L1 r.list l
  d : Mt L2 ys l
  f : RF A ys.length c
theorem Qi.ys {K j : Nat} {r : Rg} {s : Nat} {l : List Rp} {L1 L2 : List BL} {ys : List En} {A : Option Addr} {c : Nat} (h : Qi K j r s l L1 L2 ys A c) : ys.length = r.n := by
  have h1 := h.p.len
  have h2 := h.d.len
  rw [r.list_len] at h1
  omega
theorem qi_new {K : Nat} (hK : 1 ≤ K ∧ K ≤ 16) : Qi K 0 (rgNew K) 0 [] [] [] [] none 0 :=
  ⟨rgNew_ok (by omega), rfl, Nat.le_refl _, mt_nil _, mt_nil _, ⟨Nat.le_refl _, Nat.zero_le _⟩, fun _ => rfl, fun h => absurd h (Nat.lt_irrefl _)⟩
theorem more_list {r : Rg} (h : r.ok) (hn : ¬ r.n = r.m) (v : En) : (r.more v).list = r.list ++ [v] := by
  have := r.offer_list h v (by have := h.n; omega)
  unfold Rg.offer at this
  rw [if_neg hn] at this
  exact this
theorem Qi.put {K j : Nat} {r : Rg} {s : Nat} {l : List Rp} {L1 L2 : List BL} {ys : List En} {A A' A3 A4 : Option Addr} {c c' c3 c4 : Nat} (h : Qi K j r s l L1 L2 ys A c) (hn : ¬ r.n = K) (q t d : Int) (Y : List Int) (hY : Y.length ≤ 1000) (hf : RF A' (ys.length + 1) c') :
    Qi K (j + 1) (r.more ⟨q, t, s, d, A3, Y.length, c3⟩) (s + 1) (l ++ [⟨q, t, s, d, Y⟩]) (L1 ++ [(A3, c3, Y)]) (L2 ++ [(A4, c4, Y)]) (ys ++ [⟨q, t, s, d, A4, Y.length, c4⟩]) A' c' := by
  have hm := h.m
  have hs := h.s
  have sub : ∀ (L : List BL) (x : BL), ∀ b ∈ L, b ∈ L ++ [x] := fun L x b hb => List.mem_append.2 (.inl hb)
  have own : ∀ (L : List BL) (x : BL), x ∈ L ++ [x] := fun L x => List.mem_append.2 (.inr (List.mem_singleton.2 rfl))
  refine ⟨more_ok h.ok (by omega) _, hm, by omega, ?_, h.d.snoc (sub _ _) ⟨rfl, rfl, rfl, rfl, rfl, hY, own _ _⟩, by rw [List.length_append]; exact hf⟩
  rw [more_list h.ok (by omega)]
  exact h.p.snoc (sub _ _) ⟨rfl, rfl, rfl, rfl, rfl, hY, own _ _⟩
theorem Qi.no {K j : Nat} {r : Rg} {s : Nat} {l : List Rp} {L1 L2 : List BL} {ys : List En} {A : Option Addr} {c : Nat} (h : Qi K j r s l L1 L2 ys A c) : Qi K (j + 1) r.full s l L1 L2 ys A c :=
  ⟨full_ok h.ok, h.m, by have := h.s; omega, h.p, h.d, h.f⟩
theorem Qi.pop {K j : Nat} {r : Rg} {s : Nat} {l : List Rp} {L1 L2 : List BL} {ys : List En} {A A' : Option Addr} {c c' : Nat} (h : Qi K j r s l L1 L2 ys A c) (k : Nat) (hk : k ≤ r.n) (hf : RF A' (ys.length - k) c') :
    Qi K (j + 1) (popI r k) s (l.drop k) L1 L2 (ys.drop k) A' c' := by
  obtain ⟨h1, h2, h3, h4⟩ := popI_list h.ok k hk
  refine ⟨popI_ok h.ok k, by rw [h2, h.m], by have := h.s; omega, by rw [h4]; exact h.p.drop k, h.d.drop k, by rw [List.length_drop]; exact hf⟩
/-! Acts. -/
structure Ac where
  (a q t d N : Int)
  (A : Option Addr)
  (n c : Nat)
  (zs : List Int)
def a0 : Ac := ⟨0, 0, 0, 0, 0, none, 0, 0, []⟩
def Ac.svs (x : Ac) : List SV := [u8 x.a, u8 x.q, u8 x.t, u32 x.d, .sl 0 x.A x.n x.c, i64 x.N]
structure Ac.ok (w : World) (x : Ac) : Prop where
  a : 0 ≤ x.a ∧ x.a < 256
  q : 0 ≤ x.q ∧ x.q < 256
  t : 0 ≤ x.t ∧ x.t < 256
  d : 0 ≤ x.d ∧ x.d < 4294967296
  N : -9223372036854775808 ≤ x.N ∧ x.N ≤ 9223372036854775807
  ir : IRow .u8 w x.A x.n x.zs
  le : x.n ≤ x.c
  mx : x.c ≤ 9223372036854775807
def ARow (w : World) (A : Option Addr) (n : Nat) (zs : List Ac) : Prop :=
  zs.length = n ∧ (0 < n → ∃ b off, A = some ⟨b, off, none⟩ ∧ ∀ j, j < n → ∀ i u, (dens (zs.getD j a0).svs)[i]? = some u → w.cell? ⟨b, off + j * 6 + i, none⟩ = some u)
theorem ixs_A {w : World} {A : Option Addr} {n j : Nat} {zs : List Ac} {X : Nat → Nat → Prop} (hr : ARow w A n zs) (h : j < n)
    (nx : ∀ b o, (∀ i u, (dens (zs.getD j a0).svs)[i]? = some u → w.cell? ⟨b, o + (j : Int).toNat * 6 + i, none⟩ = some u) → X b (o + (j : Int).toNat * 6)) : LIxS A (j : Int) n 6 X := by
  obtain ⟨b, o, hA, hc⟩ := hr.2 (by omega)
  exact ⟨by omega, by omega, b, o, hA, nx b o (by rw [Int.toNat_natCast]; exact hc j h)⟩
theorem arow_of {w : World} {v : Value} (h : okD w (.s [.i .u8, .i .u8, .i .u8, .i .u32, .s [.i .u8], .i .i64]) v) : ∃ A n c zs, v = .slice A n c ∧ n ≤ c ∧ c ≤ maxLen ∧ ARow w A n zs ∧ ∀ x ∈ zs, x.ok w := by
  rw [okD] at h
  obtain ⟨A, n, c, rfl, h1, h2, _, h4⟩ := h
  by_cases hn : 0 < n
  · obtain ⟨b, o, hA, hc⟩ := h4 hn
    have hx : ∀ j, ∃ r : Ac, r.ok w ∧ (j < n → ∀ i u, (dens r.svs)[i]? = some u → w.cell? ⟨b, o + j * 6 + i, none⟩ = some u) := fun j => by
      by_cases hj : j < n
      · obtain ⟨cs, hcs, hok⟩ := hc j hj
        obtain ⟨x1, r1, rfl, i1, hok⟩ := dk_i hok
        obtain ⟨x2, r2, rfl, i2, hok⟩ := dk_i hok
        obtain ⟨x3, r3, rfl, i3, hok⟩ := dk_i hok
        obtain ⟨x4, r4, rfl, i4, hok⟩ := dk_i hok
        obtain ⟨A5, n5, c5, z5, r5, rfl, ir5, le5, mx5, _, _, hok⟩ := dk_s hok
        obtain ⟨x6, r6, rfl, i6, hok⟩ := dk_i hok
        obtain rfl := dk_nil hok
        simp only [inR] at i1 i2 i3 i4 i6
        unfold maxLen at mx5
        exact ⟨⟨x1, x2, x3, x4, x6, A5, n5, c5, z5⟩, ⟨by dsimp only; omega, by dsimp only; omega, by dsimp only; omega, by dsimp only; omega, by dsimp only; omega, ir5, le5, by dsimp only; omega⟩, fun _ i u hu => hcs i u hu⟩
      · exact ⟨a0, ⟨by decide, by decide, by decide, by decide, by decide, IRow.nil _ _ _, by decide, by decide⟩, fun h => absurd h hj⟩
    refine ⟨A, n, c, (List.range n).map fun j => (hx j).choose, rfl, h1, h2, ⟨by simp, fun _ => ⟨b, o, hA, fun j hj => ?_⟩⟩, fun x hm => ?_⟩
    · rw [List.getD_eq_getElem?_getD, List.getElem?_map, List.getElem?_range hj]
      exact (hx j).choose_spec.2 hj
    · simp only [List.mem_map, List.mem_range] at hm
      obtain ⟨j, _, rfl⟩ := hm
      exact (hx j).choose_spec.1
  · obtain rfl : n = 0 := by omega
    exact ⟨A, 0, c, [], rfl, h1, h2, ⟨rfl, fun h => absurd h hn⟩, fun x hm => by cases hm⟩
end Go.Proofs.Ytjbjnkjilgndmaa.RQ
