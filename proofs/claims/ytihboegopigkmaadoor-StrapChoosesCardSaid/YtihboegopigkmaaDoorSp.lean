/- More steps of a walk over states: literals, append, slices, equality of structs and arrays. -/
import Derived.Test.YtihboegopigkmaaDoorSo
import Derived.Maps.AppendAt
import Derived.Laws.MakeOwn
namespace Go.Proofs.YtihboegopigkmaaDoor
set_option linter.unusedSimpArgs false
set_option linter.unusedVariables false
set_option linter.unnecessarySimpa false
set_option linter.unusedSectionVars false
open Go.RowKit

/-! ### Literals of structs and arrays -/
theorem splice_set (l : List Value) (n : Nat) (v : Value) (vs : List Value) (h : n < l.length) : splice (l.set n v) (n + 1) vs = splice l n (v :: vs) := by
  unfold splice
  rw [List.set_eq_take_append_cons_drop, if_pos h]
  have h1 : (l.take n).length = n := by simp; omega
  rw [List.take_append, List.drop_append, h1]
  have e1 : n + 1 - n = 1 := by omega
  have e2 : n + 1 + vs.length - n = vs.length + 1 := by omega
  have e3 : List.take (n + 1) (l.take n) = l.take n := List.take_of_length_le (by omega)
  have e4 : List.drop (n + 1 + vs.length) (l.take n) = [] := List.drop_of_length_le (by omega)
  rw [e1, e2, e3, e4]
  simp [List.drop_drop]
  congr 1
  omega
theorem foldSet : ∀ (vs : List Value) (k off : Nat) (cells : Array Value), off + k + vs.length ≤ cells.size →
    (vs.zipIdx k).foldl (fun cs p => cs.setIfInBounds (off + p.2) p.1) cells = (splice cells.toList (off + k) vs).toArray
  | [], k, off, cells, h => by simp [splice]
  | v :: vs, k, off, cells, h => by
    simp only [List.length_cons] at h
    rw [List.zipIdx_cons, List.foldl_cons, foldSet vs (k + 1) off _ (by simp; omega)]
    simp only [Array.toList_setIfInBounds]
    rw [show off + (k + 1) = off + k + 1 by omega, splice_set _ _ _ _ (by simp; omega)]

inductive Fil (place : Nat → Option (Nat × Nat)) : List Value → List (Nat × Value) → List Value → Prop
  | nil {cs} : Fil place cs [] cs
  | cons {cs cs1 cs2 vs v i off parts} : place i = some (off, vs.length) → v.cells = vs.toArray → off + vs.length ≤ cs.length → splice cs off vs = cs1 → Fil place cs1 parts cs2 → Fil place cs ((i, v) :: parts) cs2
theorem Fil.fill {place : Nat → Option (Nat × Nat)} {cs cs' : List Value} {parts : List (Nat × Value)} (h : Fil place cs parts cs') : Instr.fill place cs.toArray parts = some cs'.toArray := by
  induction h with
  | nil => rfl
  | @cons cs cs1 cs2 vs v i off parts h1 h2 h3 h4 _ ih =>
    unfold Instr.fill
    simp only [h1, h2]
    rw [if_neg (by simp; omega)]
    rw [← ih, ← h4]
    congr 1
    have := foldSet vs 0 off cs.toArray (by rw [List.size_toArray]; omega)
    simp only [Nat.add_zero, List.toList_toArray] at this
    rw [← this]
    simp

/-- A splice, reckoned. -/
inductive App : List Value → List Value → List Value → Prop
  | nil {r} : App [] r r
  | cons {x l r s} : App l r s → App (x :: l) r (x :: s)
theorem App.eq {l r s : List Value} (h : App l r s) : l ++ r = s := by
  induction h with
  | nil => rfl
  | cons _ ih => simp [ih]
inductive Spl : List Value → Nat → List Value → List Value → Prop
  | z {l} : Spl l 0 [] l
  | c {x l v vs r} : Spl l 0 vs r → Spl (x :: l) 0 (v :: vs) (v :: r)
  | s {x l n vs r} : Spl l n vs r → Spl (x :: l) (n + 1) vs (x :: r)
theorem Spl.eq {l r vs : List Value} {n : Nat} (h : Spl l n vs r) : splice l n vs = r ∧ n + vs.length ≤ l.length := by
  induction h with
  | z => simp [splice]
  | c _ ih => simp [splice] at ih ⊢; exact ⟨ih.1, by omega⟩
  | @s x l n vs r _ ih =>
    simp only [splice] at ih ⊢
    refine ⟨?_, by simp; omega⟩
    rw [← ih.1, show n + 1 + vs.length = (n + vs.length) + 1 by omega, List.drop_succ_cons]
    simp
inductive FilL (place : Nat → Option (Nat × Nat)) : List Value → List (Nat × Value) → List Value → Prop
  | nil {cs} : FilL place cs [] cs
  | cons {cs cs1 cs2 vs v i off off' parts} : v.cells = vs.toArray → place i = some (off', vs.length) → off' = off → Spl cs off vs cs1 → FilL place cs1 parts cs2 → FilL place cs ((i, v) :: parts) cs2
theorem FilL.fil {place : Nat → Option (Nat × Nat)} {cs cs' : List Value} {parts : List (Nat × Value)} (h : FilL place cs parts cs') : Fil place cs parts cs' := by
  induction h with
  | nil => exact .nil
  | cons h2 h1 h0 h3 _ ih => subst h0; exact .cons h1 h2 h3.eq.2 h3.eq.1 ih

class TBd (P : Program) (t : TypeId) (place : outParam (Nat → Option (Nat × Nat))) (z : outParam (List Value)) : Prop where
  h : ∀ parts, P.built t parts = Instr.fill place z.toArray parts

/-- Operands with their places. -/
def opvps (fs : List (Nat × Value)) : List (Nat × Operand) → Option (List (Nat × Value))
  | [] => some []
  | (i, x) :: xs => match opv fs x, opvps fs xs with
    | some v, some vs => some ((i, v) :: vs)
    | _, _ => none
theorem Kn.evalps {N : FN} {fs : List (Nat × Value)} {a : Act} (h : Kn N fs a) {xs : List (Nat × Operand)} {vs : List (Nat × Value)} (hx : opvps fs xs = some vs) : xs.map (fun p => (p.1, a.eval p.2)) = vs := by
  induction xs generalizing vs with
  | nil => simpa [opvps] using hx
  | cons x xs ih =>
    obtain ⟨i, x⟩ := x
    simp only [opvps] at hx
    cases h1 : opv fs x with
    | none => simp [h1] at hx
    | some v =>
      cases h2 : opvps fs xs with
      | none => simp [h1, h2] at hx
      | some vs' =>
        simp [h1, h2] at hx
        subst hx
        simp [h.eval h1, ih h2]

section
variable {P : Program} {T : List (Option Tmp)} {sf al : Oper → Bool} {ks : List Itm} {K : Act → World → Prop} {N : FN} {w0 : World} {S : List Nat} {fs : List (Nat × Value)} {is : List Itm} {rest : List Oper} [AlC al]
variable {d : Tmp} {ty : TypeId} {pos : String} {aft : Array Edge} {op : Op} {x y : Operand} {v : Value}

theorem s_build {t : TypeId} {place : Nat → Option (Nat × Nat)} {z cs : List Value} {parts : List (Nat × Operand)} {vs : List (Nat × Value)} [h : TBd P t place z] (hx : opvps fs parts = some vs) (hf : FilL place z vs cs) (hd : Nat.blt d N.n = true)
    (nx : GS P T sf al ks K N w0 S ((d, .agg cs.toArray) :: fs) is rest) : GS P T sf al ks K N w0 S fs is (⟨some d, .build t parts.toArray, ty, pos, aft, none⟩ :: rest) :=
  s_val rfl hd (fun a w hk _ _ => by
    have e := hk.evalps hx
    have hb : P.built t (parts.toArray.map fun p => (p.1, a.eval p.2)).toList = some cs.toArray := by
      rw [h.h, ← hf.fil.fill]
      congr 1
      simp [e]
    have := run_build w t _ _ hb
    simp only [execOp]
    simp at this ⊢
    simp [this]) nx

class TRw (P : Program) (e : TypeId) (sz : outParam Nat) (z : outParam (List Value)) : Prop where
  s : (P.info? e).map (·.size) = some sz
  zc : ((P.info? e).bind (·.zero)).map (·.cells) = some z.toArray
  l : z.length = sz
  p : 0 < sz
/-- The cells of n zero elements. -/
def zeros : Nat → List Value → List Value
  | 0, _ => []
  | n + 1, z => z ++ zeros n z
theorem zeros_len (n : Nat) (z : List Value) : (zeros n z).length = n * z.length := by
  induction n with
  | zero => simp [zeros]
  | succ n ih => simp [zeros, ih, Nat.add_mul]; omega
theorem zeros_get (z : List Value) (hz : 0 < z.length) : ∀ (n i : Nat), i < n * z.length → (zeros n z)[i]? = z[i % z.length]?
  | 0, i, h => by simp at h
  | n + 1, i, h => by
    rw [zeros, List.getElem?_append]
    split
    · rename_i h1; rw [Nat.mod_eq_of_lt h1]
    · rename_i h1
      rw [zeros_get z hz n (i - z.length) (by rw [Nat.add_mul] at h; omega)]
      rw [← Nat.mod_eq_sub_mod (by omega)]
theorem zeros_eq (z : Array Value) (hz : 0 < z.size) (n : Nat) : (Array.range (n * z.size)).map (fun i => z[i % z.size]!) = (zeros n z.toList).toArray := by
  apply Array.ext'
  apply List.ext_getElem?
  intro i
  simp only [Array.toList_map, Array.toList_range, List.getElem?_map, List.toList_toArray]
  by_cases hi : i < n * z.size
  · rw [zeros_get z.toList (by simpa using hz) n i (by simpa using hi)]
    have hm : i % z.size < z.size := Nat.mod_lt _ hz
    simp [hi, hm]
  · have : (zeros n z.toList).length ≤ i := by rw [zeros_len]; simp; omega
    rw [List.getElem?_eq_none this]
    simp [hi]
theorem zeros_one (x : Value) (n : Nat) : zeros n [x] = List.replicate n x := by
  induction n with
  | zero => rfl
  | succ n ih => simp [zeros, ih, List.replicate_succ]

theorem TRw.run {e : TypeId} {sz : Nat} {z : List Value} [h : TRw P e sz z] (w : World) : (sizeOf e).run P w = .ok sz w ∧ ∃ v, (zeroValue e).run P w = .ok v w ∧ v.cells = z.toArray := by
  have h1 := h.s
  have h2 := h.zc
  cases hi : P.info? e with
  | none => simp [hi] at h1
  | some i =>
    simp [hi] at h1
    cases hz : i.zero with
    | none => simp [hi, hz] at h2
    | some v =>
      simp [hi, hz] at h2
      exact ⟨by simp [sizeOf, typeInfo, hi, h1], v, by simp [zeroValue, typeInfo, hi, hz], h2⟩

theorem s_buildSlice {t e : TypeId} {len sz : Nat} {z cs : List Value} {parts : List (Nat × Operand)} {vs : List (Nat × Value)} [h1 : TS P t e] [h2 : TRw P e sz z] (hx : opvps fs parts = some vs) (hlen : Nat.ble (len * sz) 16777216 = true)
    (hf : FilL (fun i => some (i * sz, sz)) (zeros len z) vs cs) (hs : sf ⟨some d, .buildSlice t len parts.toArray, ty, pos, aft, none⟩ = false) (hks : ks.Sublist is) (hd : Nat.blt d N.n = true)
    (nx : ∀ b, GS P T sf al ks K N w0 S ((d, .slice (some ⟨b, 0, none⟩) len len) :: fs) (blk e b cs :: is) rest) : GS P T sf al ks K N w0 S fs is (⟨some d, .buildSlice t len parts.toArray, ty, pos, aft, none⟩ :: rest) :=
  s_new (some (len, len)) rfl hd hs (fun a w hk => by
    have e1 := hk.evalps hx
    obtain ⟨hsz, u, hu, hc⟩ := TRw.run (P := P) (e := e) w
    have hle : len * sz ≤ 16777216 := Nat.le_of_ble_eq_true hlen
    have hfl := hf.fil.fill
    have hps : (parts.toArray.map fun p => (p.1, a.eval p.2)).toList = vs := by simp [e1]
    have hz : (Array.range (len * sz)).map (fun i => z.toArray[i % z.toArray.size]!) = (zeros len z).toArray := by
      have hl := h2.l
      have hp := h2.p
      subst hl
      have := zeros_eq z.toArray (by simpa using hp) len
      simpa using this
    simp only [execOp, Instr.buildSlice, Sem.run_bind, run_underlying h1.u, Result.andThen_ok, hsz]
    rw [if_neg (show ¬ len * sz > 2 ^ 24 by omega)]
    simp only [Sem.run_bind, Sem.run_pure, Result.andThen_ok]
    by_cases h0 : len * sz = 0
    · have hl0 : len = 0 := by
        rcases Nat.mul_eq_zero.1 h0 with h | h
        · exact h
        · have := h2.p; omega
      subst hl0
      rw [if_pos h0]
      (try simp only [Sem.run_bind, Sem.run_pure, Result.andThen_ok])
      simp only [zeros] at hfl
      have hr0 : ((Array.range (0 * sz)).map (fun i => (#[] : Array Value)[i % (#[] : Array Value).size]!)) = ([] : List Value).toArray := by simp
      rw [hr0]
      (try simp only [Array.toList_map] at hps)
      (try simp only [Array.toList_map])
      rw [show (List.map (fun p => (p.1, a.eval p.2)) parts.toArray.toList) = vs from hps, hfl]
      rfl
    · rw [if_neg h0]
      (try simp only [Sem.run_bind, hu, Result.andThen_ok, Sem.run_pure, hc])
      (try rw [hz])
      (try simp only [Array.toList_map] at hps)
      (try simp only [Array.toList_map])
      rw [show (List.map (fun p => (p.1, a.eval p.2)) parts.toArray.toList) = vs from hps, hfl]
      rfl) hks nx

theorem made_zeros (z : Array Value) (hz : 0 < z.size) (n : Nat) : madeCells z (n * z.size) = (zeros n z.toList).toArray := zeros_eq z hz n
theorem s_makeSlice {t e : TypeId} {sz by_ n : Nat} {z : List Value} {kl kc : IntKind} {x y : Operand} [h1 : TS P t e] [h2 : TRw P e sz z] [h3 : TB P e by_] (hx : opv fs x = some (.int kl n)) (hy : opv fs y = some (.int kc n))
    (hb : by_ * n ≤ 281474976710656) (hn : n ≤ 9223372036854775807) (hs : sf ⟨some d, .makeSlice t x y, ty, pos, aft, none⟩ = false) (hks : ks.Sublist is) (hd : Nat.blt d N.n = true)
    (nx : ∀ b, GS P T sf al ks K N w0 S ((d, .slice (some ⟨b, 0, none⟩) n n) :: fs) (blk e b (zeros n z) :: is) rest) : GS P T sf al ks K N w0 S fs is (⟨some d, .makeSlice t x y, ty, pos, aft, none⟩ :: rest) :=
  s_new (some (n, n)) rfl hd hs (fun a w hk => by
    have ex : a.eval x = .int kl n := hk.eval hx
    have ey : a.eval y = .int kc n := hk.eval hy
    have hbi := h3.i
    cases hif' : P.info? e with
    | none => simp [hif'] at hbi
    | some inf =>
      have hz := h2.zc
      have hsi := h2.s
      have hp := h2.p
      have hl := h2.l
      simp [hif'] at hbi hsi
      cases hzz : inf.zero with
      | none => simp [hif', hzz] at hz
      | some zz =>
        simp [hif', hzz] at hz
        have hr := run_make (P := P) w t e inf zz h1.u hif' hzz kl kc n n (by omega) (Int.le_refl _) (by rw [hbi, ← Int.natCast_mul]; exact Int.ofNat_le.2 hb) (by omega)
        simp only [Int.toNat_natCast, hsi, hz] at hr
        rw [show n * sz = n * z.toArray.size by simp [hl], made_zeros z.toArray (by simp; omega)] at hr
        simp [execOp, ex, ey, hr, mkv]) hks nx

/-! ### append -/
theorem newsB {e : TypeId} {b : Nat} {cs : List Value} (h : At is (blk e b cs)) : ∀ w, Loc w0 S is w → ∀ j u, cs[j]? = some u → w.cell? ((⟨b, 0, none⟩ : Addr).add j) = some u := fun w hl j u hu => by
  rw [Addr.add_lit, Nat.zero_add, cell_of_row w b j _ _ _ (hl.holds _ h.mem)]
  simpa using hu
theorem ownForm {w : World} {e : TypeId} {sz n : Nat} {v : Value} {xs : List Value} (h : w.ownsRow 0 e sz v n xs) : ∃ A cap, v = .slice A n cap := by
  rcases h.2 with ⟨rfl, rfl⟩ | ⟨g, cap, cur, rfl, _⟩
  · exact ⟨none, 0, rfl⟩
  · exact ⟨_, _, rfl⟩
/-- What is known of a slice of the call's own. -/
def RF (A : Option Addr) (n c : Nat) : Prop := (n ≤ c ∧ c ≤ maxLen) ∧ (A = none → c = 0) ∧ (0 < n → ∃ b, A = some ⟨b, 0, none⟩)
theorem RF.le {A : Option Addr} {n c : Nat} (h : RF A n c) : n ≤ c := h.1.1
theorem rf_own {w : World} {e : TypeId} {sz : Nat} {A : Option Addr} {n c : Nat} {xs : List Value} (h : w.ownsRow 0 e sz (.slice A n c) n xs) : RF A n c := by
  refine ⟨?_, ?_, ?_⟩
  · rcases h.2 with ⟨hv, h0⟩ | ⟨g, cap', cur, hv, _, _, h1, h2, _⟩
    · injection hv with _ _ hc; subst hc; subst h0; exact ⟨Nat.le_refl _, Nat.zero_le _⟩
    · injection hv with _ _ hc; subst hc; exact ⟨h1, h2⟩
  · intro hA
    rcases h.2 with ⟨hv, h0⟩ | ⟨g, cap', cur, hv, _⟩
    · injection hv
    · injection hv with hA'; rw [hA] at hA'; cases hA'
  · intro hn
    rcases h.2 with ⟨_, h0⟩ | ⟨g, cap', cur, hv, _⟩
    · omega
    · injection hv with hA _ _
      exact ⟨g, hA⟩
theorem s_append {t e : TypeId} {sz by_ n m c nm : Nat} {z xs news ys : List Value} {ad : Addr} {is' : Option Addr → Nat → List Itm} [h1 : TS P t e] [h2 : TRw P e sz z] [h3 : TB P e by_]
    (hx : opv fs x = some v) (hown : At is (own e sz v n xs)) (hy : opv fs y = some (.slice (some ad) m c)) (hnews : ∀ w, Loc w0 S is w → ∀ j u, news[j]? = some u → w.cell? (ad.add j) = some u) (hl : news.length = m * sz) (h1c' : news.all Value.oneCell' = true)
    (hnm' : n + m = nm) (hb : nm * by_ ≤ 140737488355328) (hby : 1 ≤ by_) (hys : xs ++ news = ys) (hu : ∀ A cap, Upd is (own e sz v n xs) (own e sz (.slice A nm cap) nm ys) (is' A cap))
    (hs : sf ⟨some d, .call { callee := .builtin .append, args := #[x, y], argTypes := #[t, t] }, ty, pos, aft, none⟩ = false) (hks : ∀ A cap, ks.Sublist (is' A cap)) (hd : Nat.blt d N.n = true)
    (nx : ∀ A cap, RF A nm cap → GS P T sf al ks K N w0 S ((d, .slice A nm cap) :: fs) (is' A cap) rest) : GS P T sf al ks K N w0 S fs is (⟨some d, .call { callee := .builtin .append, args := #[x, y], argTypes := #[t, t] }, ty, pos, aft, none⟩ :: rest) := by
  subst hnm'
  have h1c : ∀ u ∈ news, u.oneCell' = true := by simpa using h1c'
  refine s_eff (V := {u : Option Addr × Nat // RF u.1 (n + m) u.2}) (val := fun u => .slice u.1.1 (n + m) u.1.2) (its := fun u => is' u.1.1 u.1.2) rfl hd hs (fun w1 S1 a w hk hlc hl1 => ?_) (fun u => hks u.1.1 u.1.2) (fun u => nx u.1.1 u.1.2 u.2)
  subst hys
  have ho : w.ownsRow 0 e sz v n xs := hlc.holds _ hown.mem
  obtain ⟨hsz, u, hu', hc⟩ := TRw.run (P := P) (e := e) w
  have hbi := h3.i
  cases hi : P.info? e with
  | none => simp [hi] at hbi
  | some i =>
    have hz := h2.zc
    have hsi := h2.s
    simp [hi] at hbi hsi
    cases hzz : i.zero with
    | none => simp [hi, hzz] at hz
    | some zz =>
      simp [hi, hzz] at hz
      have hnm : n + m ≤ maxLen := by
        have : (n + m) * 1 ≤ (n + m) * by_ := Nat.mul_le_mul_left _ hby
        unfold maxLen; omega
      obtain ⟨v', w', hr, hown', hg, _, hat⟩ := run_append_own_at (P := P) w 0 t ty e i zz sz by_ h1.u hi hzz hsi hbi (by rw [hz]; simp [h2.l]) h2.p v n xs ho ad m c news hl (hnews w hlc) h1c hnm hb (Nat.zero_le _)
      obtain ⟨A, cap, rfl⟩ := ownForm hown'
      obtain ⟨k, hk1, hk2⟩ := (hu A cap).set
      refine ⟨⟨(A, cap), rf_own hown'⟩, w', .inl ?_, ?_⟩
      · simp [execOp, resolve, invoke, builtin, hk.eval hx, hk.eval hy, hr]
      · show Loc w1 S1 (is' A cap) w'
        rw [hk2]
        refine hl1.set hk1 hg.os hg.tape hg.output hg.size (fun k' hk' hki => hg.block k' hk' (fun e => hki ?_)) _ hown' (fun k' hk' => ?_)
        · simp [own, ← e]
        · have hk'' : (Value.slice A (n + m) cap).ownBlock = some k' := by simpa [own] using hk'
          rcases hat with hat | hat
          · left; simp [own, ← hat, hk'']
          · right; rw [hat] at hk''; injection hk'' with hk''; omega

theorem s_free {l : List Oper} (i : Itm) (hf : i.foot = []) (hi : ∀ w, i.holds w) (h : GS P T sf al ks K N w0 S fs (i :: is) l) : GS P T sf al ks K N w0 S fs is l := ⟨fun F a w hk hl hc => h.go F a w hk ((hl.free i hf (hi w)).perm List.perm_middle.symm) hc⟩
theorem ownNil (e : TypeId) (sz : Nat) (w : World) : (own e sz (.slice none 0 0) 0 []).holds w := World.ownsRow_nil _ _ _ _
theorem s_appendN {t e : TypeId} {sz by_ m c : Nat} {z news : List Value} {ad : Addr} [h1 : TS P t e] [h2 : TRw P e sz z] [h3 : TB P e by_]
    (hx : opv fs x = some (.slice none 0 0)) (hy : opv fs y = some (.slice (some ad) m c)) (hnews : ∀ w, Loc w0 S is w → ∀ j u, news[j]? = some u → w.cell? (ad.add j) = some u) (hl : news.length = m * sz) (h1c' : news.all Value.oneCell' = true)
    (hb : m * by_ ≤ 140737488355328) (hby : 1 ≤ by_)
    (hs : sf ⟨some d, .call { callee := .builtin .append, args := #[x, y], argTypes := #[t, t] }, ty, pos, aft, none⟩ = false) (hks : ks.Sublist is) (hd : Nat.blt d N.n = true)
    (nx : ∀ A cap, RF A m cap → GS P T sf al ks K N w0 S ((d, .slice A m cap) :: fs) (own e sz (.slice A m cap) m news :: is) rest) : GS P T sf al ks K N w0 S fs is (⟨some d, .call { callee := .builtin .append, args := #[x, y], argTypes := #[t, t] }, ty, pos, aft, none⟩ :: rest) :=
  s_free (own e sz (.slice none 0 0) 0 []) rfl (ownNil e sz)
    (s_append (n := 0) (xs := []) (is' := fun A cap => own e sz (.slice A m cap) m news :: is) hx .head hy (fun w hw => hnews w (hw.sub (.cons _ (List.Sublist.refl _)))) hl h1c' (Nat.zero_add m) hb hby (List.nil_append _) (fun _ _ => .head) hs (fun _ _ => .cons _ hks) hd nx)
end
end Go.Proofs.YtihboegopigkmaaDoor
