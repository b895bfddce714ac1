/- Rows of structs of one's own: loads. -/
import Derived.Test.YtihboegopigkmaaDoorGx
namespace Go.Proofs.YtihboegopigkmaaDoor
set_option linter.unusedSimpArgs false
set_option linter.unusedVariables false
set_option linter.unnecessarySimpa false
set_option maxRecDepth 100000
set_option maxHeartbeats 4000000
open Go.RowKit

theorem own_cellS {base : Nat} {e : TypeId} {cap n b i sz : Nat} {A : Option Addr} {xs : List Value} {v : Value} {w : World} (h : w.ownsRow base e sz (.slice A n cap) n xs) (hA : A = some ⟨b, 0, none⟩) (hj : i < n * sz) (hv : xs[i]? = some v) : w.cell? ⟨b, i, none⟩ = some v := by
  obtain ⟨hl, h2⟩ := h
  rcases h2 with ⟨_, h0⟩ | ⟨g, cap', cur, hv', _, hh, hnc, _, hs, ht⟩
  · subst h0; omega
  · injection hv' with hA' _ _
    rw [hA] at hA'
    injection hA' with e1
    injection e1 with e2
    subst e2
    rw [cell_of_row _ _ _ _ _ _ hh]
    have h3 : (cur.toList.take (n * sz))[i]? = xs[i]? := by rw [ht]
    rw [List.getElem?_take, if_pos hj] at h3
    rw [← Array.getElem?_toList, h3, hv]
theorem drop_get {xs ys : List Value} {o sz : Nat} (h : (xs.drop o).take sz = ys) (i : Nat) (u : Value) (hu : ys[i]? = some u) : xs[o + i]? = some u := by
  rw [← h, List.getElem?_take] at hu
  split at hu
  · rwa [List.getElem?_drop] at hu
  · cases hu
section
variable {P : Program} {w0 : World} {S : List Nat} {km mem : Mem}
theorem run_row {t e : TypeId} {sz n c b off : Nat} {A : Option Addr} {xs : List Value} [TL P t true sz] (cs : List SV) {w : World} (hw : (own e sz (.slice A n c) n xs).holds w) (hA : A = some ⟨b, 0, none⟩) (hlen : cs.length = sz) (hj : off + sz ≤ n * sz)
    (hv : ∀ i u, (dens cs)[i]? = some u → xs[off + i]? = some u) : (loadVar t ⟨b, off, none⟩).run P w = .ok (SV.agg cs).den w := by
  unfold loadVar
  simp only [Sem.run_bind, TL.isAgg (P := P) (t := t), Result.andThen_ok]
  have hl : (dens cs).length = sz := by rw [dens_length, hlen]
  have := run_loadCells_list (P := P) w ⟨b, off, none⟩ (dens cs) (fun i u hu => by
    rw [Addr.add_lit]
    have : i < sz := by rw [← hl]; exact (List.getElem?_eq_some_iff.1 hu).1
    exact own_cellS hw hA (by omega) (hv i u hu))
  rw [hl] at this
  simp [TL.sizeOf (P := P) (t := t), this, SV.den]
/-- A struct of a row of one's own, loaded. -/
theorem load_rowS {t e : TypeId} {sz n c b off : Nat} {A : Option Addr} {xs : List Value} {X : SV → Prop} [TL P t true sz] (cs : List SV) (o : Nat) (ho : off = o) (hA : A = some ⟨b, 0, none⟩) (hat : At (denM mem) (own e sz (.slice A n c) n xs)) (hlen : cs.length = sz) (hj : o + sz ≤ n * sz)
    (hv : (xs.drop o).take sz = dens cs) (nx : X (.agg cs)) : LLoad P w0 S km t ⟨b, off, none⟩ false mem X := by
  subst ho
  refine ⟨.agg cs, fun w _ h => ?_, nx⟩
  rcases h with h | h
  · cases h
  · exact run_row cs (h.holds _ hat.mem) hA hlen hj (drop_get hv)
theorem load_rowSK {t e : TypeId} {sz n c b off : Nat} {A : Option Addr} {xs : List Value} {sf : Bool} {X : SV → Prop} [TL P t true sz] (cs : List SV) (o : Nat) (ho : off = o) (hA : A = some ⟨b, 0, none⟩) (hat : At (denM km) (own e sz (.slice A n c) n xs)) (hlen : cs.length = sz) (hj : o + sz ≤ n * sz)
    (hv : (xs.drop o).take sz = dens cs) (nx : X (.agg cs)) : LLoad P w0 S km t ⟨b, off, none⟩ sf mem X := by
  subst ho
  exact ⟨.agg cs, fun w h _ => run_row cs (h.holds _ hat.mem) hA hlen hj (drop_get hv), nx⟩
end
end Go.Proofs.YtihboegopigkmaaDoor
