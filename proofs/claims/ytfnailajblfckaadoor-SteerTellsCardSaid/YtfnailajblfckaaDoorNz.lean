/- The wheels' axes, read off the row's condition. -/
import Derived.Test.YtfnailajblfckaaDoorNb
import Derived.Test.YtfnailajblfckaaDoorTie
import Derived.ProofKit
import Derived.OpenShut
import Derived.LaidMore
import Derived.Lay
import Derived.SevenTiedAt
import Derived.Stop.Joined
namespace Go.Proofs.YtfnailajblfckaaDoor
set_option linter.unusedSimpArgs false
set_option linter.unusedVariables false
open Go.ChangeShapes Go.WideShapes Go.ChangeAt Go.RowKit

theorem list12 : ∀ l : List Value, l.length = 12 → l = (l.drop 0).take 3 ++ ((l.drop 3).take 3 ++ ((l.drop 6).take 3 ++ (l.drop 9).take 3))
  | [_, _, _, _, _, _, _, _, _, _, _, _], _ => rfl
theorem three_of {a b c : Value} : ∀ {cs : List Value}, cs.length = 3 → (cs.drop 0).take 1 = [a] → (cs.drop 1).take 1 = [b] → (cs.drop 2).take 1 = [c] → cs = [a, b, c]
  | [x, y, z], _, h0, h1, h2 => by
    simp only [List.drop_succ_cons, List.drop_zero, List.take_succ_cons, List.take_zero, List.cons.injEq, and_true] at h0 h1 h2
    rw [h0, h1, h2]
theorem three_trod {H : Type} {enc : TypeId × Value → H} {w : World} {base : Nat} {spare : Nat → Bool} {held : Bool} {fuel : Nat} {cs : List Value} {x : DataW H × List MemPlace} {z0 z1 z2 : Int}
    (h : DataW.trod enc Tryd.prog w base spare held fuel 23 cs = some x) (hx : x.1 = .agg [.lit (.int .i32 z0), .lit (.int .i32 z1), .lit (.int .i32 z2)]) : cs = [.int .i32 z0, .int .i32 z1, .int .i32 z2] := by
  obtain ⟨xs, m, _, ex, hlen, hl, hel⟩ := DataW.trod_array Tryd.underlying23 h
  have c1 : Tryd.prog.cellsOf 21 = 1 := by kernel_rfl
  have c3 : Tryd.prog.cellsOf 23 = 3 := by kernel_rfl
  rw [c3] at hlen
  rw [ex] at hx
  have hx := DataW.agg.inj hx
  have key : ∀ i (hi : i < 3) z, (xs.map (·.1))[i]? = some (.lit (.int .i32 z)) → (cs.drop i).take 1 = [.int .i32 z] := by
    intro i hi z hz
    have hE := hel i hi
    rw [c1, Nat.mul_one, List.getElem?_eq_getElem (by omega)] at hE
    obtain ⟨n, e1, e2, _⟩ := DataW.trod_int Tryd.underlying21 hE
    rw [List.getElem?_map, List.getElem?_eq_getElem (by omega), e2] at hz
    simp only [Option.map_some, Option.some.injEq, DataW.lit.injEq, Lit.int.injEq, true_and] at hz
    rw [e1, hz]
  have k0 := key 0 (by decide) z0 (by rw [hx]; rfl)
  have k1 := key 1 (by decide) z1 (by rw [hx]; rfl)
  have k2 := key 2 (by decide) z2 (by rw [hx]; rfl)
  exact three_of hlen k0 k1 k2
theorem ax_of_laid {W : World} (h : laidMetH Tryd.prog [("aerie/steer.axes", Rows.laid_aerie_steer_axes)] W) : Ax W := by
  rw [MakeChecks.laidMetH_plain _ _ _ (by kernel_rfl)] at h
  obtain ⟨ps, ⟨g, t, cs, fuel, p, q, hg, ht, hv, hd, _, _⟩, _, _⟩ := h
  obtain rfl := Option.some.inj ((show Tryd.prog.globalNamed "aerie/steer.axes" = some 0 by kernel_rfl).symm.trans hg)
  obtain rfl := Option.some.inj ((show (Tryd.prog.globals[0]?).map (·.type) = some 51 by kernel_rfl).symm.trans ht)
  obtain ⟨xs, m, _, ex, hlen, hl, hel⟩ := DataW.trod_array Tryd.underlying51 hd
  have c3 : Tryd.prog.cellsOf 23 = 3 := by kernel_rfl
  have c12 : Tryd.prog.cellsOf 51 = 12 := by kernel_rfl
  rw [c12] at hlen
  have hx : xs.map (·.1) = _ := (DataW.agg.inj (Prod.mk.inj ex).1).symm
  have key : ∀ i (hi : i < 4) z0 z1 z2, (xs.map (·.1))[i]? = some (.agg [.lit (.int .i32 z0), .lit (.int .i32 z1), .lit (.int .i32 z2)]) → (cs.toList.drop (i * 3)).take 3 = [.int .i32 z0, .int .i32 z1, .int .i32 z2] := by
    intro i hi z0 z1 z2 hz
    have hE := hel i hi
    rw [c3, List.getElem?_eq_getElem (by omega)] at hE
    refine three_trod hE ?_
    rw [List.getElem?_map, List.getElem?_eq_getElem (by omega)] at hz
    simpa using hz
  have k0 := key 0 (by decide) 1 1 1 (by rw [hx]; rfl)
  have k1 := key 1 (by decide) 1 (-1) (-1) (by rw [hx]; rfl)
  have k2 := key 2 (by decide) (-1) 1 (-1) (by rw [hx]; rfl)
  have k3 := key 3 (by decide) (-1) (-1) 1 (by rw [hx]; rfl)
  have e2 : cs.toList = dens axC := by
    have e' := list12 cs.toList hlen
    have k0 : (cs.toList.drop 0).take 3 = _ := k0
    have k1 : (cs.toList.drop 3).take 3 = _ := k1
    have k2 : (cs.toList.drop 6).take 3 = _ := k2
    have k3 : (cs.toList.drop 9).take 3 = _ := k3
    rw [k0, k1, k2, k3] at e'
    exact e'
  intro i u hu
  rw [Nat.zero_add, World.var?_cell hg hv i]
  rw [← e2] at hu
  simpa using hu
theorem tz_of_laid {W : World} (h : laidMetH Tryd.prog [("aerie/steer.axes", Rows.laid_aerie_steer_axes)] W) : Ax W := ax_of_laid h
end Go.Proofs.YtfnailajblfckaaDoor
