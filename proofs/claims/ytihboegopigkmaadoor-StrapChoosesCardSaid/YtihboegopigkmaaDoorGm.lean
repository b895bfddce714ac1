/- Loops in which ranges over functions stand: what each leaves behind (a place for what is deferred) is kept in a bundle. No program. -/
import Derived.Test.YtihboegopigkmaaDoorGr
import Derived.Test.YtihboegopigkmaaDoorGs
namespace Go.Proofs.YtihboegopigkmaaDoor
set_option linter.unusedSimpArgs false
set_option linter.unusedVariables false
set_option linter.unnecessarySimpa false
set_option linter.unusedSectionVars false
open Go.RowKit

def dfrB (Ds : List Nat) : Itm where
  foot := Ds
  holds w := Ds.Nodup ∧ ∀ D ∈ Ds, (dfr D).holds w
  loc w w' h hh := ⟨hh.1, fun D hD => (dfr D).loc w w' (fun k hk => h k (by
    have : k = D := by simpa [dfr] using hk
    rw [this]; exact hD)) (hh.2 D hD)⟩
  live w h k hk := (dfr k).live w (h.2 k hk) k (by simp [dfr])
section
variable {w0 w : World} {S : List Nat} {is : List Itm}
theorem dfrB_nil : Loc w0 S is w → Loc w0 S (dfrB [] :: is) w := fun hl => hl.free (dfrB []) rfl ⟨.nil, fun D hD => nomatch hD⟩
theorem dfrB_put {D : Nat} {Ds : List Nat} (hl : Loc w0 S (dfr D :: dfrB Ds :: is) w) : Loc w0 S (dfrB (D :: Ds) :: is) w := by
  have hd := List.pairwise_cons.1 hl.disj
  have hd2 := List.pairwise_cons.1 hd.2
  have h1 := hl.holds _ (.head _)
  have h2 := hl.holds _ (.tail _ (.head _))
  refine ⟨hl.os, hl.tape, hl.output, hl.size, hl.same, fun x hx => ?_, fun x hx b hb => ?_, ?_⟩
  · rcases List.mem_cons.1 hx with rfl | hx
    · refine ⟨List.nodup_cons.2 ⟨fun h => ?_, h2.1⟩, fun E hE => ?_⟩
      · exact hd.1 (dfrB Ds) (.head _) D (by simp [dfr]) h
      · rcases List.mem_cons.1 hE with rfl | hE
        · exact h1
        · exact h2.2 E hE
    · exact hl.holds x (.tail _ (.tail _ hx))
  · rcases List.mem_cons.1 hx with rfl | hx
    · rcases List.mem_cons.1 hb with rfl | hb
      · exact hl.owned _ (.head _) b (by simp [dfr])
      · exact hl.owned _ (.tail _ (.head _)) b hb
    · exact hl.owned x (.tail _ (.tail _ hx)) b hb
  · refine List.pairwise_cons.2 ⟨fun x hx b hb => ?_, hd2.2⟩
    rcases List.mem_cons.1 hb with rfl | hb
    · exact hd.1 x (.tail _ hx) b (by simp [dfr])
    · exact hd2.1 x hx b hb
theorem dfrB_out {Ds : List Nat} (hl : Loc w0 S (dfrB Ds :: is) w) : Loc w0 S (is ++ Ds.map dfr) w := by
  have hd := List.pairwise_cons.1 hl.disj
  have h1 := hl.holds _ (.head _)
  refine ⟨hl.os, hl.tape, hl.output, hl.size, hl.same, fun x hx => ?_, fun x hx b hb => ?_, ?_⟩
  · rcases List.mem_append.1 hx with hx | hx
    · exact hl.holds x (.tail _ hx)
    · obtain ⟨D, hD, rfl⟩ := List.mem_map.1 hx
      exact h1.2 D hD
  · rcases List.mem_append.1 hx with hx | hx
    · exact hl.owned x (.tail _ hx) b hb
    · obtain ⟨D, hD, rfl⟩ := List.mem_map.1 hx
      have : b = D := by simpa [dfr] using hb
      subst this
      exact hl.owned _ (.head _) b hD
  · refine List.pairwise_append.2 ⟨hd.2, ?_, fun x hx y hy b hb hby => ?_⟩
    · rw [List.pairwise_map]
      refine h1.1.imp fun {a c} hne b hb hbc => ?_
      have e1 : b = a := by simpa [dfr] using hb
      have e2 : b = c := by simpa [dfr] using hbc
      exact hne (e1.symm.trans e2)
    · obtain ⟨D, hD, rfl⟩ := List.mem_map.1 hy
      have : b = D := by simpa [dfr] using hby
      subst this
      exact hd.1 x hx b hD hb
end
/-- The marks of a bundle. -/
def mkD (tg : Nat) (Ds : List Nat) : List (Nat × Nat) := Ds.map fun D => (tg, D)
def itD (tg : Nat) (Ds : List Nat) : Mem := Ds.map fun D => .oth tg (dfr D)
theorem take_skip {tg : Nat} : ∀ {rest m : Mem} {j : MI} {m' : Mem}, noTag rest tg = true → takeB m tg = some (j, m') → takeB (rest ++ m) tg = some (j, rest ++ m')
  | [], m, j, m', _, h => h
  | i :: rest, m, j, m', hn, h => by
    simp only [noTag] at hn
    cases hb : Nat.beq i.tag tg with
    | true => rw [hb] at hn; cases hn
    | false =>
      rw [hb] at hn
      have ih := take_skip (rest := rest) (m := m) hn h
      simp only [List.cons_append, takeB, hb, ih]
theorem strip_ds {tg : Nat} {rest : Mem} (hn : noTag rest tg = true) {X : Mem → Prop} (nx : X rest) : ∀ {Ds : List Nat} {mem : Mem}, mem = rest ++ itD tg Ds → stripX (mkD tg Ds) mem X
  | [], mem, h => by subst h; simpa [mkD, itD, stripX] using nx
  | D :: Ds, mem, h => by
    subst h
    have ht : takeB (itD tg (D :: Ds)) tg = some (.oth tg (dfr D), itD tg Ds) := by
      simp only [itD, List.map_cons, takeB, MI.tag, Nat.beq_refl]
    have ih := strip_ds hn nx (Ds := Ds) rfl
    show stripX ((tg, D) :: mkD tg Ds) (rest ++ itD tg (D :: Ds)) X
    simp only [stripX, take_skip hn ht]
    exact ⟨rfl, ih⟩
theorem itD_den (tg : Nat) (Ds : List Nat) : denM (itD tg Ds) = Ds.map dfr := by simp [itD, denM_map, Function.comp_def, MI.itm]
section
variable {P : Program} {tab : Tr} {n : Nat} {w0 : World} {S : List Nat} {k : Kt} {fs : Fr} {mem : Mem}
structure LAM (n : Nat) (w0 : World) (S : List Nat) {ι : Type} (ms : ι → List (Nat × Nat)) (G : ι → Fr) (J : ι → Mem) (pre : ι → Prop) (μ : ι → Nat) (fs' : Fr) (mem' : Mem) (x : ι) (a : Act) (w : World) : Prop where
  ex : ∃ y, pre y ∧ μ y < μ x ∧ Kn ⟨n, ms y, none⟩ (denF (appF (G y) fs')) a ∧ Loc w0 S (denM (appM (J y) mem')) w
/-- A loop whose marks grow. -/
theorem x_loopM {c : Code} {ι : Type} {m0 : List (Nat × Nat)} (ts : List Nat) (ms : ι → List (Nat × Nat)) (G : ι → Fr) (J : ι → Mem) (pre : ι → Prop) (μ : ι → Nat) (x0 : ι) {fs' : Fr} {mem' mk : Mem} (hf : dropFO (asgC c []) fs = some fs') (hm : dropMO ts mem = some mem') (hmk : keepMO ts mem = some mk) (hms : ms x0 = m0) (h0 : pre x0) (hG : fsub (G x0) fs) (hJ : msub (J x0) mk)
    (round : ∀ x, pre x → XC P ⟨n, ms x, none⟩ w0 S (.rnd (LAM n w0 S ms G J pre μ fs' mem' x) k) (appF (G x) fs') (appM (J x) mem') c) : XLoop P ⟨n, m0, none⟩ w0 S k fs mem c := by
  subst hms
  have key : ∀ m x, μ x < m → pre x → ∀ a w, Kn ⟨n, ms x, none⟩ (denF (appF (G x) fs')) a → Loc w0 S (denM (appM (J x) mem')) w → Code.roundsIn (FW none) 0 P c (k.sem P none) m a w := by
    intro m
    induction m with
    | zero => intro x hx; omega
    | succ m ih =>
      intro x hx hp a w hk hl
      rw [roundsIn_succ]
      refine wpIn_mono' (fun e a' w' hq => ?_) ((round x hp).go.go a w hk hl)
      cases e with
      | normal =>
        obtain ⟨y, hy, hlt, hk', hl'⟩ := hq.ex
        exact ih y (by omega) hy a' w' hk' hl'
      | _ => exact hq
  refine ⟨⟨fun a w hk hl => ?_⟩⟩
  exact wpIn_loop_rounds (μ x0 + 1) (key _ x0 (by omega) h0 a w (kn_app hG (fun t v h => (dropFO_get hf t v h).2) hk) (mem_app hJ (dropMO_perm hm hmk) hl))
theorem x_roundM {ι : Type} {ms : ι → List (Nat × Nat)} {G : ι → Fr} {J : ι → Mem} {pre : ι → Prop} {μ : ι → Nat} {x : ι} {fs' : Fr} {mem' : Mem} {m1 : List (Nat × Nat)} (y : ι) (hms : ms y = m1) (hy : pre y) (hlt : μ y < μ x) (hG : fsub (G y) fs) (hs : sameF fs' fs) (hm : msub (appM (J y) mem') mem) :
    XE P ⟨n, m1, none⟩ w0 S (.rnd (LAM n w0 S ms G J pre μ fs' mem' x) k) fs mem .normal := by
  subst hms
  exact ⟨⟨fun a w hk hl => ⟨⟨y, hy, hlt, kn_app hG (sameF_get hs) hk, msub_ok hm hl⟩⟩⟩⟩
/-- A mark goes into the bundle. -/
theorem bun_put {tg tB D : Nat} {Ds : List Nat} {m1 m2 : Mem} (h1 : takeB mem tg = some (.oth tg (dfr D), m1)) (h2 : takeB m1 tB = some (.oth tB (dfrB Ds), m2)) : ∀ w, Loc w0 S (denM mem) w → Loc w0 S (denM (.oth tB (dfrB (D :: Ds)) :: m2)) w := fun w hl => by
  have p1 := (takeB_perm h1).map MI.itm
  have p2 := (takeB_perm h2).map MI.itm
  rw [← denM_map, ← denM_map] at p1 p2
  exact dfrB_put (hl.perm (p1.trans (.cons _ p2)))
theorem bun_nil (tB : Nat) : ∀ w, Loc w0 S (denM mem) w → Loc w0 S (denM (.oth tB (dfrB []) :: mem)) w := fun w hl => dfrB_nil hl
/-- The bundle is opened. -/
theorem bun_out {tg tB : Nat} {Ds : List Nat} {m2 : Mem} (h2 : takeB mem tB = some (.oth tB (dfrB Ds), m2)) : ∀ w, Loc w0 S (denM mem) w → Loc w0 S (denM (m2 ++ itD tg Ds)) w := fun w hl => by
  have p2 := (takeB_perm h2).map MI.itm
  rw [← denM_map, ← denM_map] at p2
  rw [denM_append, itD_den]
  exact dfrB_out (hl.perm p2)
end
end Go.Proofs.YtihboegopigkmaaDoor
