-- Walks: printed by a program (wip/tools) with the printer of the kit; contracts that it lacked are typed by hand.
import Derived.Test.YtikipnbdccbnfaaGL0
import Derived.Test.YtikipnbdccbnfaaGLmlatticeGood
import Derived.Test.YtikipnbdccbnfaaGL2
import Derived.Test.YtikipnbdccbnfaaGL3
import Derived.Test.YtikipnbdccbnfaaGLmlorgnettelaw20awake
namespace Go.Proofs.Ytikipnbdccbnfaa.GL
open Go.RowKit Go.Proofs.YtikipnbdccbnfaaW.PrintWords Go.Proofs.YtikipnbdccbnfaaW.PrintLast Go.Proofs.YtikipnbdccbnfaaW.PrintMore
attribute [local go_sem] max2_int min2_int max_two min_two max_three min_three max_four min_four   -- for this text's walks alone
set_option linter.unusedVariables false
set_option linter.unusedSimpArgs false

/-! ### lorgnettelaw20_LatticeRises: function 4 -/
mutual
def lorgnettelaw20_LatticeRises.j0 : Nat → Int → List (S24) → Bool → Option (Bool)
  | 0, _, _, _ => none
  | k + 1, x0, x1, x21 => if x21 = true then (some true) else (lorgnettelaw20_LatticeRises.l0 k x0 x1 0 0)
def lorgnettelaw20_LatticeRises.l0 : Nat → Int → List (S24) → Int → Int → Option (Bool)
  | 0, _, _, _, _ => none
  | k + 1, x0, x1, x5, x6 => if x6 < (x1.length : Int) then (if 0 ≤ x6 then (lorgnettelaw20_LatticeRises.l0 k x0 x1 (mx x5 (((rd_T24 x1 x6).f1).length : Int)) (wrap64 (x6 + 1))) else (none)) else (if x5 > 60 then (some true) else (lorgnettelaw20_LatticeRises.l1 k x0 x1 x5 0))
def lorgnettelaw20_LatticeRises.l1 : Nat → Int → List (S24) → Int → Int → Option (Bool)
  | 0, _, _, _, _ => none
  | k + 1, x0, x1, x5, x7 => if x7 < (x1.length : Int) then (if 0 ≤ x7 then ((lattice_Good.f k x0 x5 ((rd_T24 x1 x7).f0) ((rd_T24 x1 x7).f1)).bind fun t197 => (if t197 = true then (lorgnettelaw20_LatticeRises.l1 k x0 x1 x5 (wrap64 (x7 + 1))) else (some true))) else (none)) else ((lattice_Bottom.f x5).bind fun bt198 => (lorgnettelaw20_LatticeRises.l2 k x0 x1 x5 0 0 bt198.1 bt198.2))
def lorgnettelaw20_LatticeRises.l2 : Nat → Int → List (S24) → Int → Int → Int → Bool → List Int → Option (Bool)
  | 0, _, _, _, _, _, _, _ => none
  | k + 1, x0, x1, x5, x9, x10, x203000, x203001 => if x10 < (x1.length : Int) then (if 0 ≤ x10 then ((lattice_Join.f k x0 x203000 x203001 ((rd_T24 x1 x10).f0) ((rd_T24 x1 x10).f1)).bind fun bt205 => ((lattice_Below.f k x0 x203000 x203001 bt205.1 bt205.2).bind fun t210 => (if t210 = true then ((lattice_Good.f k x0 x5 bt205.1 bt205.2).bind fun t211 => (lorgnettelaw20_LatticeRises.j4 k x0 x1 x5 x9 x10 (!t211) x203000 x203001 bt205.1 bt205.2)) else (lorgnettelaw20_LatticeRises.j4 k x0 x1 x5 x9 x10 true x203000 x203001 bt205.1 bt205.2)))) else (none)) else ((lattice_Height.f k x0 x5).bind fun t203 => (some (decide (x9 ≤ t203))))
def lorgnettelaw20_LatticeRises.j4 : Nat → Int → List (S24) → Int → Int → Int → Bool → Bool → List Int → Bool → List Int → Option (Bool)
  | 0, _, _, _, _, _, _, _, _, _, _ => none
  | k + 1, x0, x1, x5, x9, x10, x78, x203000, x203001, x210000, x210001 => if x78 = true then (some false) else ((lattice_Same.f k x203000 x203001 x210000 x210001).bind fun t212 => (if t212 = true then (lorgnettelaw20_LatticeRises.l2 k x0 x1 x5 x9 (wrap64 (x10 + 1)) x210000 x210001) else (lorgnettelaw20_LatticeRises.l2 k x0 x1 x5 (wrap64 (x9 + 1)) (wrap64 (x10 + 1)) x210000 x210001)))
end
def lorgnettelaw20_LatticeRises.f (k : Nat) (a0 : Int) (l1 : List (S24)) : Option (Bool) := (lorgnettelaw20_awake.f k).bind fun t194 => (if t194 = true then (if (l1.length : Int) > 200 then (lorgnettelaw20_LatticeRises.j0 k a0 l1 true) else (lorgnettelaw20_LatticeRises.j0 k a0 l1 ((l1.length : Int) == 0))) else (some false))
theorem lorgnettelaw20_LatticeRises.mono_l : ∀ k, (∀ y0 y1 y2, LeO (lorgnettelaw20_LatticeRises.j0 k y0 y1 y2) (lorgnettelaw20_LatticeRises.j0 (k + 1) y0 y1 y2)) ∧ (∀ y0 y1 y2 y3, LeO (lorgnettelaw20_LatticeRises.l0 k y0 y1 y2 y3) (lorgnettelaw20_LatticeRises.l0 (k + 1) y0 y1 y2 y3)) ∧ (∀ y0 y1 y2 y3, LeO (lorgnettelaw20_LatticeRises.l1 k y0 y1 y2 y3) (lorgnettelaw20_LatticeRises.l1 (k + 1) y0 y1 y2 y3)) ∧ (∀ y0 y1 y2 y3 y4 y5 y6, LeO (lorgnettelaw20_LatticeRises.l2 k y0 y1 y2 y3 y4 y5 y6) (lorgnettelaw20_LatticeRises.l2 (k + 1) y0 y1 y2 y3 y4 y5 y6)) ∧ (∀ y0 y1 y2 y3 y4 y5 y6 y7 y8 y9, LeO (lorgnettelaw20_LatticeRises.j4 k y0 y1 y2 y3 y4 y5 y6 y7 y8 y9) (lorgnettelaw20_LatticeRises.j4 (k + 1) y0 y1 y2 y3 y4 y5 y6 y7 y8 y9))
  | 0 => ⟨fun _ _ _ r h => by simp [lorgnettelaw20_LatticeRises.j0] at h, fun _ _ _ _ r h => by simp [lorgnettelaw20_LatticeRises.l0] at h, fun _ _ _ _ r h => by simp [lorgnettelaw20_LatticeRises.l1] at h, fun _ _ _ _ _ _ _ r h => by simp [lorgnettelaw20_LatticeRises.l2] at h, fun _ _ _ _ _ _ _ _ _ _ r h => by simp [lorgnettelaw20_LatticeRises.j4] at h⟩
  | k + 1 => by
    obtain ⟨ih0, ih1, ih2, ih3, ih4⟩ := lorgnettelaw20_LatticeRises.mono_l k
    refine ⟨?_, ?_, ?_, ?_, ?_⟩
    · intro y0 y1 y2
      unfold lorgnettelaw20_LatticeRises.j0
      repeat' first
      | (with_reducible exact ih0 _ _ _)
      | (with_reducible exact ih1 _ _ _ _)
      | (with_reducible exact ih2 _ _ _ _)
      | (with_reducible exact ih3 _ _ _ _ _ _ _)
      | (with_reducible exact ih4 _ _ _ _ _ _ _ _ _ _)
      | (with_reducible exact lattice_Below.mono _ _ _ _ _ _)
      | (with_reducible exact lattice_Good.mono _ _ _ _ _)
      | (with_reducible exact lattice_Height.mono _ _ _)
      | (with_reducible exact lattice_Join.mono _ _ _ _ _ _)
      | (with_reducible exact lattice_Same.mono _ _ _ _ _)
      | (with_reducible exact lorgnettelaw20_awake.mono _)
      | (with_reducible exact LeO.refl _)
      | (with_reducible exact LeO.none _)
      | (with_reducible refine LeO.ite ?_ ?_)
      | (with_reducible refine LeO.bind ?_ (fun _ => ?_))
      | exact ih0 _ _ _
      | exact ih1 _ _ _ _
      | exact ih2 _ _ _ _
      | exact ih3 _ _ _ _ _ _ _
      | exact ih4 _ _ _ _ _ _ _ _ _ _
      | exact lattice_Below.mono _ _ _ _ _ _
      | exact lattice_Good.mono _ _ _ _ _
      | exact lattice_Height.mono _ _ _
      | exact lattice_Join.mono _ _ _ _ _ _
      | exact lattice_Same.mono _ _ _ _ _
      | exact lorgnettelaw20_awake.mono _
      | exact LeO.none _
      | refine LeO.ite ?_ ?_
      | refine LeO.bind ?_ (fun _ => ?_)
    · intro y0 y1 y2 y3
      unfold lorgnettelaw20_LatticeRises.l0
      repeat' first
      | (with_reducible exact ih0 _ _ _)
      | (with_reducible exact ih1 _ _ _ _)
      | (with_reducible exact ih2 _ _ _ _)
      | (with_reducible exact ih3 _ _ _ _ _ _ _)
      | (with_reducible exact ih4 _ _ _ _ _ _ _ _ _ _)
      | (with_reducible exact lattice_Below.mono _ _ _ _ _ _)
      | (with_reducible exact lattice_Good.mono _ _ _ _ _)
      | (with_reducible exact lattice_Height.mono _ _ _)
      | (with_reducible exact lattice_Join.mono _ _ _ _ _ _)
      | (with_reducible exact lattice_Same.mono _ _ _ _ _)
      | (with_reducible exact lorgnettelaw20_awake.mono _)
      | (with_reducible exact LeO.refl _)
      | (with_reducible exact LeO.none _)
      | (with_reducible refine LeO.ite ?_ ?_)
      | (with_reducible refine LeO.bind ?_ (fun _ => ?_))
      | exact ih0 _ _ _
      | exact ih1 _ _ _ _
      | exact ih2 _ _ _ _
      | exact ih3 _ _ _ _ _ _ _
      | exact ih4 _ _ _ _ _ _ _ _ _ _
      | exact lattice_Below.mono _ _ _ _ _ _
      | exact lattice_Good.mono _ _ _ _ _
      | exact lattice_Height.mono _ _ _
      | exact lattice_Join.mono _ _ _ _ _ _
      | exact lattice_Same.mono _ _ _ _ _
      | exact lorgnettelaw20_awake.mono _
      | exact LeO.none _
      | refine LeO.ite ?_ ?_
      | refine LeO.bind ?_ (fun _ => ?_)
    · intro y0 y1 y2 y3
      unfold lorgnettelaw20_LatticeRises.l1
      repeat' first
      | (with_reducible exact ih0 _ _ _)
      | (with_reducible exact ih1 _ _ _ _)
      | (with_reducible exact ih2 _ _ _ _)
      | (with_reducible exact ih3 _ _ _ _ _ _ _)
      | (with_reducible exact ih4 _ _ _ _ _ _ _ _ _ _)
      | (with_reducible exact lattice_Below.mono _ _ _ _ _ _)
      | (with_reducible exact lattice_Good.mono _ _ _ _ _)
      | (with_reducible exact lattice_Height.mono _ _ _)
      | (with_reducible exact lattice_Join.mono _ _ _ _ _ _)
      | (with_reducible exact lattice_Same.mono _ _ _ _ _)
      | (with_reducible exact lorgnettelaw20_awake.mono _)
      | (with_reducible exact LeO.refl _)
      | (with_reducible exact LeO.none _)
      | (with_reducible refine LeO.ite ?_ ?_)
      | (with_reducible refine LeO.bind ?_ (fun _ => ?_))
      | exact ih0 _ _ _
      | exact ih1 _ _ _ _
      | exact ih2 _ _ _ _
      | exact ih3 _ _ _ _ _ _ _
      | exact ih4 _ _ _ _ _ _ _ _ _ _
      | exact lattice_Below.mono _ _ _ _ _ _
      | exact lattice_Good.mono _ _ _ _ _
      | exact lattice_Height.mono _ _ _
      | exact lattice_Join.mono _ _ _ _ _ _
      | exact lattice_Same.mono _ _ _ _ _
      | exact lorgnettelaw20_awake.mono _
      | exact LeO.none _
      | refine LeO.ite ?_ ?_
      | refine LeO.bind ?_ (fun _ => ?_)
    · intro y0 y1 y2 y3 y4 y5 y6
      unfold lorgnettelaw20_LatticeRises.l2
      repeat' first
      | (with_reducible exact ih0 _ _ _)
      | (with_reducible exact ih1 _ _ _ _)
      | (with_reducible exact ih2 _ _ _ _)
      | (with_reducible exact ih3 _ _ _ _ _ _ _)
      | (with_reducible exact ih4 _ _ _ _ _ _ _ _ _ _)
      | (with_reducible exact lattice_Below.mono _ _ _ _ _ _)
      | (with_reducible exact lattice_Good.mono _ _ _ _ _)
      | (with_reducible exact lattice_Height.mono _ _ _)
      | (with_reducible exact lattice_Join.mono _ _ _ _ _ _)
      | (with_reducible exact lattice_Same.mono _ _ _ _ _)
      | (with_reducible exact lorgnettelaw20_awake.mono _)
      | (with_reducible exact LeO.refl _)
      | (with_reducible exact LeO.none _)
      | (with_reducible refine LeO.ite ?_ ?_)
      | (with_reducible refine LeO.bind ?_ (fun _ => ?_))
      | exact ih0 _ _ _
      | exact ih1 _ _ _ _
      | exact ih2 _ _ _ _
      | exact ih3 _ _ _ _ _ _ _
      | exact ih4 _ _ _ _ _ _ _ _ _ _
      | exact lattice_Below.mono _ _ _ _ _ _
      | exact lattice_Good.mono _ _ _ _ _
      | exact lattice_Height.mono _ _ _
      | exact lattice_Join.mono _ _ _ _ _ _
      | exact lattice_Same.mono _ _ _ _ _
      | exact lorgnettelaw20_awake.mono _
      | exact LeO.none _
      | refine LeO.ite ?_ ?_
      | refine LeO.bind ?_ (fun _ => ?_)
    · intro y0 y1 y2 y3 y4 y5 y6 y7 y8 y9
      unfold lorgnettelaw20_LatticeRises.j4
      repeat' first
      | (with_reducible exact ih0 _ _ _)
      | (with_reducible exact ih1 _ _ _ _)
      | (with_reducible exact ih2 _ _ _ _)
      | (with_reducible exact ih3 _ _ _ _ _ _ _)
      | (with_reducible exact ih4 _ _ _ _ _ _ _ _ _ _)
      | (with_reducible exact lattice_Below.mono _ _ _ _ _ _)
      | (with_reducible exact lattice_Good.mono _ _ _ _ _)
      | (with_reducible exact lattice_Height.mono _ _ _)
      | (with_reducible exact lattice_Join.mono _ _ _ _ _ _)
      | (with_reducible exact lattice_Same.mono _ _ _ _ _)
      | (with_reducible exact lorgnettelaw20_awake.mono _)
      | (with_reducible exact LeO.refl _)
      | (with_reducible exact LeO.none _)
      | (with_reducible refine LeO.ite ?_ ?_)
      | (with_reducible refine LeO.bind ?_ (fun _ => ?_))
      | exact ih0 _ _ _
      | exact ih1 _ _ _ _
      | exact ih2 _ _ _ _
      | exact ih3 _ _ _ _ _ _ _
      | exact ih4 _ _ _ _ _ _ _ _ _ _
      | exact lattice_Below.mono _ _ _ _ _ _
      | exact lattice_Good.mono _ _ _ _ _
      | exact lattice_Height.mono _ _ _
      | exact lattice_Join.mono _ _ _ _ _ _
      | exact lattice_Same.mono _ _ _ _ _
      | exact lorgnettelaw20_awake.mono _
      | exact LeO.none _
      | refine LeO.ite ?_ ?_
      | refine LeO.bind ?_ (fun _ => ?_)
theorem lorgnettelaw20_LatticeRises.mono : ∀ a0 a1 k, LeO (lorgnettelaw20_LatticeRises.f k a0 a1) (lorgnettelaw20_LatticeRises.f (k + 1) a0 a1) := by
  intro a0 a1 k
  obtain ⟨ih0, ih1, ih2, ih3, ih4⟩ := lorgnettelaw20_LatticeRises.mono_l k
  unfold lorgnettelaw20_LatticeRises.f
  repeat' first
      | (with_reducible exact ih0 _ _ _)
      | (with_reducible exact ih1 _ _ _ _)
      | (with_reducible exact ih2 _ _ _ _)
      | (with_reducible exact ih3 _ _ _ _ _ _ _)
      | (with_reducible exact ih4 _ _ _ _ _ _ _ _ _ _)
      | (with_reducible exact lattice_Below.mono _ _ _ _ _ _)
      | (with_reducible exact lattice_Good.mono _ _ _ _ _)
      | (with_reducible exact lattice_Height.mono _ _ _)
      | (with_reducible exact lattice_Join.mono _ _ _ _ _ _)
      | (with_reducible exact lattice_Same.mono _ _ _ _ _)
      | (with_reducible exact lorgnettelaw20_awake.mono _)
      | (with_reducible exact LeO.refl _)
      | (with_reducible exact LeO.none _)
      | (with_reducible refine LeO.ite ?_ ?_)
      | (with_reducible refine LeO.bind ?_ (fun _ => ?_))
      | exact ih0 _ _ _
      | exact ih1 _ _ _ _
      | exact ih2 _ _ _ _
      | exact ih3 _ _ _ _ _ _ _
      | exact ih4 _ _ _ _ _ _ _ _ _ _
      | exact lattice_Below.mono _ _ _ _ _ _
      | exact lattice_Good.mono _ _ _ _ _
      | exact lattice_Height.mono _ _ _
      | exact lattice_Join.mono _ _ _ _ _ _
      | exact lattice_Same.mono _ _ _ _ _
      | exact lorgnettelaw20_awake.mono _
      | exact LeO.none _
      | refine LeO.ite ?_ ?_
      | refine LeO.bind ?_ (fun _ => ?_)
def lorgnettelaw20_LatticeRises.T22 : Bool × List (List Nat × List Nat) := (true, [([], []), ([], []), ([], []), ([], []), ([2, 3], [2, 3]), ([4], [4]), ([0, 1, 5], [0, 1, 5]), ([], []), ([7, 6, 6, 0, 1, 2, 3, 4, 5, 6, 7], [6, 7])])
def lorgnettelaw20_LatticeRises.B22 : List Nat := [0, 0, 0, 0, 12, 28, 63, 0, 255]
theorem lorgnettelaw20_LatticeRises.tab22 : rtab .any (opsOf Try.f4 22) = lorgnettelaw20_LatticeRises.T22 := by kernel_rfl
theorem lorgnettelaw20_LatticeRises.bits22 : waitsOk lorgnettelaw20_LatticeRises.T22.2 lorgnettelaw20_LatticeRises.B22 = true := by kernel_rfl
set_option maxHeartbeats 8000000 in
set_option maxRecDepth 100000 in
theorem lorgnettelaw20_LatticeRises.calls (k : Nat) (a0 : Int) (A1 : Option Addr) (c1 : Nat) (l1 : List (S24)) (r : Bool) (w : World) (hr1 : Kd.C k24 w A1 l1.length l1) (hc1 : l1.length ≤ c1) (h : lorgnettelaw20_LatticeRises.f k a0 l1 = some r) :
    Calls Try.prog 4 #[.int .i64 a0, .slice A1 l1.length c1] w fun e w' => e = .returned (.bool r) ∧ Below w.heap.size w w' := by
  have hu24 := Try.underlying24
  have HR1 := Aside0.mk hr1
  have HC1 := Aside0.mk hc1
  clear hr1 hc1
  have HB := Aside0.mk (Below.refl w.heap.size w)
  have H : ((lorgnettelaw20_awake.f k).bind fun t194 => (if t194 = true then (if (l1.length : Int) > 200 then (lorgnettelaw20_LatticeRises.j0 k a0 l1 true) else (lorgnettelaw20_LatticeRises.j0 k a0 l1 ((l1.length : Int) == 0))) else (some false))) = some r := h
  clear h
  replace H := Option.bind_eq_some_iff.mp H
  obtain ⟨t194, A30, H⟩ := H
  replace H : (if t194 = true then (if (l1.length : Int) > 200 then (lorgnettelaw20_LatticeRises.j0 k a0 l1 true) else (lorgnettelaw20_LatticeRises.j0 k a0 l1 ((l1.length : Int) == 0))) else (some false)) = some r := H
  have A3 := Aside0.mk A30
  clear A30
  by_cases c4 : t194 = true
  · subst c4
    have H1 : (if (l1.length : Int) > 200 then (lorgnettelaw20_LatticeRises.j0 k a0 l1 true) else (lorgnettelaw20_LatticeRises.j0 k a0 l1 ((l1.length : Int) == 0))) = some r := by rw [if_pos rfl] at H; exact H
    clear H
    have H := H1
    clear H1
    have HC5 := Aside0.mk H
    clear H
    go_enter Try.func4, Try.ntmps4
    go_upto_region 3 with (first | ((with_reducible refine gate_callee (f := 12) rfl ?_); refine goesL_ (some 12) rfl rfl Try.func12 (by kernel_rfl) rfl #[] rfl (by (try simp only [List.map_toArray, List.map_cons, List.map_nil]); first | done | rfl | (simp only [List.length_drop, List.length_take]; rfl)) ?_; (with_reducible refine (lorgnettelaw20_awake.calls k  true _ A3.out).mono ?_); rintro e w6 ⟨rfl, hb⟩; refine ⟨_, rfl, ?_⟩; have n0_ := Aside0.mk (below_step (by repeat (first | (with_reducible first | exact HB.out | apply below_alloc | apply pw_below_drewN | apply below_drew1) | exact HB.out)) hb); clear HB; have HB := n0_; clear n0_; (try clear hb); (try clear hb2); (try clear hk); (try clear hi)))
    (try simp only [Act.put, List.setIfInBounds_toArray, List.set_cons_zero, List.set_cons_succ])
    go_cut [21] (fun v21 wc => ∃ (kq : Nat) (x21_4 : Bool), v21 = .bool x21_4 ∧ Aside0 (lorgnettelaw20_LatticeRises.j0 kq a0 l1 x21_4 = some r) ∧ Aside0 (kq ≤ k) ∧ Aside0 (Below w.heap.size w wc))
    case first =>
      have H := HC5.out
      clear HC5
      by_cases c7 : (l1.length : Int) > 200
      · rw [if_pos c7] at H
        have c7b0 : decide (200 < (l1.length : Int)) = true := decide_eq_true c7
        have c7b1 : decide (200 < l1.length) = true := decide_eq_true (by omega)
        clear c7
        (first | rw [c7b0] | (simp only [i64_w, i32_w]; rw [c7b0]) | skip)
        have H' := Aside0.mk H
        clear H
        go_wp2
        go_meet
        case rel => exact ⟨_, (true), (by first | rfl | (simp; done) | (simp [*]; done)), H', ⟨by first | omega | exact Nat.le_refl _⟩, ⟨by repeat (first | (with_reducible first | exact HB.out | apply below_alloc | apply pw_below_drewN | apply below_drew1) | exact HB.out)⟩⟩
      · rw [if_neg c7] at H
        have c7b0 : decide (200 < (l1.length : Int)) = false := decide_eq_false c7
        have c7b1 : decide (200 < l1.length) = false := decide_eq_false (by omega)
        clear c7
        (first | rw [c7b0] | (simp only [i64_w, i32_w]; rw [c7b0]) | skip)
        have H' := Aside0.mk H
        clear H
        go_wp2
        go_meet
        case rel => exact ⟨_, (((l1.length : Int) == 0)), (by first | rfl | (simp; done) | (simp [*]; done)), H', ⟨by first | omega | exact Nat.le_refl _⟩, ⟨by repeat (first | (with_reducible first | exact HB.out | apply below_alloc | apply pw_below_drewN | apply below_drew1) | exact HB.out)⟩⟩
    case rest =>
      clear HC5
      try clear c1
      try clear p2
      try clear c4
      try clear c7
      try clear c7b0
      try clear c7b1
      obtain ⟨kq, x21_4, rfl, HA, HJ4, HB⟩ := hcut
      cases kq with
      | zero => exact absurd HA.out (by simp [lorgnettelaw20_LatticeRises.j0])
      | succ kj4 =>
        have H := HA.out
        clear HA
        simp only [lorgnettelaw20_LatticeRises.j0] at H
        by_cases c8 : x21_4 = true
        · subst c8
          have H1 : (some true) = some r := by rw [if_pos rfl] at H; exact H
          clear H
          have H := H1
          clear H1
          obtain rfl := Option.some.inj H
          go_wp2
          go_ret
          exact ⟨by first | rfl | (simp [errW_none, errW_some] <;> rfl) | (simp [*, errW_none, errW_some] <;> rfl), by repeat (first | (with_reducible first | exact HB.out | apply below_alloc | apply pw_below_drewN | apply below_drew1) | exact HB.out)⟩
        · replace c8 := Bool.eq_false_iff.mpr c8
          subst c8
          have H1 : (lorgnettelaw20_LatticeRises.l0 kj4 a0 l1 0 0) = some r := by rw [if_neg (show ¬ (false = true) by decide)] at H; exact H
          clear H
          have H := H1
          clear H1
          have H' := Aside0.mk H
          clear H
          go_wp2
          go_loopg [5, 6] kj4 (fun kq v5 v6 w' => ∃ (x5_2 : Int) (x6_2 : Int), v5 = .int .i64 x5_2 ∧ v6 = .int .i64 x6_2 ∧ Aside0 (lorgnettelaw20_LatticeRises.l0 kq a0 l1 x5_2 x6_2 = some r) ∧ Aside0 (kq ≤ kj4) ∧ Aside0 (Below w.heap.size w w'))
          case atStart => exact ⟨(0), (0), (by first | rfl | (simp; done) | (simp [*]; done)), (by first | rfl | (simp; done) | (simp [*]; done)), H', ⟨Nat.le_refl _⟩, ⟨by repeat (first | (with_reducible first | exact HB.out | apply below_alloc | apply pw_below_drewN | apply below_drew1) | exact HB.out)⟩⟩
          case round =>
            clear H'
            try clear c1
            try clear p2
            try clear c4
            try clear c7
            try clear c7b0
            try clear c7b1
            try clear c8
            try clear p2
            obtain ⟨x5_2, x6_2, rfl, rfl, HA, HK2, HB⟩ := hrel
            cases gk with
            | zero => exact absurd HA.out (by simp [lorgnettelaw20_LatticeRises.l0])
            | succ k2 =>
              have H := HA.out
              clear HA
              simp only [lorgnettelaw20_LatticeRises.l0] at H
              by_cases c9 : x6_2 < (l1.length : Int)
              · rw [if_pos c9] at H
                have c9b0 : decide (x6_2 < (l1.length : Int)) = true := decide_eq_true c9
                clear c9
                by_cases c10 : 0 ≤ x6_2
                · rw [if_pos c10] at H
                  have c10b0 : decide (0 ≤ x6_2) = true := decide_eq_true c10
                  clear c10
                  obtain ⟨ji11, hji11⟩ : ∃ j_ : Int, (mx x5_2 (((rd_T24 l1 x6_2).f1).length : Int)) = j_ := ⟨_, rfl⟩
                  replace H : (lorgnettelaw20_LatticeRises.l0 k2 a0 l1 ji11 (wrap64 (x6_2 + 1))) = some r := by first | (rw [hji11] at H; exact H) | (simp only [hji11] at H ⊢; exact H)
                  have hji11_ : (if x5_2 < (((rd_T24 l1 x6_2).f1).length : Int) then (((rd_T24 l1 x6_2).f1).length : Int) else x5_2) = ji11 := hji11
                  have H' := Aside0.mk H
                  clear H
                  have p195 : 0 ≤ (x6_2 : Int) := of_decide_eq_true (by first | (with_reducible assumption) | assumption)
                  have q195 : x6_2 < (l1.length : Int) := of_decide_eq_true (by first | (with_reducible assumption) | assumption)
                  obtain ⟨ad195, A195_1, c195_1, e195, hx195_0, hx195_1, hl195_1, hi195_1⟩ := at_T24 HR1.out x6_2 p195 q195
                  cases e195
                  replace hx195_0 := (HB.out.cell (World.block_lt_of_cell? w _ hx195_0)).trans hx195_0
                  replace hx195_1 := (HB.out.cell (World.block_lt_of_cell? w _ hx195_1)).trans hx195_1
                  have HR195_1 := Aside0.mk hi195_1
                  have HC195_1 := Aside0.mk hl195_1
                  clear hi195_1 hl195_1
                  replace p195 := eq_true p195
                  replace q195 := eq_true q195
                  go_wp2
                  go_roundg k2
                  case measure => have := HJ4.out; have := HK2.out; omega
                  case rel => exact ⟨(ji11), (wrap64 (x6_2 + 1)), (by first | rfl | (simp; done) | (simp only [← hji11] <;> (first | rfl | simp)) | (simp [*]; done)), (by first | rfl | (simp; done) | (simp [*]; done)), H', ⟨by have := HJ4.out; have := HK2.out; omega⟩, ⟨by repeat (first | (with_reducible first | exact HB.out | apply below_alloc | apply pw_below_drewN | apply below_drew1) | exact HB.out)⟩⟩
                · rw [if_neg c10] at H
                  exact absurd H (by simp)
              · rw [if_neg c9] at H
                have c9b0 : decide (x6_2 < (l1.length : Int)) = false := decide_eq_false c9
                clear c9
                by_cases c12 : x5_2 > 60
                · rw [if_pos c12] at H
                  have c12b0 : decide (60 < x5_2) = true := decide_eq_true c12
                  clear c12
                  obtain rfl := Option.some.inj H
                  go_wp2
                  go_ret
                  exact ⟨by first | rfl | (simp [errW_none, errW_some] <;> rfl) | (simp [*, errW_none, errW_some] <;> rfl), by repeat (first | (with_reducible first | exact HB.out | apply below_alloc | apply pw_below_drewN | apply below_drew1) | exact HB.out)⟩
                · rw [if_neg c12] at H
                  have c12b0 : decide (60 < x5_2) = false := decide_eq_false c12
                  clear c12
                  have H' := Aside0.mk H
                  clear H
                  go_wp2
                  go_loopg [7] k2 (fun kq v7 w' => ∃ (x7_3 : Int), v7 = .int .i64 x7_3 ∧ Aside0 (lorgnettelaw20_LatticeRises.l1 kq a0 l1 x5_2 x7_3 = some r) ∧ Aside0 (kq ≤ k2) ∧ Aside0 (Below w.heap.size w w'))
                  case atStart => exact ⟨(0), (by first | rfl | (simp; done) | (simp [*]; done)), H', ⟨Nat.le_refl _⟩, ⟨by repeat (first | (with_reducible first | exact HB.out | apply below_alloc | apply pw_below_drewN | apply below_drew1) | exact HB.out)⟩⟩
                  case round =>
                    clear H'
                    try clear c1
                    try clear p1
                    try clear q1
                    try clear hx1
                    try clear p2
                    try clear c4
                    try clear p6
                    try clear c7
                    try clear c7b0
                    try clear c7b1
                    try clear c8
                    try clear c9
                    try clear c9b0
                    try clear c10
                    try clear c10b0
                    try clear c12
                    try clear c12b0
                    try clear hx195_0
                    try clear hx195_1
                    try clear p195
                    try clear p2
                    try clear q195
                    obtain ⟨x7_3, rfl, HA, HK3, HB⟩ := hrel
                    cases gk with
                    | zero => exact absurd HA.out (by simp [lorgnettelaw20_LatticeRises.l1])
                    | succ k3 =>
                      have H := HA.out
                      clear HA
                      simp only [lorgnettelaw20_LatticeRises.l1] at H
                      by_cases c13 : x7_3 < (l1.length : Int)
                      · rw [if_pos c13] at H
                        have c13b0 : decide (x7_3 < (l1.length : Int)) = true := decide_eq_true c13
                        clear c13
                        by_cases c14 : 0 ≤ x7_3
                        · rw [if_pos c14] at H
                          have c14b0 : decide (0 ≤ x7_3) = true := decide_eq_true c14
                          clear c14
                          replace H := Option.bind_eq_some_iff.mp H
                          obtain ⟨t197, A150, H⟩ := H
                          replace H : (if t197 = true then (lorgnettelaw20_LatticeRises.l1 k3 a0 l1 x5_2 (wrap64 (x7_3 + 1))) else (some true)) = some r := H
                          have A15 := Aside0.mk A150
                          clear A150
                          by_cases c16 : t197 = true
                          · subst c16
                            have H1 : (lorgnettelaw20_LatticeRises.l1 k3 a0 l1 x5_2 (wrap64 (x7_3 + 1))) = some r := by rw [if_pos rfl] at H; exact H
                            clear H
                            have H := H1
                            clear H1
                            have H' := Aside0.mk H
                            clear H
                            have p196 : 0 ≤ (x7_3 : Int) := of_decide_eq_true (by first | (with_reducible assumption) | assumption)
                            have q196 : x7_3 < (l1.length : Int) := of_decide_eq_true (by first | (with_reducible assumption) | assumption)
                            obtain ⟨ad196, A196_1, c196_1, e196, hx196_0, hx196_1, hl196_1, hi196_1⟩ := at_T24 HR1.out x7_3 p196 q196
                            cases e196
                            replace hx196_0 := (HB.out.cell (World.block_lt_of_cell? w _ hx196_0)).trans hx196_0
                            replace hx196_1 := (HB.out.cell (World.block_lt_of_cell? w _ hx196_1)).trans hx196_1
                            have HR196_1 := Aside0.mk hi196_1
                            have HC196_1 := Aside0.mk hl196_1
                            clear hi196_1 hl196_1
                            replace p196 := eq_true p196
                            replace q196 := eq_true q196
                            go_wp2_with (first | ((with_reducible refine gate_callee (f := 13) rfl ?_); refine goesL_ (some 50) rfl rfl Try.func13 (by kernel_rfl) rfl #[.int .i64 a0, .int .i64 x5_2, .agg #[.bool ((rd_T24 l1 x7_3).f0), .slice A196_1 ((rd_T24 l1 x7_3).f1).length c196_1]] rfl (by (try simp only [List.map_toArray, List.map_cons, List.map_nil]); first | done | rfl | (simp only [List.length_drop, List.length_take]; rfl)) ?_; (with_reducible refine (lattice_Good.calls k3 a0 x5_2 ((rd_T24 l1 x7_3).f0) _ _ ((rd_T24 l1 x7_3).f1) true _ ?side1 ?side2 A15.out).mono ?_); (case side1 => repeat (first | exact (Kd.C_below HR196_1.out HB.out) | (with_reducible refine Kd.C_alloc ?_ _) | (with_reducible refine Kd.C_drewN ?_ _) | (with_reducible refine Kd.C_drew ?_))); (case side2 => exact HC196_1.out); rintro e w17 ⟨rfl, hb⟩; refine ⟨_, rfl, ?_⟩; have n0_ := Aside0.mk (below_step (by repeat (first | (with_reducible first | exact HB.out | apply below_alloc | apply pw_below_drewN | apply below_drew1) | exact HB.out)) hb); clear HB; have HB := n0_; clear n0_; (try clear hb); (try clear hb2); (try clear hk); (try clear hi)))
                            go_roundg k3
                            case measure => have := HJ4.out; have := HK2.out; have := HK3.out; omega
                            case rel => exact ⟨(wrap64 (x7_3 + 1)), (by first | rfl | (simp; done) | (simp [*]; done)), H', ⟨by have := HJ4.out; have := HK2.out; have := HK3.out; omega⟩, ⟨by repeat (first | (with_reducible first | exact HB.out | apply below_alloc | apply pw_below_drewN | apply below_drew1) | exact HB.out)⟩⟩
                          · replace c16 := Bool.eq_false_iff.mpr c16
                            subst c16
                            have H1 : (some true) = some r := by rw [if_neg (show ¬ (false = true) by decide)] at H; exact H
                            clear H
                            have H := H1
                            clear H1
                            obtain rfl := Option.some.inj H
                            have p196 : 0 ≤ (x7_3 : Int) := of_decide_eq_true (by first | (with_reducible assumption) | assumption)
                            have q196 : x7_3 < (l1.length : Int) := of_decide_eq_true (by first | (with_reducible assumption) | assumption)
                            obtain ⟨ad196, A196_1, c196_1, e196, hx196_0, hx196_1, hl196_1, hi196_1⟩ := at_T24 HR1.out x7_3 p196 q196
                            cases e196
                            replace hx196_0 := (HB.out.cell (World.block_lt_of_cell? w _ hx196_0)).trans hx196_0
                            replace hx196_1 := (HB.out.cell (World.block_lt_of_cell? w _ hx196_1)).trans hx196_1
                            have HR196_1 := Aside0.mk hi196_1
                            have HC196_1 := Aside0.mk hl196_1
                            clear hi196_1 hl196_1
                            replace p196 := eq_true p196
                            replace q196 := eq_true q196
                            go_wp2_with (first | ((with_reducible refine gate_callee (f := 13) rfl ?_); refine goesL_ (some 50) rfl rfl Try.func13 (by kernel_rfl) rfl #[.int .i64 a0, .int .i64 x5_2, .agg #[.bool ((rd_T24 l1 x7_3).f0), .slice A196_1 ((rd_T24 l1 x7_3).f1).length c196_1]] rfl (by (try simp only [List.map_toArray, List.map_cons, List.map_nil]); first | done | rfl | (simp only [List.length_drop, List.length_take]; rfl)) ?_; (with_reducible refine (lattice_Good.calls k3 a0 x5_2 ((rd_T24 l1 x7_3).f0) _ _ ((rd_T24 l1 x7_3).f1) false _ ?side1 ?side2 A15.out).mono ?_); (case side1 => repeat (first | exact (Kd.C_below HR196_1.out HB.out) | (with_reducible refine Kd.C_alloc ?_ _) | (with_reducible refine Kd.C_drewN ?_ _) | (with_reducible refine Kd.C_drew ?_))); (case side2 => exact HC196_1.out); rintro e w18 ⟨rfl, hb⟩; refine ⟨_, rfl, ?_⟩; have n0_ := Aside0.mk (below_step (by repeat (first | (with_reducible first | exact HB.out | apply below_alloc | apply pw_below_drewN | apply below_drew1) | exact HB.out)) hb); clear HB; have HB := n0_; clear n0_; (try clear hb); (try clear hb2); (try clear hk); (try clear hi)))
                            go_ret
                            exact ⟨by first | rfl | (simp [errW_none, errW_some] <;> rfl) | (simp [*, errW_none, errW_some] <;> rfl), by repeat (first | (with_reducible first | exact HB.out | apply below_alloc | apply pw_below_drewN | apply below_drew1) | exact HB.out)⟩
                        · rw [if_neg c14] at H
                          exact absurd H (by simp)
                      · rw [if_neg c13] at H
                        have c13b0 : decide (x7_3 < (l1.length : Int)) = false := decide_eq_false c13
                        clear c13
                        replace H := Option.bind_eq_some_iff.mp H
                        obtain ⟨⟨t198, t199⟩, A190, H⟩ := H
                        replace H : (lorgnettelaw20_LatticeRises.l2 k3 a0 l1 x5_2 0 0 t198 t199) = some r := H
                        have A19 := Aside0.mk A190
                        clear A190
                        have H' := Aside0.mk H
                        clear H
                        go_wp2_with (first | ((with_reducible refine gate_callee (f := 18) rfl ?_); refine goesL_ (some 53) rfl rfl Try.func18 (by kernel_rfl) rfl #[.int .i64 x5_2] rfl (by (try simp only [List.map_toArray, List.map_cons, List.map_nil]); first | done | rfl | (simp only [List.length_drop, List.length_take]; rfl)) ?_; (with_reducible refine (lattice_Bottom.calls x5_2 t198 t199 _ A19.out).mono ?_); rintro e w20 ⟨v200, rfl, ho0, hb⟩; refine ⟨_, rfl, ?_⟩; have n0_ := Aside0.mk (Kd.R_lower ho0 (below_size (by repeat (first | (with_reducible first | exact HB.out | apply below_alloc | apply pw_below_drewN | apply below_drew1) | exact HB.out)))); have n1_ := Aside0.mk (below_step (by repeat (first | (with_reducible first | exact HB.out | apply below_alloc | apply pw_below_drewN | apply below_drew1) | exact HB.out)) hb); clear HB; have HO201 := n0_; have HB := n1_; clear n0_ n1_; (try clear hb); (try clear hb2); (try clear hk); (try clear hi); (try clear ho0)) | ((with_reducible refine gate_dst (N := 8) rfl ?_); (try (refine gate_guard (by rfl) ?_; dsimp only)); refine box_event ?hg (N := 8) ?hd (cs := #[.bool false, .slice none 0 0]) (t := 24) ?hr ?_; (case hd => rfl); (case hg => rfl); (case hr => first | (go_simp; done) | (go_simp; rfl)); intro gb202 hg w21 hbox hb; have n0_ := Aside0.mk (Kd.R_below (by (with_reducible repeat (first | apply Kd.R_alloc | apply Kd.R_drewN | apply Kd.R_drew)); exact HO201.out) hb); have n1_ := Aside0.mk (below_step (by repeat (first | (with_reducible first | exact HB.out | apply below_alloc | apply pw_below_drewN | apply below_drew1) | exact HB.out)) hb); have n2_ := Aside0.mk (hbox); have n3_ := Aside0.mk ((by rw [hg]; exact (below_size (by repeat (first | (with_reducible first | exact HB.out | apply below_alloc | apply pw_below_drewN | apply below_drew1) | exact HB.out))) : w.heap.size ≤ gb202)); have n4_ := Aside0.mk ((by rw [hg]; exact (below_size (by repeat (first | (with_reducible first | exact HB.out | apply below_alloc | apply pw_below_drewN | apply below_drew1) | exact HB.out))) : w.heap.size ≤ gb202)); clear HO201; clear HB; have HO201 := n0_; have HB := n1_; have BK202 := n2_; have GW202 := n3_; have GE202 := n4_; clear n0_ n1_ n2_ n3_ n4_; clear hb hbox hg; have hcz22_0 : w21.cell? ⟨gb202, 0, none⟩ = some (.bool false) := (blk_cell BK202.out 0).trans rfl; have hcz22_1 : w21.cell? ⟨gb202, 1, none⟩ = some (.slice none 0 0) := (blk_cell BK202.out 1).trans rfl; have hfz22_0 := blk_frozen BK202.out 0; have hfz22_1 := blk_frozen BK202.out 1; obtain ⟨Ao23, co23, eo23⟩ := Kd.R_slice HO201.out; subst eo23))
                        go_loopg [9, 10] k3 (fun kq v9 v10 w' => ∃ (x9_4 : Int) (x10_4 : Int) (x203000_4 : Bool) (x203001_4 : List Int) (u203001 : Value), v9 = .int .i64 x9_4 ∧ v10 = .int .i64 x10_4 ∧ Aside0 (lorgnettelaw20_LatticeRises.l2 kq a0 l1 x5_2 x9_4 x10_4 x203000_4 x203001_4 = some r) ∧ Aside0 (kq ≤ k3) ∧ Aside0 (Kd.R (Kd.int .i64) 3 w' w.heap.size (fun _ => True) u203001 x203001_4) ∧ Aside0 (w'.heap[gb202]? = some (.cells #[.bool x203000_4, u203001] 24 (0, 0))) ∧ Aside0 (Below w.heap.size w w'))
                        case atStart => exact ⟨(0), (0), (t198), (t199), (.slice Ao23 t199.length co23), (by first | rfl | (simp; done) | (simp [*]; done)), (by first | rfl | (simp; done) | (simp [*]; done)), H', ⟨Nat.le_refl _⟩, ⟨by (with_reducible repeat (first | apply Kd.R_alloc | apply Kd.R_drewN | apply Kd.R_drew)); exact Kd.R_mono (Kd.R_far (p := ⟨gb202, 1, none⟩) (Kd.R_far (p := ⟨gb202, 0, none⟩) (Kd.R_types HO201.out BK202.out (by decide)) (fun _ hk => hk.2) (.bool t198)) (fun _ hk => hk.2) (.slice Ao23 t199.length co23)) (fun _ hk => trivial)⟩, ⟨by (with_reducible repeat (first | refine blk_drewN ?_ _ | refine blk_drew ?_ | refine blk_alloc ?_ _)); refine blk_put (cs := #[.bool t198, .slice none 0 0]) ?_ 1 _ rfl; (with_reducible repeat (first | refine blk_drewN ?_ _ | refine blk_drew ?_ | refine blk_alloc ?_ _)); refine blk_put (cs := #[.bool false, .slice none 0 0]) ?_ 0 _ rfl; (with_reducible repeat (first | refine blk_drewN ?_ _ | refine blk_drew ?_ | refine blk_alloc ?_ _)); exact BK202.out⟩, ⟨by repeat (first | (with_reducible first | exact HB.out | apply below_alloc | apply pw_below_drewN | apply below_drew1 | refine below_set ?_ GE202.out) | exact HB.out)⟩⟩
                        case round =>
                          clear H'
                          try clear c1
                          try clear p1
                          try clear q1
                          try clear hx1
                          try clear p2
                          try clear c4
                          try clear p6
                          try clear c7
                          try clear c7b0
                          try clear c7b1
                          try clear c8
                          try clear c9
                          try clear c9b0
                          try clear c10
                          try clear c10b0
                          try clear c12
                          try clear c12b0
                          try clear c13
                          try clear c13b0
                          try clear c14
                          try clear c14b0
                          try clear c16
                          try clear c18
                          try clear c19
                          try clear p19
                          try clear q19
                          try clear hx19
                          try clear hcz22_0
                          try clear hcz22_1
                          try clear hfz22_0
                          try clear hfz22_1
                          try clear hx195_0
                          try clear hx195_1
                          try clear hx196_0
                          try clear hx196_1
                          try clear p1
                          try clear p195
                          try clear p196
                          try clear p2
                          try clear p6
                          try clear q1
                          try clear q195
                          try clear q196
                          obtain ⟨x9_4, x10_4, x203000_4, x203001_4, u203001, rfl, rfl, HA, HK4, HO_203001, BK202, HB⟩ := hrel
                          cases gk with
                          | zero => exact absurd HA.out (by simp [lorgnettelaw20_LatticeRises.l2])
                          | succ k4 =>
                            have H := HA.out
                            clear HA
                            simp only [lorgnettelaw20_LatticeRises.l2] at H
                            by_cases c24 : x10_4 < (l1.length : Int)
                            · rw [if_pos c24] at H
                              have c24b0 : decide (x10_4 < (l1.length : Int)) = true := decide_eq_true c24
                              clear c24
                              by_cases c25 : 0 ≤ x10_4
                              · rw [if_pos c25] at H
                                have c25b0 : decide (0 ≤ x10_4) = true := decide_eq_true c25
                                clear c25
                                replace H := Option.bind_eq_some_iff.mp H
                                obtain ⟨⟨t205, t206⟩, A260, H⟩ := H
                                replace H : ((lattice_Below.f k4 a0 x203000_4 x203001_4 t205 t206).bind fun t210 => (if t210 = true then ((lattice_Good.f k4 a0 x5_2 t205 t206).bind fun t211 => (lorgnettelaw20_LatticeRises.j4 k4 a0 l1 x5_2 x9_4 x10_4 (!t211) x203000_4 x203001_4 t205 t206)) else (lorgnettelaw20_LatticeRises.j4 k4 a0 l1 x5_2 x9_4 x10_4 true x203000_4 x203001_4 t205 t206))) = some r := H
                                have A26 := Aside0.mk A260
                                clear A260
                                have HC27 := Aside0.mk H
                                clear H
                                obtain ⟨Ao28, co28, eo28⟩ := Kd.R_slice HO_203001.out
                                subst eo28
                                try go_wp2
                                have n0_ := Aside0.mk (Kd.R_drew HO_203001.out)
                                have n1_ := Aside0.mk (blk_drew BK202.out)
                                have n2_ := Aside0.mk (below_drew1 HB.out)
                                clear HO_203001
                                clear BK202
                                clear HB
                                have HO_203001 := n0_
                                have BK202 := n1_
                                have HB := n2_
                                clear n0_ n1_ n2_
                                have p204 : 0 ≤ (x10_4 : Int) := of_decide_eq_true (by first | (with_reducible assumption) | assumption)
                                have q204 : x10_4 < (l1.length : Int) := of_decide_eq_true (by first | (with_reducible assumption) | assumption)
                                obtain ⟨ad204, A204_1, c204_1, e204, hx204_0, hx204_1, hl204_1, hi204_1⟩ := at_T24 HR1.out x10_4 p204 q204
                                have hw204_1 := hx204_1
                                have hw204_0 := hx204_0
                                cases e204
                                replace hx204_0 := (HB.out.cell (World.block_lt_of_cell? w _ hx204_0)).trans hx204_0
                                replace hx204_1 := (HB.out.cell (World.block_lt_of_cell? w _ hx204_1)).trans hx204_1
                                have HR204_1 := Aside0.mk hi204_1
                                have HC204_1 := Aside0.mk hl204_1
                                clear hi204_1 hl204_1
                                replace p204 := eq_true p204
                                replace q204 := eq_true q204
                                refine start_ (n := 9) (S := fun w' => w'.cell? ⟨gb202, 0, none⟩ = some (.bool x203000_4) ∧ w'.cell? ⟨gb202, 1, none⟩ = some (.slice Ao28 x203001_4.length co28) ∧ w'.cell? (ad204.add ((x10_4).toNat * 2)) = some (.bool ((rd_T24 l1 x10_4).f0)) ∧ w'.cell? ⟨(ad204.add ((x10_4).toNat * 2)).block, (ad204.add ((x10_4).toNat * 2)).off + 1, none⟩ = some (.slice A204_1 ((rd_T24 l1 x10_4).f1).length c204_1)) (ds := []) #[false, false, false, false, false, false, false, false, false] (by kernel_rfl) rfl rfl ⟨(blk_cell BK202.out 0).trans rfl, (blk_cell BK202.out 1).trans rfl, ((HB.out.cell (World.block_lt_of_cell? w _ hw204_0)).trans hw204_0), ((HB.out.cell (World.block_lt_of_cell? w _ hw204_1)).trans hw204_1)⟩ (fun hHeld => ?_); refine with_tabW lorgnettelaw20_LatticeRises.tab22 lorgnettelaw20_LatticeRises.bits22 (fun HT_ HW_ => ?_)
                                generalize wr.drew = w29 at HO_203001 BK202 HB HR204_1 hx204_0 hx204_1 hHeld ⊢
                                refine pure_ (i := 0) (N := some 60) (v := ?_) (a' := ?_) #[true, false, false, false, false, false, false, false, false] rfl rfl (any_of HT_.out (by kernel_rfl)) (fun _ _ _ h => h) (Or.inl ⟨by rfl, ?_⟩) ?_ ?_
                                rotate_left
                                · intro w'
                                  go_simp
                                  with_reducible rfl
                                rotate_left
                                · simp only [Act.put, List.setIfInBounds_toArray, List.set_cons_zero, List.set_cons_succ, i64_w, i32_w]
                                  rfl
                                refine pure_ (i := 2) (N := some 62) (v := ?_) (a' := ?_) #[true, false, true, false, false, false, false, false, false] rfl rfl (any_of HT_.out (by kernel_rfl)) (fun _ _ _ h => h) (Or.inl ⟨by rfl, ?_⟩) ?_ ?_
                                rotate_left
                                · intro w'
                                  go_simp
                                  with_reducible rfl
                                rotate_left
                                · simp only [Act.put, List.setIfInBounds_toArray, List.set_cons_zero, List.set_cons_succ, i64_w, i32_w]
                                  rfl
                                refine pure_ (i := 3) (N := some 63) (v := ?_) (a' := ?_) #[true, false, true, true, false, false, false, false, false] rfl rfl (any_of HT_.out (by kernel_rfl)) (fun _ _ _ h => h) (Or.inl ⟨by rfl, ?_⟩) ?_ ?_
                                rotate_left
                                · intro w'
                                  go_simp
                                  with_reducible rfl
                                rotate_left
                                · simp only [Act.put, List.setIfInBounds_toArray, List.set_cons_zero, List.set_cons_succ, i64_w, i32_w]
                                  rfl
                                refine pure_ (i := 4) (N := some 64) (v := ?_) (a' := ?_) #[true, false, true, true, true, false, false, false, false] rfl rfl (any_of HT_.out (by kernel_rfl)) (fun _ _ _ h => h) (Or.inl ⟨by rfl, ?_⟩) ?_ ?_
                                rotate_left
                                · intro w'
                                  go_simp
                                  with_reducible rfl
                                rotate_left
                                · simp only [Act.put, List.setIfInBounds_toArray, List.set_cons_zero, List.set_cons_succ, i64_w, i32_w]
                                  rfl
                                refine take_ (i := 1) (N := some 61) (v := ?_) (a' := ?_) #[true, true, true, true, true, false, false, false, false] rfl rfl (take_ofW HT_.out HW_.out (by kernel_rfl)) (fun _ _ _ h => h) (Or.inl ⟨by rfl, ?_⟩) hHeld ?_ ?_
                                rotate_left
                                · rintro w' ⟨s0, s1, s2, s3⟩
                                  go_simp
                                  with_reducible rfl
                                rotate_left
                                · simp only [Act.put, List.setIfInBounds_toArray, List.set_cons_zero, List.set_cons_succ, i64_w, i32_w]
                                  rfl
                                refine take_ (i := 5) (N := some 65) (v := ?_) (a' := ?_) #[true, true, true, true, true, true, false, false, false] rfl rfl (take_ofW HT_.out HW_.out (by kernel_rfl)) (fun _ _ _ h => h) (Or.inl ⟨by rfl, ?_⟩) hHeld ?_ ?_
                                rotate_left
                                · rintro w' ⟨s0, s1, s2, s3⟩
                                  go_simp
                                  with_reducible rfl
                                rotate_left
                                · simp only [Act.put, List.setIfInBounds_toArray, List.set_cons_zero, List.set_cons_succ, i64_w, i32_w]
                                  rfl
                                refine join_ (σ := Value × Nat) 1 #[true, true, true, true, true, true, true, true, false] (fun s_ => [(66, .agg #[.bool t205, s_.1]), (11, .pointer (some ⟨s_.2, 0, none⟩))]) (fun s_ w' => (w'.cell? ⟨gb202, 0, none⟩ = some (.bool x203000_4) ∧ w'.cell? ⟨gb202, 1, none⟩ = some (.slice Ao28 x203001_4.length co28) ∧ w'.cell? (ad204.add ((x10_4).toNat * 2)) = some (.bool ((rd_T24 l1 x10_4).f0)) ∧ w'.cell? ⟨(ad204.add ((x10_4).toNat * 2)).block, (ad204.add ((x10_4).toNat * 2)).off + 1, none⟩ = some (.slice A204_1 ((rd_T24 l1 x10_4).f1).length c204_1)) ∧ (Kd.R (Kd.int .i64) 3 w' w.heap.size (fun k_ => some k_ ≠ (.slice Ao28 x203001_4.length co28 : Value).ownBlock) s_.1 t206) ∧ (Kd.R (Kd.int .i64) 3 w' w.heap.size (fun k_ => some k_ ≠ (s_.1 : Value).ownBlock) (.slice Ao28 x203001_4.length co28) x203001_4) ∧ (w'.heap[gb202]? = some (.cells #[.bool x203000_4, .slice Ao28 x203001_4.length co28] 24 (0, 0))) ∧ (w'.heap[s_.2]? = some (.cells #[.bool false, .slice none 0 0] 24 (0, 0))) ∧ (w.heap.size ≤ s_.2) ∧ (w.heap.size ≤ s_.2) ∧ (gb202 ≠ s_.2) ∧ (s_.2 ≠ gb202) ∧ (Below w.heap.size w w')) ?_ ?_
                                rotate_left
                                · intro hCont
                                  refine two_ (i := 6) (j := 7) (Ni := some 66) (Nj := some 11) #[true, true, true, true, true, true, true, false, false] #[true, true, true, true, true, true, false, true, false] rfl rfl rfl rfl (two_of HT_.out (by kernel_rfl)) (by decide) (by decide) (fun K hK => ?_) (fun K hK => ?_)
                                  · skip
                                    refine goes_ Try.func14 (by kernel_rfl) rfl #[.int .i64 a0, .agg #[.bool x203000_4, .slice Ao28 x203001_4.length co28], .agg #[.bool ((rd_T24 l1 x10_4).f0), .slice A204_1 ((rd_T24 l1 x10_4).f1).length c204_1]] (by rfl) rfl rfl (by (try simp only [List.map_toArray, List.map_cons, List.map_nil]); first | done | rfl | (simp only [List.length_drop, List.length_take]; rfl)) ?_
                                    with_reducible refine (lattice_Join.calls k4 a0 x203000_4 _ _ x203001_4 ((rd_T24 l1 x10_4).f0) _ _ ((rd_T24 l1 x10_4).f1) t205 t206 _ ?side1 ?side2 ?side3 ?side4 A26.out).mono ?_
                                    (case side1 => repeat (first | exact (Kd.R_reads' HO_203001.out).2.2 | (with_reducible refine Kd.C_alloc ?_ _) | (with_reducible refine Kd.C_drewN ?_ _) | (with_reducible refine Kd.C_drew ?_)))
                                    (case side2 => exact (Kd.R_reads' HO_203001.out).2.1)
                                    (case side3 => repeat (first | exact (Kd.C_below HR204_1.out HB.out) | (with_reducible refine Kd.C_alloc ?_ _) | (with_reducible refine Kd.C_drewN ?_ _) | (with_reducible refine Kd.C_drew ?_)))
                                    (case side4 => exact HC204_1.out)
                                    rintro e w30 ⟨v207, rfl, ho0, hb⟩
                                    refine ⟨_, rfl, ?_⟩
                                    have n0_ := Aside0.mk (Kd.R_elder' (by (with_reducible repeat (first | apply Kd.R_alloc | apply Kd.R_drewN | apply Kd.R_drew)); exact HO_203001.out) (Kd.R_base ho0) hb)
                                    have n1_ := Aside0.mk (Kd.R_lower (Kd.R_new' ho0 (Kd.R_lt (by (with_reducible repeat (first | apply Kd.R_alloc | apply Kd.R_drewN | apply Kd.R_drew)); exact HO_203001.out))) (below_size (by repeat (first | (with_reducible first | exact HB.out | apply below_alloc | apply pw_below_drewN | apply below_drew1 | refine below_set ?_ GE202.out) | exact HB.out))))
                                    have n2_ := Aside0.mk (blk_below (g := gb202) (o := .cells #[.bool x203000_4, .slice Ao28 x203001_4.length co28] 24 (0, 0)) (by (with_reducible repeat (first | refine blk_drewN ?_ _ | refine blk_drew ?_ | refine blk_alloc ?_ _)); exact BK202.out) hb)
                                    have n3_ := Aside0.mk (below_step (by repeat (first | (with_reducible first | exact HB.out | apply below_alloc | apply pw_below_drewN | apply below_drew1 | refine below_set ?_ GE202.out) | exact HB.out)) hb)
                                    clear HO_203001
                                    clear BK202
                                    clear HB
                                    have HO_203001 := n0_
                                    have HO208 := n1_
                                    have BK202 := n2_
                                    have HB := n3_
                                    clear n0_ n1_ n2_ n3_
                                    (try clear hb)
                                    (try clear hb2)
                                    (try clear hk)
                                    (try clear hi)
                                    (try clear ho0)
                                    refine hK.out _ _ ⟨(blk_cell BK202.out 0).trans rfl, (blk_cell BK202.out 1).trans rfl, ((HB.out.cell (World.block_lt_of_cell? w _ hw204_0)).trans hw204_0), ((HB.out.cell (World.block_lt_of_cell? w _ hw204_1)).trans hw204_1)⟩ (fun hHeld => ?_)
                                    clear hK K
                                    refine norm_ (a' := ?_) ?_ ?_
                                    rotate_left
                                    · show Act.put _ (some 66) _ = _
                                      simp only [Act.put, List.setIfInBounds_toArray, List.set_cons_zero, List.set_cons_succ, i64_w, i32_w]
                                      rfl
                                    refine one_ (i := 7) (N := some 11) #[true, true, true, true, true, true, true, true, false] rfl rfl (one_of HT_.out (by kernel_rfl)) (by decide) (fun K hK => ?_)
                                    refine box_step ?hg (N := 11) ?hd (cs := #[.bool false, .slice none 0 0]) (t := 24) ?hr ?_; (case hd => rfl); (case hg => rfl); (case hr => first | (go_simp; done) | (go_simp; rfl))
                                    intro gb209 hg w31 hbox hb
                                    have n0_ := Aside0.mk (Kd.R_below (by (with_reducible repeat (first | apply Kd.R_alloc | apply Kd.R_drewN | apply Kd.R_drew)); exact HO_203001.out) hb)
                                    have n1_ := Aside0.mk (Kd.R_below (by (with_reducible repeat (first | apply Kd.R_alloc | apply Kd.R_drewN | apply Kd.R_drew)); exact HO208.out) hb)
                                    have n2_ := Aside0.mk (blk_below (g := gb202) (o := .cells #[.bool x203000_4, .slice Ao28 x203001_4.length co28] 24 (0, 0)) (by (with_reducible repeat (first | refine blk_drewN ?_ _ | refine blk_drew ?_ | refine blk_alloc ?_ _)); exact BK202.out) hb)
                                    have n3_ := Aside0.mk (below_step (by repeat (first | (with_reducible first | exact HB.out | apply below_alloc | apply pw_below_drewN | apply below_drew1 | refine below_set ?_ GE202.out) | exact HB.out)) hb)
                                    have n4_ := Aside0.mk (hbox)
                                    have n5_ := Aside0.mk ((by rw [hg]; exact (below_size (by repeat (first | (with_reducible first | exact HB.out | apply below_alloc | apply pw_below_drewN | apply below_drew1 | refine below_set ?_ GE202.out) | exact HB.out))) : w.heap.size ≤ gb209))
                                    have n6_ := Aside0.mk ((by rw [hg]; exact (below_size (by repeat (first | (with_reducible first | exact HB.out | apply below_alloc | apply pw_below_drewN | apply below_drew1 | refine below_set ?_ GE202.out) | exact HB.out))) : w.heap.size ≤ gb209))
                                    have n7_ := Aside0.mk ((by rw [hg]; exact Nat.ne_of_lt (blk_lt (g := gb202) (o := .cells #[.bool x203000_4, .slice Ao28 x203001_4.length co28] 24 (0, 0)) (by (with_reducible repeat (first | refine blk_drewN ?_ _ | refine blk_drew ?_ | refine blk_alloc ?_ _)); exact BK202.out)) : gb202 ≠ gb209))
                                    have n8_ := Aside0.mk ((by rw [hg]; exact Nat.ne_of_gt (blk_lt (g := gb202) (o := .cells #[.bool x203000_4, .slice Ao28 x203001_4.length co28] 24 (0, 0)) (by (with_reducible repeat (first | refine blk_drewN ?_ _ | refine blk_drew ?_ | refine blk_alloc ?_ _)); exact BK202.out)) : gb209 ≠ gb202))
                                    clear HO_203001
                                    clear HO208
                                    clear BK202
                                    clear HB
                                    have HO_203001 := n0_
                                    have HO208 := n1_
                                    have BK202 := n2_
                                    have HB := n3_
                                    have BK209 := n4_
                                    have GW209 := n5_
                                    have GE209 := n6_
                                    have NB202_209 := n7_
                                    have NB209_202 := n8_
                                    clear n0_ n1_ n2_ n3_ n4_ n5_ n6_ n7_ n8_
                                    clear hb hbox hg
                                    refine hK.out _ _ ⟨(blk_cell BK202.out 0).trans rfl, (blk_cell BK202.out 1).trans rfl, ((HB.out.cell (World.block_lt_of_cell? w _ hw204_0)).trans hw204_0), ((HB.out.cell (World.block_lt_of_cell? w _ hw204_1)).trans hw204_1)⟩ (fun hHeld => ?_)
                                    clear hK K
                                    refine norm_ (a' := ?_) ?_ ?_
                                    rotate_left
                                    · show Act.put _ (some 11) _ = _
                                      simp only [Act.put, List.setIfInBounds_toArray, List.set_cons_zero, List.set_cons_succ, i64_w, i32_w]
                                      rfl
                                    exact norm_ (by simp only [putAll, Act.put, List.setIfInBounds_toArray, List.set_cons_zero, List.set_cons_succ]) (hCont (v207, gb209) _ ⟨hHeld, (by (with_reducible repeat (first | apply Kd.R_alloc | apply Kd.R_drewN | apply Kd.R_drew)); exact Kd.R_mono HO208.out (fun _ hk => hk.2)), (by (with_reducible repeat (first | apply Kd.R_alloc | apply Kd.R_drewN | apply Kd.R_drew)); exact Kd.R_mono HO_203001.out (fun _ hk => hk.2)), (by (with_reducible repeat (first | refine blk_drewN ?_ _ | refine blk_drew ?_ | refine blk_alloc ?_ _)); exact BK202.out), (by (with_reducible repeat (first | refine blk_drewN ?_ _ | refine blk_drew ?_ | refine blk_alloc ?_ _)); exact BK209.out), GW209.out, GE209.out, NB202_209.out, NB209_202.out, (by repeat (first | (with_reducible first | exact HB.out | apply below_alloc | apply pw_below_drewN | apply below_drew1 | refine below_set ?_ GE202.out | refine below_set ?_ GE209.out) | exact HB.out))⟩)
                                  · skip
                                    refine box_step ?hg (N := 11) ?hd (cs := #[.bool false, .slice none 0 0]) (t := 24) ?hr ?_; (case hd => rfl); (case hg => rfl); (case hr => first | (go_simp; done) | (go_simp; rfl))
                                    intro gb209 hg w30 hbox hb
                                    have n0_ := Aside0.mk (Kd.R_below (by (with_reducible repeat (first | apply Kd.R_alloc | apply Kd.R_drewN | apply Kd.R_drew)); exact HO_203001.out) hb)
                                    have n1_ := Aside0.mk (blk_below (g := gb202) (o := .cells #[.bool x203000_4, .slice Ao28 x203001_4.length co28] 24 (0, 0)) (by (with_reducible repeat (first | refine blk_drewN ?_ _ | refine blk_drew ?_ | refine blk_alloc ?_ _)); exact BK202.out) hb)
                                    have n2_ := Aside0.mk (below_step (by repeat (first | (with_reducible first | exact HB.out | apply below_alloc | apply pw_below_drewN | apply below_drew1 | refine below_set ?_ GE202.out) | exact HB.out)) hb)
                                    have n3_ := Aside0.mk (hbox)
                                    have n4_ := Aside0.mk ((by rw [hg]; exact (below_size (by repeat (first | (with_reducible first | exact HB.out | apply below_alloc | apply pw_below_drewN | apply below_drew1 | refine below_set ?_ GE202.out) | exact HB.out))) : w.heap.size ≤ gb209))
                                    have n5_ := Aside0.mk ((by rw [hg]; exact (below_size (by repeat (first | (with_reducible first | exact HB.out | apply below_alloc | apply pw_below_drewN | apply below_drew1 | refine below_set ?_ GE202.out) | exact HB.out))) : w.heap.size ≤ gb209))
                                    have n6_ := Aside0.mk ((by rw [hg]; exact Nat.ne_of_lt (blk_lt (g := gb202) (o := .cells #[.bool x203000_4, .slice Ao28 x203001_4.length co28] 24 (0, 0)) (by (with_reducible repeat (first | refine blk_drewN ?_ _ | refine blk_drew ?_ | refine blk_alloc ?_ _)); exact BK202.out)) : gb202 ≠ gb209))
                                    have n7_ := Aside0.mk ((by rw [hg]; exact Nat.ne_of_gt (blk_lt (g := gb202) (o := .cells #[.bool x203000_4, .slice Ao28 x203001_4.length co28] 24 (0, 0)) (by (with_reducible repeat (first | refine blk_drewN ?_ _ | refine blk_drew ?_ | refine blk_alloc ?_ _)); exact BK202.out)) : gb209 ≠ gb202))
                                    clear HO_203001
                                    clear BK202
                                    clear HB
                                    have HO_203001 := n0_
                                    have BK202 := n1_
                                    have HB := n2_
                                    have BK209 := n3_
                                    have GW209 := n4_
                                    have GE209 := n5_
                                    have NB202_209 := n6_
                                    have NB209_202 := n7_
                                    clear n0_ n1_ n2_ n3_ n4_ n5_ n6_ n7_
                                    clear hb hbox hg
                                    refine hK.out _ _ ⟨(blk_cell BK202.out 0).trans rfl, (blk_cell BK202.out 1).trans rfl, ((HB.out.cell (World.block_lt_of_cell? w _ hw204_0)).trans hw204_0), ((HB.out.cell (World.block_lt_of_cell? w _ hw204_1)).trans hw204_1)⟩ (fun hHeld => ?_)
                                    clear hK K
                                    refine norm_ (a' := ?_) ?_ ?_
                                    rotate_left
                                    · show Act.put _ (some 11) _ = _
                                      simp only [Act.put, List.setIfInBounds_toArray, List.set_cons_zero, List.set_cons_succ, i64_w, i32_w]
                                      rfl
                                    refine one_ (i := 6) (N := some 66) #[true, true, true, true, true, true, true, true, false] rfl rfl (one_of HT_.out (by kernel_rfl)) (by decide) (fun K hK => ?_)
                                    refine goes_ Try.func14 (by kernel_rfl) rfl #[.int .i64 a0, .agg #[.bool x203000_4, .slice Ao28 x203001_4.length co28], .agg #[.bool ((rd_T24 l1 x10_4).f0), .slice A204_1 ((rd_T24 l1 x10_4).f1).length c204_1]] (by rfl) rfl rfl (by (try simp only [List.map_toArray, List.map_cons, List.map_nil]); first | done | rfl | (simp only [List.length_drop, List.length_take]; rfl)) ?_
                                    with_reducible refine (lattice_Join.calls k4 a0 x203000_4 _ _ x203001_4 ((rd_T24 l1 x10_4).f0) _ _ ((rd_T24 l1 x10_4).f1) t205 t206 _ ?side1 ?side2 ?side3 ?side4 A26.out).mono ?_
                                    (case side1 => repeat (first | exact (Kd.R_reads' HO_203001.out).2.2 | (with_reducible refine Kd.C_alloc ?_ _) | (with_reducible refine Kd.C_drewN ?_ _) | (with_reducible refine Kd.C_drew ?_)))
                                    (case side2 => exact (Kd.R_reads' HO_203001.out).2.1)
                                    (case side3 => repeat (first | exact (Kd.C_below HR204_1.out HB.out) | (with_reducible refine Kd.C_alloc ?_ _) | (with_reducible refine Kd.C_drewN ?_ _) | (with_reducible refine Kd.C_drew ?_)))
                                    (case side4 => exact HC204_1.out)
                                    rintro e w31 ⟨v207, rfl, ho0, hb⟩
                                    refine ⟨_, rfl, ?_⟩
                                    have n0_ := Aside0.mk (Kd.R_elder' (by (with_reducible repeat (first | apply Kd.R_alloc | apply Kd.R_drewN | apply Kd.R_drew)); exact HO_203001.out) (Kd.R_base ho0) hb)
                                    have n1_ := Aside0.mk (Kd.R_lower (Kd.R_new' ho0 (Kd.R_lt (by (with_reducible repeat (first | apply Kd.R_alloc | apply Kd.R_drewN | apply Kd.R_drew)); exact HO_203001.out))) (below_size (by repeat (first | (with_reducible first | exact HB.out | apply below_alloc | apply pw_below_drewN | apply below_drew1 | refine below_set ?_ GE202.out | refine below_set ?_ GE209.out) | exact HB.out))))
                                    have n2_ := Aside0.mk (blk_below (g := gb202) (o := .cells #[.bool x203000_4, .slice Ao28 x203001_4.length co28] 24 (0, 0)) (by (with_reducible repeat (first | refine blk_drewN ?_ _ | refine blk_drew ?_ | refine blk_alloc ?_ _)); exact BK202.out) hb)
                                    have n3_ := Aside0.mk (blk_below (g := gb209) (o := .cells #[.bool false, .slice none 0 0] 24 (0, 0)) (by (with_reducible repeat (first | refine blk_drewN ?_ _ | refine blk_drew ?_ | refine blk_alloc ?_ _)); exact BK209.out) hb)
                                    have n4_ := Aside0.mk (below_step (by repeat (first | (with_reducible first | exact HB.out | apply below_alloc | apply pw_below_drewN | apply below_drew1 | refine below_set ?_ GE202.out | refine below_set ?_ GE209.out) | exact HB.out)) hb)
                                    clear HO_203001
                                    clear BK202
                                    clear BK209
                                    clear HB
                                    have HO_203001 := n0_
                                    have HO208 := n1_
                                    have BK202 := n2_
                                    have BK209 := n3_
                                    have HB := n4_
                                    clear n0_ n1_ n2_ n3_ n4_
                                    (try clear hb)
                                    (try clear hb2)
                                    (try clear hk)
                                    (try clear hi)
                                    (try clear ho0)
                                    refine hK.out _ _ ⟨(blk_cell BK202.out 0).trans rfl, (blk_cell BK202.out 1).trans rfl, ((HB.out.cell (World.block_lt_of_cell? w _ hw204_0)).trans hw204_0), ((HB.out.cell (World.block_lt_of_cell? w _ hw204_1)).trans hw204_1)⟩ (fun hHeld => ?_)
                                    clear hK K
                                    refine norm_ (a' := ?_) ?_ ?_
                                    rotate_left
                                    · show Act.put _ (some 66) _ = _
                                      simp only [Act.put, List.setIfInBounds_toArray, List.set_cons_zero, List.set_cons_succ, i64_w, i32_w]
                                      rfl
                                    exact norm_ (by simp only [putAll, Act.put, List.setIfInBounds_toArray, List.set_cons_zero, List.set_cons_succ]) (hCont (v207, gb209) _ ⟨hHeld, (by (with_reducible repeat (first | apply Kd.R_alloc | apply Kd.R_drewN | apply Kd.R_drew)); exact Kd.R_mono HO208.out (fun _ hk => hk.2)), (by (with_reducible repeat (first | apply Kd.R_alloc | apply Kd.R_drewN | apply Kd.R_drew)); exact Kd.R_mono HO_203001.out (fun _ hk => hk.2)), (by (with_reducible repeat (first | refine blk_drewN ?_ _ | refine blk_drew ?_ | refine blk_alloc ?_ _)); exact BK202.out), (by (with_reducible repeat (first | refine blk_drewN ?_ _ | refine blk_drew ?_ | refine blk_alloc ?_ _)); exact BK209.out), GW209.out, GE209.out, NB202_209.out, NB209_202.out, (by repeat (first | (with_reducible first | exact HB.out | apply below_alloc | apply pw_below_drewN | apply below_drew1 | refine below_set ?_ GE202.out | refine below_set ?_ GE209.out) | exact HB.out))⟩)
                                rintro ⟨v207, gb209⟩ w32 ⟨hS_, h0_, h1_, h2_, h3_, h4_, h5_, h6_, h7_, h8_⟩
                                have n0_ : Aside0 (Kd.R (Kd.int .i64) 3 w32 w.heap.size (fun k_ => some k_ ≠ (.slice Ao28 x203001_4.length co28 : Value).ownBlock) v207 t206) := ⟨h0_⟩
                                have n1_ : Aside0 (Kd.R (Kd.int .i64) 3 w32 w.heap.size (fun k_ => some k_ ≠ (v207 : Value).ownBlock) (.slice Ao28 x203001_4.length co28) x203001_4) := ⟨h1_⟩
                                have n2_ : Aside0 (w32.heap[gb202]? = some (.cells #[.bool x203000_4, .slice Ao28 x203001_4.length co28] 24 (0, 0))) := ⟨h2_⟩
                                have n3_ : Aside0 (w32.heap[gb209]? = some (.cells #[.bool false, .slice none 0 0] 24 (0, 0))) := ⟨h3_⟩
                                have n4_ : Aside0 (w.heap.size ≤ gb209) := ⟨h4_⟩
                                have n5_ : Aside0 (w.heap.size ≤ gb209) := ⟨h5_⟩
                                have n6_ : Aside0 (gb202 ≠ gb209) := ⟨h6_⟩
                                have n7_ : Aside0 (gb209 ≠ gb202) := ⟨h7_⟩
                                have n8_ : Aside0 (Below w.heap.size w w32) := ⟨h8_⟩
                                clear HO_203001
                                clear BK202
                                clear HB
                                clear h0_ h1_ h2_ h3_ h4_ h5_ h6_ h7_ h8_
                                have HO208 := n0_
                                have HO_203001 := n1_
                                have BK202 := n2_
                                have BK209 := n3_
                                have GW209 := n4_
                                have GE209 := n5_
                                have NB202_209 := n6_
                                have NB209_202 := n7_
                                have HB := n8_
                                clear n0_ n1_ n2_ n3_ n4_ n5_ n6_ n7_ n8_
                                have hHeld : w32.cell? ⟨gb202, 0, none⟩ = some (.bool x203000_4) ∧ w32.cell? ⟨gb202, 1, none⟩ = some (.slice Ao28 x203001_4.length co28) ∧ w32.cell? (ad204.add ((x10_4).toNat * 2)) = some (.bool ((rd_T24 l1 x10_4).f0)) ∧ w32.cell? ⟨(ad204.add ((x10_4).toNat * 2)).block, (ad204.add ((x10_4).toNat * 2)).off + 1, none⟩ = some (.slice A204_1 ((rd_T24 l1 x10_4).f1).length c204_1) := hS_
                                obtain ⟨Ao34, co34, eo34⟩ := Kd.R_slice HO208.out
                                (first | subst eo34 | (injection eo34 with f1_ f2_ f3_; have f4_ := f1_.symm; have f5_ := f3_.symm; clear f1_ f2_ f3_; subst f4_; subst f5_))
                                refine norm_ (a' := ?_) ?_ ?_
                                rotate_left
                                · simp only [putAll, Act.put, List.setIfInBounds_toArray, List.set_cons_zero, List.set_cons_succ]
                                  rfl
                                refine one_ (i := 8) (N := none) #[true, true, true, true, true, true, true, true, true] rfl rfl (one_of HT_.out (by kernel_rfl)) (by decide) (fun K hK => ?_)
                                have hs33 : w32.cell? ⟨gb209, 0, none⟩ = some (.bool false) := (blk_cell BK209.out 0).trans rfl
                                have hfs33 := blk_frozen BK209.out 0
                                have hns33_0 := NB202_209.out
                                have hms33_0 := NB209_202.out
                                have hs35 : w32.cell? ⟨gb209, 1, none⟩ = some (.slice none 0 0) := (blk_cell BK209.out 1).trans rfl
                                have hfs35 := blk_frozen BK209.out 1
                                have hns35_0 := NB202_209.out
                                have hms35_0 := NB209_202.out
                                refine skip_ (w1 := ?_) (by rfl) rfl ?_ ?_
                                rotate_left
                                · go_simp
                                  rfl
                                refine hK.out _ _ ⟨((cell_far (p := ⟨gb209, _, none⟩) NB202_209.out _).trans (((cell_far (p := ⟨gb209, _, none⟩) NB202_209.out _).trans (hHeld.1)))), ((cell_far (p := ⟨gb209, _, none⟩) NB202_209.out _).trans (((cell_far (p := ⟨gb209, _, none⟩) NB202_209.out _).trans (hHeld.2.1)))), ((cell_far (p := ⟨gb209, _, none⟩) (by first | exact Nat.ne_of_lt (Nat.lt_of_lt_of_le (by have := World.block_lt_of_cell? _ _ hw204_0; first | rwa [add_block] at this | exact this) GW209.out) | (rw [add_block]; exact Nat.ne_of_lt (Nat.lt_of_lt_of_le (by have := World.block_lt_of_cell? _ _ hw204_0; first | rwa [add_block] at this | exact this) GW209.out)) | (show (Addr.add _ _).block ≠ _; rw [add_block]; exact Nat.ne_of_lt (Nat.lt_of_lt_of_le (by have := World.block_lt_of_cell? _ _ hw204_0; first | rwa [add_block] at this | exact this) GW209.out)) | (dsimp only; exact Nat.ne_of_lt (Nat.lt_of_lt_of_le (by have := World.block_lt_of_cell? _ _ hw204_0; first | rwa [add_block] at this | exact this) GW209.out))) _).trans (((cell_far (p := ⟨gb209, _, none⟩) (by first | exact Nat.ne_of_lt (Nat.lt_of_lt_of_le (by have := World.block_lt_of_cell? _ _ hw204_0; first | rwa [add_block] at this | exact this) GW209.out) | (rw [add_block]; exact Nat.ne_of_lt (Nat.lt_of_lt_of_le (by have := World.block_lt_of_cell? _ _ hw204_0; first | rwa [add_block] at this | exact this) GW209.out)) | (show (Addr.add _ _).block ≠ _; rw [add_block]; exact Nat.ne_of_lt (Nat.lt_of_lt_of_le (by have := World.block_lt_of_cell? _ _ hw204_0; first | rwa [add_block] at this | exact this) GW209.out)) | (dsimp only; exact Nat.ne_of_lt (Nat.lt_of_lt_of_le (by have := World.block_lt_of_cell? _ _ hw204_0; first | rwa [add_block] at this | exact this) GW209.out))) _).trans (hHeld.2.2.1)))), ((cell_far (p := ⟨gb209, _, none⟩) (by first | exact Nat.ne_of_lt (Nat.lt_of_lt_of_le (by have := World.block_lt_of_cell? _ _ hw204_1; first | rwa [add_block] at this | exact this) GW209.out) | (rw [add_block]; exact Nat.ne_of_lt (Nat.lt_of_lt_of_le (by have := World.block_lt_of_cell? _ _ hw204_1; first | rwa [add_block] at this | exact this) GW209.out)) | (show (Addr.add _ _).block ≠ _; rw [add_block]; exact Nat.ne_of_lt (Nat.lt_of_lt_of_le (by have := World.block_lt_of_cell? _ _ hw204_1; first | rwa [add_block] at this | exact this) GW209.out)) | (dsimp only; exact Nat.ne_of_lt (Nat.lt_of_lt_of_le (by have := World.block_lt_of_cell? _ _ hw204_1; first | rwa [add_block] at this | exact this) GW209.out))) _).trans (((cell_far (p := ⟨gb209, _, none⟩) (by first | exact Nat.ne_of_lt (Nat.lt_of_lt_of_le (by have := World.block_lt_of_cell? _ _ hw204_1; first | rwa [add_block] at this | exact this) GW209.out) | (rw [add_block]; exact Nat.ne_of_lt (Nat.lt_of_lt_of_le (by have := World.block_lt_of_cell? _ _ hw204_1; first | rwa [add_block] at this | exact this) GW209.out)) | (show (Addr.add _ _).block ≠ _; rw [add_block]; exact Nat.ne_of_lt (Nat.lt_of_lt_of_le (by have := World.block_lt_of_cell? _ _ hw204_1; first | rwa [add_block] at this | exact this) GW209.out)) | (dsimp only; exact Nat.ne_of_lt (Nat.lt_of_lt_of_le (by have := World.block_lt_of_cell? _ _ hw204_1; first | rwa [add_block] at this | exact this) GW209.out))) _).trans (hHeld.2.2.2))))⟩ (fun hHeld => ?_)
                                clear hK K
                                refine done_ (done_of HT_.out (by kernel_rfl)) ?_
                                go_upto_region 23 with (fail)
                                go_cut [78] (fun v78 wc => ∃ (kq : Nat) (x78_26 : Bool), v78 = .bool x78_26 ∧ Aside0 (lorgnettelaw20_LatticeRises.j4 kq a0 l1 x5_2 x9_4 x10_4 x78_26 x203000_4 x203001_4 t205 t206 = some r) ∧ Aside0 (kq ≤ k4) ∧ Aside0 (Kd.R (Kd.int .i64) 3 wc w.heap.size (fun k_ => some k_ ≠ ((.slice Ao34 t206.length co34) : Value).ownBlock) (.slice Ao28 x203001_4.length co28) x203001_4) ∧ Aside0 (Kd.R (Kd.int .i64) 3 wc w.heap.size (fun k_ => some k_ ≠ ((.slice Ao28 x203001_4.length co28) : Value).ownBlock) (.slice Ao34 t206.length co34) t206) ∧ Aside0 (wc.heap[gb202]? = some (.cells #[.bool x203000_4, (.slice Ao28 x203001_4.length co28)] 24 (0, 0))) ∧ Aside0 (wc.heap[gb209]? = some (.cells #[.bool t205, (.slice Ao34 t206.length co34)] 24 (0, 0))) ∧ Aside0 (Below w.heap.size w wc))
                                case first =>
                                  have H := HC27.out
                                  clear HC27
                                  replace H := Option.bind_eq_some_iff.mp H
                                  obtain ⟨t210, A360, H⟩ := H
                                  replace H : (if t210 = true then ((lattice_Good.f k4 a0 x5_2 t205 t206).bind fun t211 => (lorgnettelaw20_LatticeRises.j4 k4 a0 l1 x5_2 x9_4 x10_4 (!t211) x203000_4 x203001_4 t205 t206)) else (lorgnettelaw20_LatticeRises.j4 k4 a0 l1 x5_2 x9_4 x10_4 true x203000_4 x203001_4 t205 t206)) = some r := H
                                  have A36 := Aside0.mk A360
                                  clear A360
                                  by_cases c37 : t210 = true
                                  · subst c37
                                    have H1 : ((lattice_Good.f k4 a0 x5_2 t205 t206).bind fun t211 => (lorgnettelaw20_LatticeRises.j4 k4 a0 l1 x5_2 x9_4 x10_4 (!t211) x203000_4 x203001_4 t205 t206)) = some r := by rw [if_pos rfl] at H; exact H
                                    clear H
                                    have H := H1
                                    clear H1
                                    replace H := Option.bind_eq_some_iff.mp H
                                    obtain ⟨t211, A380, H⟩ := H
                                    replace H : (lorgnettelaw20_LatticeRises.j4 k4 a0 l1 x5_2 x9_4 x10_4 (!t211) x203000_4 x203001_4 t205 t206) = some r := H
                                    have A38 := Aside0.mk A380
                                    clear A380
                                    have H' := Aside0.mk H
                                    clear H
                                    have hnb39 := NB202_209.out
                                    have hnc39 := NB209_202.out
                                    have hcz40_0 : w32.cell? ⟨gb202, 0, none⟩ = some (.bool x203000_4) := (blk_cell BK202.out 0).trans rfl
                                    have hcz40_1 : w32.cell? ⟨gb202, 1, none⟩ = some (.slice Ao28 x203001_4.length co28) := (blk_cell BK202.out 1).trans rfl
                                    have hfz40_0 := blk_frozen BK202.out 0
                                    have hfz40_1 := blk_frozen BK202.out 1
                                    have hcz41_0 : w32.cell? ⟨gb209, 0, none⟩ = some (.bool false) := (blk_cell BK209.out 0).trans rfl
                                    have hcz41_1 : w32.cell? ⟨gb209, 1, none⟩ = some (.slice none 0 0) := (blk_cell BK209.out 1).trans rfl
                                    have hfz41_0 := blk_frozen BK209.out 0
                                    have hfz41_1 := blk_frozen BK209.out 1
                                    go_wp2_with (first | ((with_reducible refine gate_callee (f := 17) rfl ?_); refine goesL_ (some 70) rfl rfl Try.func17 (by kernel_rfl) rfl #[.int .i64 a0, .agg #[.bool x203000_4, .slice Ao28 x203001_4.length co28], .agg #[.bool t205, .slice Ao34 t206.length co34]] rfl (by (try simp only [List.map_toArray, List.map_cons, List.map_nil]); first | done | rfl | (simp only [List.length_drop, List.length_take]; rfl)) ?_; (with_reducible refine (lattice_Below.calls k4 a0 x203000_4 _ _ x203001_4 t205 _ _ t206 true _ ?side1 ?side2 ?side3 ?side4 A36.out).mono ?_); (case side1 => refine (Kd.R_reads' (e := 3) (base := w.heap.size) (ok := fun k_ => some k_ ≠ (.slice Ao34 t206.length co34 : Value).ownBlock) (n := x203001_4.length) (c := co28) ?_).2.2; exact (by (with_reducible repeat (first | apply Kd.R_alloc | apply Kd.R_drewN | apply Kd.R_drew)); exact (Kd.R_mono (Kd.R_far (p := ⟨gb209, 1, none⟩) (Kd.R_far (p := ⟨gb209, 0, none⟩) (Kd.R_types HO_203001.out BK209.out (by decide)) (fun _ hk => hk.2) (.bool t205)) (fun _ hk => hk.2) (.slice Ao34 t206.length co34)) (fun _ h_ => h_.1)))); (case side2 => exact (Kd.R_reads' HO_203001.out).2.1); (case side3 => refine (Kd.R_reads' (e := 3) (base := w.heap.size) (ok := fun k_ => some k_ ≠ (.slice Ao28 x203001_4.length co28 : Value).ownBlock) (n := t206.length) (c := co34) ?_).2.2; exact (by (with_reducible repeat (first | apply Kd.R_alloc | apply Kd.R_drewN | apply Kd.R_drew)); exact (Kd.R_mono (Kd.R_far (p := ⟨gb209, 1, none⟩) (Kd.R_far (p := ⟨gb209, 0, none⟩) (Kd.R_types HO208.out BK209.out (by decide)) (fun _ hk => hk.2) (.bool t205)) (fun _ hk => hk.2) (.slice Ao34 t206.length co34)) (fun _ h_ => h_.1)))); (case side4 => exact (Kd.R_reads' HO208.out).2.1); rintro e w42 ⟨rfl, hb⟩; refine ⟨_, rfl, ?_⟩; have n0_ := Aside0.mk (Kd.R_below (by (with_reducible repeat (first | apply Kd.R_alloc | apply Kd.R_drewN | apply Kd.R_drew)); exact (Kd.R_mono (Kd.R_far (p := ⟨gb209, 1, none⟩) (Kd.R_far (p := ⟨gb209, 0, none⟩) (Kd.R_types HO_203001.out BK209.out (by decide)) (fun _ hk => hk.2) (.bool t205)) (fun _ hk => hk.2) (.slice Ao34 t206.length co34)) (fun _ h_ => h_.1))) hb); have n1_ := Aside0.mk (Kd.R_below (by (with_reducible repeat (first | apply Kd.R_alloc | apply Kd.R_drewN | apply Kd.R_drew)); exact (Kd.R_mono (Kd.R_far (p := ⟨gb209, 1, none⟩) (Kd.R_far (p := ⟨gb209, 0, none⟩) (Kd.R_types HO208.out BK209.out (by decide)) (fun _ hk => hk.2) (.bool t205)) (fun _ hk => hk.2) (.slice Ao34 t206.length co34)) (fun _ h_ => h_.1))) hb); have n2_ := Aside0.mk (blk_below (g := gb202) (o := .cells #[.bool x203000_4, .slice Ao28 x203001_4.length co28] 24 (0, 0)) (by (with_reducible repeat (first | refine blk_drewN ?_ _ | refine blk_drew ?_ | refine blk_alloc ?_ _)); refine blk_far ?_ NB202_209.out _; (with_reducible repeat (first | refine blk_drewN ?_ _ | refine blk_drew ?_ | refine blk_alloc ?_ _)); refine blk_far ?_ NB202_209.out _; (with_reducible repeat (first | refine blk_drewN ?_ _ | refine blk_drew ?_ | refine blk_alloc ?_ _)); exact BK202.out) hb); have n3_ := Aside0.mk (blk_below (g := gb209) (o := .cells #[.bool t205, .slice Ao34 t206.length co34] 24 (0, 0)) (by (with_reducible repeat (first | refine blk_drewN ?_ _ | refine blk_drew ?_ | refine blk_alloc ?_ _)); refine blk_put (cs := #[.bool t205, .slice none 0 0]) ?_ 1 _ rfl; (with_reducible repeat (first | refine blk_drewN ?_ _ | refine blk_drew ?_ | refine blk_alloc ?_ _)); refine blk_put (cs := #[.bool false, .slice none 0 0]) ?_ 0 _ rfl; (with_reducible repeat (first | refine blk_drewN ?_ _ | refine blk_drew ?_ | refine blk_alloc ?_ _)); exact BK209.out) hb); have n4_ := Aside0.mk (below_step (by repeat (first | (with_reducible first | exact HB.out | apply below_alloc | apply pw_below_drewN | apply below_drew1 | refine below_set ?_ GE202.out | refine below_set ?_ GE209.out) | exact HB.out)) hb); clear HO_203001; clear HO208; clear BK202; clear BK209; clear HB; have HO_203001 := n0_; have HO208 := n1_; have BK202 := n2_; have BK209 := n3_; have HB := n4_; clear n0_ n1_ n2_ n3_ n4_; (try clear hb); (try clear hb2); (try clear hk); (try clear hi); have hcz43_0 : w42.cell? ⟨gb209, 0, none⟩ = some (.bool t205) := (blk_cell BK209.out 0).trans rfl; have hcz43_1 : w42.cell? ⟨gb209, 1, none⟩ = some (.slice Ao34 t206.length co34) := (blk_cell BK209.out 1).trans rfl; have hfz43_0 := blk_frozen BK209.out 0; have hfz43_1 := blk_frozen BK209.out 1) | (go_at_call 13; (with_reducible refine (lattice_Good.calls k4 a0 x5_2 t205 _ _ t206 t211 _ ?side1 ?side2 A38.out).mono ?_); (case side1 => repeat (first | exact (Kd.R_reads' HO208.out).2.2 | (with_reducible refine Kd.C_alloc ?_ _) | (with_reducible refine Kd.C_drewN ?_ _) | (with_reducible refine Kd.C_drew ?_))); (case side2 => exact (Kd.R_reads' HO208.out).2.1); rintro e w44 ⟨rfl, hb⟩; have n0_ := Aside0.mk (Kd.R_below (by (with_reducible repeat (first | apply Kd.R_alloc | apply Kd.R_drewN | apply Kd.R_drew)); exact HO_203001.out) hb); have n1_ := Aside0.mk (Kd.R_below (by (with_reducible repeat (first | apply Kd.R_alloc | apply Kd.R_drewN | apply Kd.R_drew)); exact HO208.out) hb); have n2_ := Aside0.mk (blk_below (g := gb202) (o := .cells #[.bool x203000_4, .slice Ao28 x203001_4.length co28] 24 (0, 0)) (by (with_reducible repeat (first | refine blk_drewN ?_ _ | refine blk_drew ?_ | refine blk_alloc ?_ _)); exact BK202.out) hb); have n3_ := Aside0.mk (blk_below (g := gb209) (o := .cells #[.bool t205, .slice Ao34 t206.length co34] 24 (0, 0)) (by (with_reducible repeat (first | refine blk_drewN ?_ _ | refine blk_drew ?_ | refine blk_alloc ?_ _)); exact BK209.out) hb); have n4_ := Aside0.mk (below_step (by repeat (first | (with_reducible first | exact HB.out | apply below_alloc | apply pw_below_drewN | apply below_drew1 | refine below_set ?_ GE202.out | refine below_set ?_ GE209.out) | exact HB.out)) hb); clear HO_203001; clear HO208; clear BK202; clear BK209; clear HB; have HO_203001 := n0_; have HO208 := n1_; have BK202 := n2_; have BK209 := n3_; have HB := n4_; clear n0_ n1_ n2_ n3_ n4_; (try clear hb); (try clear hb2); (try clear hk); (try clear hi)))
                                    go_meet
                                    case rel => exact ⟨_, (!t211), (by first | rfl | (simp; done) | (simp [*]; done)), H', ⟨by have := HJ4.out; have := HK2.out; have := HK3.out; have := HK4.out; first | omega | exact Nat.le_refl _⟩, ⟨by (with_reducible repeat (first | apply Kd.R_alloc | apply Kd.R_drewN | apply Kd.R_drew)); exact HO_203001.out⟩, ⟨by (with_reducible repeat (first | apply Kd.R_alloc | apply Kd.R_drewN | apply Kd.R_drew)); exact HO208.out⟩, ⟨by (with_reducible repeat (first | refine blk_drewN ?_ _ | refine blk_drew ?_ | refine blk_alloc ?_ _)); exact BK202.out⟩, ⟨by (with_reducible repeat (first | refine blk_drewN ?_ _ | refine blk_drew ?_ | refine blk_alloc ?_ _)); exact BK209.out⟩, ⟨by repeat (first | (with_reducible first | exact HB.out | apply below_alloc | apply pw_below_drewN | apply below_drew1 | refine below_set ?_ GE202.out | refine below_set ?_ GE209.out) | exact HB.out)⟩⟩
                                  · replace c37 := Bool.eq_false_iff.mpr c37
                                    subst c37
                                    have H1 : (lorgnettelaw20_LatticeRises.j4 k4 a0 l1 x5_2 x9_4 x10_4 true x203000_4 x203001_4 t205 t206) = some r := by rw [if_neg (show ¬ (false = true) by decide)] at H; exact H
                                    clear H
                                    have H := H1
                                    clear H1
                                    have H' := Aside0.mk H
                                    clear H
                                    have hnb45 := NB202_209.out
                                    have hnc45 := NB209_202.out
                                    have hcz46_0 : w32.cell? ⟨gb202, 0, none⟩ = some (.bool x203000_4) := (blk_cell BK202.out 0).trans rfl
                                    have hcz46_1 : w32.cell? ⟨gb202, 1, none⟩ = some (.slice Ao28 x203001_4.length co28) := (blk_cell BK202.out 1).trans rfl
                                    have hfz46_0 := blk_frozen BK202.out 0
                                    have hfz46_1 := blk_frozen BK202.out 1
                                    have hcz47_0 : w32.cell? ⟨gb209, 0, none⟩ = some (.bool false) := (blk_cell BK209.out 0).trans rfl
                                    have hcz47_1 : w32.cell? ⟨gb209, 1, none⟩ = some (.slice none 0 0) := (blk_cell BK209.out 1).trans rfl
                                    have hfz47_0 := blk_frozen BK209.out 0
                                    have hfz47_1 := blk_frozen BK209.out 1
                                    go_wp2_with (first | ((with_reducible refine gate_callee (f := 17) rfl ?_); refine goesL_ (some 70) rfl rfl Try.func17 (by kernel_rfl) rfl #[.int .i64 a0, .agg #[.bool x203000_4, .slice Ao28 x203001_4.length co28], .agg #[.bool t205, .slice Ao34 t206.length co34]] rfl (by (try simp only [List.map_toArray, List.map_cons, List.map_nil]); first | done | rfl | (simp only [List.length_drop, List.length_take]; rfl)) ?_; (with_reducible refine (lattice_Below.calls k4 a0 x203000_4 _ _ x203001_4 t205 _ _ t206 false _ ?side1 ?side2 ?side3 ?side4 A36.out).mono ?_); (case side1 => refine (Kd.R_reads' (e := 3) (base := w.heap.size) (ok := fun k_ => some k_ ≠ (.slice Ao34 t206.length co34 : Value).ownBlock) (n := x203001_4.length) (c := co28) ?_).2.2; exact (by (with_reducible repeat (first | apply Kd.R_alloc | apply Kd.R_drewN | apply Kd.R_drew)); exact (Kd.R_mono (Kd.R_far (p := ⟨gb209, 1, none⟩) (Kd.R_far (p := ⟨gb209, 0, none⟩) (Kd.R_types HO_203001.out BK209.out (by decide)) (fun _ hk => hk.2) (.bool t205)) (fun _ hk => hk.2) (.slice Ao34 t206.length co34)) (fun _ h_ => h_.1)))); (case side2 => exact (Kd.R_reads' HO_203001.out).2.1); (case side3 => refine (Kd.R_reads' (e := 3) (base := w.heap.size) (ok := fun k_ => some k_ ≠ (.slice Ao28 x203001_4.length co28 : Value).ownBlock) (n := t206.length) (c := co34) ?_).2.2; exact (by (with_reducible repeat (first | apply Kd.R_alloc | apply Kd.R_drewN | apply Kd.R_drew)); exact (Kd.R_mono (Kd.R_far (p := ⟨gb209, 1, none⟩) (Kd.R_far (p := ⟨gb209, 0, none⟩) (Kd.R_types HO208.out BK209.out (by decide)) (fun _ hk => hk.2) (.bool t205)) (fun _ hk => hk.2) (.slice Ao34 t206.length co34)) (fun _ h_ => h_.1)))); (case side4 => exact (Kd.R_reads' HO208.out).2.1); rintro e w48 ⟨rfl, hb⟩; refine ⟨_, rfl, ?_⟩; have n0_ := Aside0.mk (Kd.R_below (by (with_reducible repeat (first | apply Kd.R_alloc | apply Kd.R_drewN | apply Kd.R_drew)); exact (Kd.R_mono (Kd.R_far (p := ⟨gb209, 1, none⟩) (Kd.R_far (p := ⟨gb209, 0, none⟩) (Kd.R_types HO_203001.out BK209.out (by decide)) (fun _ hk => hk.2) (.bool t205)) (fun _ hk => hk.2) (.slice Ao34 t206.length co34)) (fun _ h_ => h_.1))) hb); have n1_ := Aside0.mk (Kd.R_below (by (with_reducible repeat (first | apply Kd.R_alloc | apply Kd.R_drewN | apply Kd.R_drew)); exact (Kd.R_mono (Kd.R_far (p := ⟨gb209, 1, none⟩) (Kd.R_far (p := ⟨gb209, 0, none⟩) (Kd.R_types HO208.out BK209.out (by decide)) (fun _ hk => hk.2) (.bool t205)) (fun _ hk => hk.2) (.slice Ao34 t206.length co34)) (fun _ h_ => h_.1))) hb); have n2_ := Aside0.mk (blk_below (g := gb202) (o := .cells #[.bool x203000_4, .slice Ao28 x203001_4.length co28] 24 (0, 0)) (by (with_reducible repeat (first | refine blk_drewN ?_ _ | refine blk_drew ?_ | refine blk_alloc ?_ _)); refine blk_far ?_ NB202_209.out _; (with_reducible repeat (first | refine blk_drewN ?_ _ | refine blk_drew ?_ | refine blk_alloc ?_ _)); refine blk_far ?_ NB202_209.out _; (with_reducible repeat (first | refine blk_drewN ?_ _ | refine blk_drew ?_ | refine blk_alloc ?_ _)); exact BK202.out) hb); have n3_ := Aside0.mk (blk_below (g := gb209) (o := .cells #[.bool t205, .slice Ao34 t206.length co34] 24 (0, 0)) (by (with_reducible repeat (first | refine blk_drewN ?_ _ | refine blk_drew ?_ | refine blk_alloc ?_ _)); refine blk_put (cs := #[.bool t205, .slice none 0 0]) ?_ 1 _ rfl; (with_reducible repeat (first | refine blk_drewN ?_ _ | refine blk_drew ?_ | refine blk_alloc ?_ _)); refine blk_put (cs := #[.bool false, .slice none 0 0]) ?_ 0 _ rfl; (with_reducible repeat (first | refine blk_drewN ?_ _ | refine blk_drew ?_ | refine blk_alloc ?_ _)); exact BK209.out) hb); have n4_ := Aside0.mk (below_step (by repeat (first | (with_reducible first | exact HB.out | apply below_alloc | apply pw_below_drewN | apply below_drew1 | refine below_set ?_ GE202.out | refine below_set ?_ GE209.out) | exact HB.out)) hb); clear HO_203001; clear HO208; clear BK202; clear BK209; clear HB; have HO_203001 := n0_; have HO208 := n1_; have BK202 := n2_; have BK209 := n3_; have HB := n4_; clear n0_ n1_ n2_ n3_ n4_; (try clear hb); (try clear hb2); (try clear hk); (try clear hi)))
                                    go_meet
                                    case rel => exact ⟨_, (true), (by first | rfl | (simp; done) | (simp [*]; done)), H', ⟨by have := HJ4.out; have := HK2.out; have := HK3.out; have := HK4.out; first | omega | exact Nat.le_refl _⟩, ⟨by (with_reducible repeat (first | apply Kd.R_alloc | apply Kd.R_drewN | apply Kd.R_drew)); exact HO_203001.out⟩, ⟨by (with_reducible repeat (first | apply Kd.R_alloc | apply Kd.R_drewN | apply Kd.R_drew)); exact HO208.out⟩, ⟨by (with_reducible repeat (first | refine blk_drewN ?_ _ | refine blk_drew ?_ | refine blk_alloc ?_ _)); exact BK202.out⟩, ⟨by (with_reducible repeat (first | refine blk_drewN ?_ _ | refine blk_drew ?_ | refine blk_alloc ?_ _)); exact BK209.out⟩, ⟨by repeat (first | (with_reducible first | exact HB.out | apply below_alloc | apply pw_below_drewN | apply below_drew1 | refine below_set ?_ GE202.out | refine below_set ?_ GE209.out) | exact HB.out)⟩⟩
                                case rest =>
                                  clear HC27
                                  try clear c1
                                  try clear p1
                                  try clear q1
                                  try clear hx1
                                  try clear c2
                                  try clear p2
                                  try clear q2
                                  try clear hx2
                                  try clear c3
                                  try clear c4
                                  try clear p6
                                  try clear c7
                                  try clear c7b0
                                  try clear c7b1
                                  try clear c8
                                  try clear c9
                                  try clear c9b0
                                  try clear c10
                                  try clear c10b0
                                  try clear c12
                                  try clear c12b0
                                  try clear c13
                                  try clear c13b0
                                  try clear c14
                                  try clear c14b0
                                  try clear c16
                                  try clear c17
                                  try clear c18
                                  try clear c19
                                  try clear p19
                                  try clear q19
                                  try clear hx19
                                  try clear c20
                                  try clear p20
                                  try clear q20
                                  try clear hx20
                                  try clear c24
                                  try clear c24b0
                                  try clear c25
                                  try clear c25b0
                                  try clear c37
                                  try clear c39
                                  try clear c45
                                  try clear hcz22_0
                                  try clear hcz22_1
                                  try clear hcz40_0
                                  try clear hcz40_1
                                  try clear hcz41_0
                                  try clear hcz41_1
                                  try clear hcz43_0
                                  try clear hcz43_1
                                  try clear hcz46_0
                                  try clear hcz46_1
                                  try clear hcz47_0
                                  try clear hcz47_1
                                  try clear hfz22_0
                                  try clear hfz22_1
                                  try clear hfz40_0
                                  try clear hfz40_1
                                  try clear hfz41_0
                                  try clear hfz41_1
                                  try clear hfz43_0
                                  try clear hfz43_1
                                  try clear hfz46_0
                                  try clear hfz46_1
                                  try clear hfz47_0
                                  try clear hfz47_1
                                  try clear hx195_0
                                  try clear hx195_1
                                  try clear hx196_0
                                  try clear hx196_1
                                  try clear hx204_0
                                  try clear hx204_1
                                  try clear p1
                                  try clear p19
                                  try clear p195
                                  try clear p196
                                  try clear p2
                                  try clear p204
                                  try clear p6
                                  try clear q1
                                  try clear q19
                                  try clear q195
                                  try clear q196
                                  try clear q204
                                  obtain ⟨kq, x78_26, rfl, HA, HJ26, HO_203001, HO_210001, BK202, BK209, HB⟩ := hcut
                                  cases kq with
                                  | zero => exact absurd HA.out (by simp [lorgnettelaw20_LatticeRises.j4])
                                  | succ kj26 =>
                                    have H := HA.out
                                    clear HA
                                    simp only [lorgnettelaw20_LatticeRises.j4] at H
                                    by_cases c49 : x78_26 = true
                                    · subst c49
                                      have H1 : (some false) = some r := by rw [if_pos rfl] at H; exact H
                                      clear H
                                      have H := H1
                                      clear H1
                                      obtain rfl := Option.some.inj H
                                      go_wp2
                                      go_ret
                                      exact ⟨by first | rfl | (simp [errW_none, errW_some] <;> rfl) | (simp [*, errW_none, errW_some] <;> rfl), by repeat (first | (with_reducible first | exact HB.out | apply below_alloc | apply pw_below_drewN | apply below_drew1 | refine below_set ?_ GE202.out | refine below_set ?_ GE209.out) | exact HB.out)⟩
                                    · replace c49 := Bool.eq_false_iff.mpr c49
                                      subst c49
                                      have H1 : ((lattice_Same.f kj26 x203000_4 x203001_4 t205 t206).bind fun t212 => (if t212 = true then (lorgnettelaw20_LatticeRises.l2 kj26 a0 l1 x5_2 x9_4 (wrap64 (x10_4 + 1)) t205 t206) else (lorgnettelaw20_LatticeRises.l2 kj26 a0 l1 x5_2 (wrap64 (x9_4 + 1)) (wrap64 (x10_4 + 1)) t205 t206))) = some r := by rw [if_neg (show ¬ (false = true) by decide)] at H; exact H
                                      clear H
                                      have H := H1
                                      clear H1
                                      replace H := Option.bind_eq_some_iff.mp H
                                      obtain ⟨t212, A500, H⟩ := H
                                      replace H : (if t212 = true then (lorgnettelaw20_LatticeRises.l2 kj26 a0 l1 x5_2 x9_4 (wrap64 (x10_4 + 1)) t205 t206) else (lorgnettelaw20_LatticeRises.l2 kj26 a0 l1 x5_2 (wrap64 (x9_4 + 1)) (wrap64 (x10_4 + 1)) t205 t206)) = some r := H
                                      have A50 := Aside0.mk A500
                                      clear A500
                                      by_cases c51 : t212 = true
                                      · subst c51
                                        have H1 : (lorgnettelaw20_LatticeRises.l2 kj26 a0 l1 x5_2 x9_4 (wrap64 (x10_4 + 1)) t205 t206) = some r := by rw [if_pos rfl] at H; exact H
                                        clear H
                                        have H := H1
                                        clear H1
                                        have H' := Aside0.mk H
                                        clear H
                                        have hnb52 := NB202_209.out
                                        have hnc52 := NB209_202.out
                                        have hcz53_0 : wc.cell? ⟨gb202, 0, none⟩ = some (.bool x203000_4) := (blk_cell BK202.out 0).trans rfl
                                        have hcz53_1 : wc.cell? ⟨gb202, 1, none⟩ = some (.slice Ao28 x203001_4.length co28) := (blk_cell BK202.out 1).trans rfl
                                        have hfz53_0 := blk_frozen BK202.out 0
                                        have hfz53_1 := blk_frozen BK202.out 1
                                        have hcz54_0 : wc.cell? ⟨gb209, 0, none⟩ = some (.bool t205) := (blk_cell BK209.out 0).trans rfl
                                        have hcz54_1 : wc.cell? ⟨gb209, 1, none⟩ = some (.slice Ao34 t206.length co34) := (blk_cell BK209.out 1).trans rfl
                                        have hfz54_0 := blk_frozen BK209.out 0
                                        have hfz54_1 := blk_frozen BK209.out 1
                                        go_wp2_with (first | ((with_reducible refine gate_callee (f := 15) rfl ?_); refine goesL_ (some 81) rfl rfl Try.func15 (by kernel_rfl) rfl #[.agg #[.bool x203000_4, .slice Ao28 x203001_4.length co28], .agg #[.bool t205, .slice Ao34 t206.length co34]] rfl (by (try simp only [List.map_toArray, List.map_cons, List.map_nil]); first | done | rfl | (simp only [List.length_drop, List.length_take]; rfl)) ?_; (with_reducible refine (lattice_Same.calls kj26 x203000_4 _ _ x203001_4 t205 _ _ t206 true _ ?side1 ?side2 ?side3 ?side4 A50.out).mono ?_); (case side1 => repeat (first | exact (Kd.R_reads' HO_203001.out).2.2 | (with_reducible refine Kd.C_alloc ?_ _) | (with_reducible refine Kd.C_drewN ?_ _) | (with_reducible refine Kd.C_drew ?_))); (case side2 => exact (Kd.R_reads' HO_203001.out).2.1); (case side3 => repeat (first | exact (Kd.R_reads' HO_210001.out).2.2 | (with_reducible refine Kd.C_alloc ?_ _) | (with_reducible refine Kd.C_drewN ?_ _) | (with_reducible refine Kd.C_drew ?_))); (case side4 => exact (Kd.R_reads' HO_210001.out).2.1); rintro e w55 ⟨rfl, hb⟩; refine ⟨_, rfl, ?_⟩; have n0_ := Aside0.mk (Kd.R_below (by (with_reducible repeat (first | apply Kd.R_alloc | apply Kd.R_drewN | apply Kd.R_drew)); exact HO_203001.out) hb); have n1_ := Aside0.mk (Kd.R_below (by (with_reducible repeat (first | apply Kd.R_alloc | apply Kd.R_drewN | apply Kd.R_drew)); exact HO_210001.out) hb); have n2_ := Aside0.mk (blk_below (g := gb202) (o := .cells #[.bool x203000_4, .slice Ao28 x203001_4.length co28] 24 (0, 0)) (by (with_reducible repeat (first | refine blk_drewN ?_ _ | refine blk_drew ?_ | refine blk_alloc ?_ _)); exact BK202.out) hb); have n3_ := Aside0.mk (blk_below (g := gb209) (o := .cells #[.bool t205, .slice Ao34 t206.length co34] 24 (0, 0)) (by (with_reducible repeat (first | refine blk_drewN ?_ _ | refine blk_drew ?_ | refine blk_alloc ?_ _)); exact BK209.out) hb); have n4_ := Aside0.mk (below_step (by repeat (first | (with_reducible first | exact HB.out | apply below_alloc | apply pw_below_drewN | apply below_drew1 | refine below_set ?_ GE202.out | refine below_set ?_ GE209.out) | exact HB.out)) hb); clear HO_203001; clear HO_210001; clear BK202; clear BK209; clear HB; have HO_203001 := n0_; have HO_210001 := n1_; have BK202 := n2_; have BK209 := n3_; have HB := n4_; clear n0_ n1_ n2_ n3_ n4_; (try clear hb); (try clear hb2); (try clear hk); (try clear hi); have hcz56_0 : w55.cell? ⟨gb209, 0, none⟩ = some (.bool t205) := (blk_cell BK209.out 0).trans rfl; have hcz56_1 : w55.cell? ⟨gb209, 1, none⟩ = some (.slice Ao34 t206.length co34) := (blk_cell BK209.out 1).trans rfl; have hfz56_0 := blk_frozen BK209.out 0; have hfz56_1 := blk_frozen BK209.out 1; have hcz57_0 : w55.cell? ⟨gb202, 0, none⟩ = some (.bool x203000_4) := (blk_cell BK202.out 0).trans rfl; have hcz57_1 : w55.cell? ⟨gb202, 1, none⟩ = some (.slice Ao28 x203001_4.length co28) := (blk_cell BK202.out 1).trans rfl; have hfz57_0 := blk_frozen BK202.out 0; have hfz57_1 := blk_frozen BK202.out 1))
                                        go_roundg kj26
                                        case measure => have := HJ4.out; have := HK2.out; have := HK3.out; have := HK4.out; have := HJ26.out; omega
                                        case rel => exact ⟨(x9_4), (wrap64 (x10_4 + 1)), (t205), (t206), (.slice Ao34 t206.length co34), (by first | rfl | (simp; done) | (simp [*]; done)), (by first | rfl | (simp; done) | (simp [*]; done)), H', ⟨by have := HJ4.out; have := HK2.out; have := HK3.out; have := HK4.out; have := HJ26.out; omega⟩, ⟨by (with_reducible repeat (first | apply Kd.R_alloc | apply Kd.R_drewN | apply Kd.R_drew)); exact Kd.R_mono (Kd.R_far (p := ⟨gb202, 1, none⟩) (Kd.R_far (p := ⟨gb202, 0, none⟩) (Kd.R_types HO_210001.out BK202.out (by decide)) (fun _ hk => hk.2) (.bool t205)) (fun _ hk => hk.2) (.slice Ao34 t206.length co34)) (fun _ hk => trivial)⟩, ⟨by (with_reducible repeat (first | refine blk_drewN ?_ _ | refine blk_drew ?_ | refine blk_alloc ?_ _)); refine blk_put (cs := #[.bool t205, .slice Ao28 x203001_4.length co28]) ?_ 1 _ rfl; (with_reducible repeat (first | refine blk_drewN ?_ _ | refine blk_drew ?_ | refine blk_alloc ?_ _)); refine blk_put (cs := #[.bool x203000_4, .slice Ao28 x203001_4.length co28]) ?_ 0 _ rfl; (with_reducible repeat (first | refine blk_drewN ?_ _ | refine blk_drew ?_ | refine blk_alloc ?_ _)); exact BK202.out⟩, ⟨by repeat (first | (with_reducible first | exact HB.out | apply below_alloc | apply pw_below_drewN | apply below_drew1 | refine below_set ?_ GE202.out | refine below_set ?_ GE209.out) | exact HB.out)⟩⟩
                                      · replace c51 := Bool.eq_false_iff.mpr c51
                                        subst c51
                                        have H1 : (lorgnettelaw20_LatticeRises.l2 kj26 a0 l1 x5_2 (wrap64 (x9_4 + 1)) (wrap64 (x10_4 + 1)) t205 t206) = some r := by rw [if_neg (show ¬ (false = true) by decide)] at H; exact H
                                        clear H
                                        have H := H1
                                        clear H1
                                        have H' := Aside0.mk H
                                        clear H
                                        have hnb58 := NB202_209.out
                                        have hnc58 := NB209_202.out
                                        have hcz59_0 : wc.cell? ⟨gb202, 0, none⟩ = some (.bool x203000_4) := (blk_cell BK202.out 0).trans rfl
                                        have hcz59_1 : wc.cell? ⟨gb202, 1, none⟩ = some (.slice Ao28 x203001_4.length co28) := (blk_cell BK202.out 1).trans rfl
                                        have hfz59_0 := blk_frozen BK202.out 0
                                        have hfz59_1 := blk_frozen BK202.out 1
                                        have hcz60_0 : wc.cell? ⟨gb209, 0, none⟩ = some (.bool t205) := (blk_cell BK209.out 0).trans rfl
                                        have hcz60_1 : wc.cell? ⟨gb209, 1, none⟩ = some (.slice Ao34 t206.length co34) := (blk_cell BK209.out 1).trans rfl
                                        have hfz60_0 := blk_frozen BK209.out 0
                                        have hfz60_1 := blk_frozen BK209.out 1
                                        go_wp2_with (first | ((with_reducible refine gate_callee (f := 15) rfl ?_); refine goesL_ (some 81) rfl rfl Try.func15 (by kernel_rfl) rfl #[.agg #[.bool x203000_4, .slice Ao28 x203001_4.length co28], .agg #[.bool t205, .slice Ao34 t206.length co34]] rfl (by (try simp only [List.map_toArray, List.map_cons, List.map_nil]); first | done | rfl | (simp only [List.length_drop, List.length_take]; rfl)) ?_; (with_reducible refine (lattice_Same.calls kj26 x203000_4 _ _ x203001_4 t205 _ _ t206 false _ ?side1 ?side2 ?side3 ?side4 A50.out).mono ?_); (case side1 => repeat (first | exact (Kd.R_reads' HO_203001.out).2.2 | (with_reducible refine Kd.C_alloc ?_ _) | (with_reducible refine Kd.C_drewN ?_ _) | (with_reducible refine Kd.C_drew ?_))); (case side2 => exact (Kd.R_reads' HO_203001.out).2.1); (case side3 => repeat (first | exact (Kd.R_reads' HO_210001.out).2.2 | (with_reducible refine Kd.C_alloc ?_ _) | (with_reducible refine Kd.C_drewN ?_ _) | (with_reducible refine Kd.C_drew ?_))); (case side4 => exact (Kd.R_reads' HO_210001.out).2.1); rintro e w61 ⟨rfl, hb⟩; refine ⟨_, rfl, ?_⟩; have n0_ := Aside0.mk (Kd.R_below (by (with_reducible repeat (first | apply Kd.R_alloc | apply Kd.R_drewN | apply Kd.R_drew)); exact HO_203001.out) hb); have n1_ := Aside0.mk (Kd.R_below (by (with_reducible repeat (first | apply Kd.R_alloc | apply Kd.R_drewN | apply Kd.R_drew)); exact HO_210001.out) hb); have n2_ := Aside0.mk (blk_below (g := gb202) (o := .cells #[.bool x203000_4, .slice Ao28 x203001_4.length co28] 24 (0, 0)) (by (with_reducible repeat (first | refine blk_drewN ?_ _ | refine blk_drew ?_ | refine blk_alloc ?_ _)); exact BK202.out) hb); have n3_ := Aside0.mk (blk_below (g := gb209) (o := .cells #[.bool t205, .slice Ao34 t206.length co34] 24 (0, 0)) (by (with_reducible repeat (first | refine blk_drewN ?_ _ | refine blk_drew ?_ | refine blk_alloc ?_ _)); exact BK209.out) hb); have n4_ := Aside0.mk (below_step (by repeat (first | (with_reducible first | exact HB.out | apply below_alloc | apply pw_below_drewN | apply below_drew1 | refine below_set ?_ GE202.out | refine below_set ?_ GE209.out) | exact HB.out)) hb); clear HO_203001; clear HO_210001; clear BK202; clear BK209; clear HB; have HO_203001 := n0_; have HO_210001 := n1_; have BK202 := n2_; have BK209 := n3_; have HB := n4_; clear n0_ n1_ n2_ n3_ n4_; (try clear hb); (try clear hb2); (try clear hk); (try clear hi); have hcz62_0 : w61.cell? ⟨gb209, 0, none⟩ = some (.bool t205) := (blk_cell BK209.out 0).trans rfl; have hcz62_1 : w61.cell? ⟨gb209, 1, none⟩ = some (.slice Ao34 t206.length co34) := (blk_cell BK209.out 1).trans rfl; have hfz62_0 := blk_frozen BK209.out 0; have hfz62_1 := blk_frozen BK209.out 1; have hcz63_0 : w61.cell? ⟨gb202, 0, none⟩ = some (.bool x203000_4) := (blk_cell BK202.out 0).trans rfl; have hcz63_1 : w61.cell? ⟨gb202, 1, none⟩ = some (.slice Ao28 x203001_4.length co28) := (blk_cell BK202.out 1).trans rfl; have hfz63_0 := blk_frozen BK202.out 0; have hfz63_1 := blk_frozen BK202.out 1))
                                        go_roundg kj26
                                        case measure => have := HJ4.out; have := HK2.out; have := HK3.out; have := HK4.out; have := HJ26.out; omega
                                        case rel => exact ⟨(wrap64 (x9_4 + 1)), (wrap64 (x10_4 + 1)), (t205), (t206), (.slice Ao34 t206.length co34), (by first | rfl | (simp; done) | (simp [*]; done)), (by first | rfl | (simp; done) | (simp [*]; done)), H', ⟨by have := HJ4.out; have := HK2.out; have := HK3.out; have := HK4.out; have := HJ26.out; omega⟩, ⟨by (with_reducible repeat (first | apply Kd.R_alloc | apply Kd.R_drewN | apply Kd.R_drew)); exact Kd.R_mono (Kd.R_far (p := ⟨gb202, 1, none⟩) (Kd.R_far (p := ⟨gb202, 0, none⟩) (Kd.R_types HO_210001.out BK202.out (by decide)) (fun _ hk => hk.2) (.bool t205)) (fun _ hk => hk.2) (.slice Ao34 t206.length co34)) (fun _ hk => trivial)⟩, ⟨by (with_reducible repeat (first | refine blk_drewN ?_ _ | refine blk_drew ?_ | refine blk_alloc ?_ _)); refine blk_put (cs := #[.bool t205, .slice Ao28 x203001_4.length co28]) ?_ 1 _ rfl; (with_reducible repeat (first | refine blk_drewN ?_ _ | refine blk_drew ?_ | refine blk_alloc ?_ _)); refine blk_put (cs := #[.bool x203000_4, .slice Ao28 x203001_4.length co28]) ?_ 0 _ rfl; (with_reducible repeat (first | refine blk_drewN ?_ _ | refine blk_drew ?_ | refine blk_alloc ?_ _)); exact BK202.out⟩, ⟨by repeat (first | (with_reducible first | exact HB.out | apply below_alloc | apply pw_below_drewN | apply below_drew1 | refine below_set ?_ GE202.out | refine below_set ?_ GE209.out) | exact HB.out)⟩⟩
                              · rw [if_neg c25] at H
                                exact absurd H (by simp)
                            · rw [if_neg c24] at H
                              have c24b0 : decide (x10_4 < (l1.length : Int)) = false := decide_eq_false c24
                              clear c24
                              replace H := Option.bind_eq_some_iff.mp H
                              obtain ⟨t203, A640, H⟩ := H
                              replace H : (some (decide (x9_4 ≤ t203))) = some r := H
                              have A64 := Aside0.mk A640
                              clear A640
                              obtain rfl := Option.some.inj H
                              go_wp2_with (first | ((with_reducible refine gate_callee (f := 19) rfl ?_); refine goesL_ (some 89) rfl rfl Try.func19 (by kernel_rfl) rfl #[.int .i64 a0, .int .i64 x5_2] rfl (by (try simp only [List.map_toArray, List.map_cons, List.map_nil]); first | done | rfl | (simp only [List.length_drop, List.length_take]; rfl)) ?_; (with_reducible refine (lattice_Height.calls k4 a0 x5_2 t203 _ A64.out).mono ?_); rintro e w65 ⟨rfl, hb⟩; refine ⟨_, rfl, ?_⟩; have n0_ := Aside0.mk (Kd.R_below (by (with_reducible repeat (first | apply Kd.R_alloc | apply Kd.R_drewN | apply Kd.R_drew)); exact HO_203001.out) hb); have n1_ := Aside0.mk (blk_below (g := gb202) (o := .cells #[.bool x203000_4, u203001] 24 (0, 0)) (by (with_reducible repeat (first | refine blk_drewN ?_ _ | refine blk_drew ?_ | refine blk_alloc ?_ _)); exact BK202.out) hb); have n2_ := Aside0.mk (below_step (by repeat (first | (with_reducible first | exact HB.out | apply below_alloc | apply pw_below_drewN | apply below_drew1 | refine below_set ?_ GE202.out) | exact HB.out)) hb); clear HO_203001; clear BK202; clear HB; have HO_203001 := n0_; have BK202 := n1_; have HB := n2_; clear n0_ n1_ n2_; (try clear hb); (try clear hb2); (try clear hk); (try clear hi)))
                              go_ret
                              exact ⟨by first | rfl | (simp [errW_none, errW_some] <;> rfl) | (simp [*, errW_none, errW_some] <;> rfl), by repeat (first | (with_reducible first | exact HB.out | apply below_alloc | apply pw_below_drewN | apply below_drew1 | refine below_set ?_ GE202.out) | exact HB.out)⟩
  · replace c4 := Bool.eq_false_iff.mpr c4
    subst c4
    have H1 : (some false) = some r := by rw [if_neg (show ¬ (false = true) by decide)] at H; exact H
    clear H
    have H := H1
    clear H1
    obtain rfl := Option.some.inj H
    go_enter Try.func4, Try.ntmps4
    go_wp2_with (first | ((with_reducible refine gate_callee (f := 12) rfl ?_); refine goesL_ (some 12) rfl rfl Try.func12 (by kernel_rfl) rfl #[] rfl (by (try simp only [List.map_toArray, List.map_cons, List.map_nil]); first | done | rfl | (simp only [List.length_drop, List.length_take]; rfl)) ?_; (with_reducible refine (lorgnettelaw20_awake.calls k  false _ A3.out).mono ?_); rintro e w66 ⟨rfl, hb⟩; refine ⟨_, rfl, ?_⟩; have n0_ := Aside0.mk (below_step (by repeat (first | (with_reducible first | exact HB.out | apply below_alloc | apply pw_below_drewN | apply below_drew1) | exact HB.out)) hb); clear HB; have HB := n0_; clear n0_; (try clear hb); (try clear hb2); (try clear hk); (try clear hi)))
    go_ret
    exact ⟨by first | rfl | (simp [errW_none, errW_some] <;> rfl) | (simp [*, errW_none, errW_some] <;> rfl), by repeat (first | (with_reducible first | exact HB.out | apply below_alloc | apply pw_below_drewN | apply below_drew1) | exact HB.out)⟩

end Go.Proofs.Ytikipnbdccbnfaa.GL
