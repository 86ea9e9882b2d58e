-- Walks: printed by a program (wip/tools) with the printer of the kit; contracts that it lacked are typed by hand.
import Derived.Test.YtikipnbdccbnfaaGL0
import Derived.Test.YtikipnbdccbnfaaGLmlatticeGood
import Derived.Test.YtikipnbdccbnfaaGL2
import Derived.Test.YtikipnbdccbnfaaGL3
namespace Go.Proofs.Ytikipnbdccbnfaa.GL
open Go.RowKit Go.Proofs.YtikipnbdccbnfaaW.PrintWords Go.Proofs.YtikipnbdccbnfaaW.PrintLast Go.Proofs.YtikipnbdccbnfaaW.PrintMore
attribute [local go_sem] max2_int min2_int max_two min_two max_three min_three max_four min_four   -- for this text's walks alone
set_option linter.unusedVariables false
set_option linter.unusedSimpArgs false

/-! ### lorgnettelaw20_awake (typed by hand) -/

def lorgnettelaw20_awake.f (_k : Nat)  : Option (Bool) := some true
theorem lorgnettelaw20_awake.mono : ∀ k, LeO (lorgnettelaw20_awake.f k ) (lorgnettelaw20_awake.f (k + 1) ) := fun _ => LeO.refl _
theorem bcell {W w1 : World} (hb : Below W.heap.size W w1) : (∀ b o, b < W.heap.size → w1.cell? ⟨b, o, none⟩ = W.cell? ⟨b, o, none⟩) ∧ (∀ b o, b < W.heap.size → w1.frozen? ⟨b, o, none⟩ = W.frozen? ⟨b, o, none⟩) :=
  ⟨fun b o h => hb.cell (p := ⟨b, o, none⟩) h, fun b o h => hb.frozen (p := ⟨b, o, none⟩) h⟩
theorem below_then {w w1 w2 : World} {B : Nat} (h : Below B w w1) (hB : B ≤ w1.heap.size) (k : Below w1.heap.size w1 w2) : Below B w w2 := h.trans (k.mono hB)
theorem int_lit {W : World} {g t : Nat} (l : List Int) (h : W.heap[g]? = some (.cells (l.map (Value.int .i64)).toArray t (0, 0))) (hl : l.length ≤ maxLen) : Kd.C (Kd.int .i64) W (some ⟨g, 0, none⟩) l.length l := by
  have hr : Kd.R (Kd.int .i64) t W 0 (fun _ => True) (.slice (some ⟨g, 0, none⟩) l.length l.length) l := by
    refine Kd.R_of_own (enc := Value.int .i64) (h1 := fun _ => rfl) ⟨by simp [encs], .inr ⟨g, l.length, (l.map (Value.int .i64)).toArray, rfl, Nat.zero_le _, h, Nat.le_refl _, hl, by simp, by simp [encs, List.take_of_length_le]⟩⟩ (fun _ _ => trivial)
  exact (Kd.R_reads' hr).2.2
theorem sz_alloc (W : World) (o : Obj) : (W.alloc o).heap.size = W.heap.size + 1 := by simp
theorem new_at {W : World} {o : Obj} {n : Nat} (hn : W.heap.size = n) : (W.alloc o).heap[n]? = some o := by subst hn; exact heap_alloc_new W o
theorem fd24 (b : Bool) (A : Option Addr) (n c : Nat) (W : World) : (Instr.field 24 (.agg #[.bool b, .slice A n c]) 0).run Try.prog W = .ok (.bool b) W := by kernel_rfl
set_option maxHeartbeats 8000000 in
set_option maxRecDepth 100000 in
theorem lorgnettelaw20_awake.calls (k : Nat)  (r : Bool) (w : World) (h : lorgnettelaw20_awake.f k  = some r) :
    Calls Try.prog 12 #[] w fun e w' => e = .returned (.bool r) ∧ Below w.heap.size w w' := by
  have hu24 := Try.underlying24
  obtain rfl := Option.some.inj h
  clear h
  have hfd := fd24
  go_enter Try.func12, Try.ntmps12
  go_wp2_with (go_at_call 14; refine Stand.stop ?_)
  refine Stand.go ?_
  refine (lattice_Join.calls 64 1 true _ _ [1, 0] true _ _ [2, 1] true [3, 1] _ (int_lit (t := 3) [1, 0] (blk_alloc (blk_alloc (blk_alloc (heap_alloc_new w _) _) _) _) (by simp [maxLen])) (Nat.le_refl 2) (int_lit (t := 3) [2, 1] (blk_alloc (new_at (by rw [sz_alloc, sz_alloc])) _) (by simp [maxLen])) (Nat.le_refl 2) (by kernel_rfl)).mono ?_
  rintro e w1 ⟨v1, rfl, hr1, hb1⟩
  obtain ⟨Aj, cj, rfl⟩ := Kd.R_slice hr1
  have HR1 := Aside0.mk (Kd.R_reads' hr1).2.2
  have HCJ : Aside0 (2 ≤ cj) := ⟨(Kd.R_reads' hr1).2.1⟩
  obtain ⟨jb, jo, rfl, hcj⟩ := row_int (Kd.R_reads' hr1).2.2 (by decide)
  have HCJ0 := Aside0.mk (hcj 0 (by decide))
  have HCJ1 := Aside0.mk (hcj 1 (by decide))
  have HL1 := Aside0.mk (int_lit (W := w1) (g := w.heap.size) (t := 3) [1, 0] ((hb1.block _ (by simp only [sz_alloc]; omega)).trans (blk_alloc (blk_alloc (blk_alloc (heap_alloc_new w _) _) _) _)) (by simp [maxLen]))
  have HB1 : Aside0 (Below w.heap.size w w1) := ⟨below_then ((((Below.refl _ _).alloc (Nat.le_refl _) _).alloc (by simp only [sz_alloc]; omega) _).alloc (by simp only [sz_alloc]; omega) _ |>.alloc (by simp only [sz_alloc]; omega) _) (by simp only [sz_alloc]; omega) hb1⟩
  have ya0 : w1.cell? ⟨w.heap.size + 1, 0, none⟩ = some (.bool true) := (hb1.cell (p := ⟨w.heap.size + 1, 0, none⟩) (by show w.heap.size + 1 < _; simp only [sz_alloc]; omega)).trans (blk_cell (blk_alloc (blk_alloc (new_at (by rw [sz_alloc])) _) _) 0)
  have ya1 : w1.cell? ⟨w.heap.size + 1, 1, none⟩ = some (.slice (some ⟨w.heap.size, 0, none⟩) 2 2) := (hb1.cell (p := ⟨w.heap.size + 1, 1, none⟩) (by show w.heap.size + 1 < _; simp only [sz_alloc]; omega)).trans (blk_cell (blk_alloc (blk_alloc (new_at (by rw [sz_alloc])) _) _) 1)
  have hz1 : w.heap.size + 1 < w1.heap.size := by have := hb1.size; simp only [sz_alloc] at this; omega
  clear hr1 hcj hb1
  go_wp2_with (go_at_call 16; refine Stand.stop ?_)
  refine Stand.go ?_
  refine (lattice_Top.calls 2 2 true [1, 1] _ (by kernel_rfl)).mono ?_
  rintro e w2 ⟨v2, rfl, hr2, hb2⟩
  obtain ⟨At, ct, rfl⟩ := Kd.R_slice hr2
  obtain ⟨tb, to_, rfl, hct⟩ := row_int (Kd.R_reads' hr2).2.2 (by decide)
  have hb2' : Below w1.heap.size w1 w2 := below_then ((Below.refl _ _).alloc (Nat.le_refl _) _) (by simp only [sz_alloc]; omega) hb2
  obtain ⟨W3, hW3⟩ : ∃ W, W = w2.alloc (.cells #[.bool true, .slice (some ⟨tb, to_, none⟩) 2 ct] 24) := ⟨_, rfl⟩
  have hW : Below w2.heap.size w2 W3 := by rw [hW3]; exact (Below.refl _ _).alloc (Nat.le_refl _) _
  have yj0 : w2.cell? ⟨w1.heap.size, 0, none⟩ = some (.bool true) := (hb2.cell (p := ⟨w1.heap.size, 0, none⟩) (by show w1.heap.size < _; simp only [sz_alloc]; omega)).trans (blk_cell (heap_alloc_new w1 _) 0)
  have yj1 : w2.cell? ⟨w1.heap.size, 1, none⟩ = some (.slice (some ⟨jb, jo, none⟩) 2 cj) := (hb2.cell (p := ⟨w1.heap.size, 1, none⟩) (by show w1.heap.size < _; simp only [sz_alloc]; omega)).trans (blk_cell (heap_alloc_new w1 _) 1)
  have yt0 : W3.cell? ⟨w2.heap.size, 0, none⟩ = some (.bool true) := by rw [hW3]; exact blk_cell (heap_alloc_new w2 _) 0
  have yt1 : W3.cell? ⟨w2.heap.size, 1, none⟩ = some (.slice (some ⟨tb, to_, none⟩) 2 ct) := by rw [hW3]; exact blk_cell (heap_alloc_new w2 _) 1
  have HALL : Aside0 (∀ W', Below W3.heap.size W3 W' → W'.cell? ⟨w.heap.size + 1, 0, none⟩ = some (.bool true) ∧ W'.cell? ⟨w.heap.size + 1, 1, none⟩ = some (.slice (some ⟨w.heap.size, 0, none⟩) 2 2) ∧ W'.cell? ⟨w1.heap.size, 0, none⟩ = some (.bool true) ∧ W'.cell? ⟨w1.heap.size, 1, none⟩ = some (.slice (some ⟨jb, jo, none⟩) 2 cj) ∧ W'.cell? ⟨jb, jo + 0, none⟩ = some (.int .i64 3) ∧ W'.cell? ⟨jb, jo + 1, none⟩ = some (.int .i64 1) ∧ W'.cell? ⟨tb, to_ + 0, none⟩ = some (.int .i64 1) ∧ W'.cell? ⟨w2.heap.size, 0, none⟩ = some (.bool true) ∧ W'.cell? ⟨w2.heap.size, 1, none⟩ = some (.slice (some ⟨tb, to_, none⟩) 2 ct) ∧ Aside0 (Kd.C (Kd.int .i64) W' (some ⟨w.heap.size, 0, none⟩) 2 [1, 0]) ∧ Aside0 (Kd.C (Kd.int .i64) W' (some ⟨jb, jo, none⟩) 2 [3, 1]) ∧ Aside0 (Below w.heap.size w W')) := ⟨fun W' hb3 => by
    have hb := below_then hW hW.size hb3
    exact ⟨cell_later hb (cell_later hb2' ya0), cell_later hb (cell_later hb2' ya1), cell_later hb yj0, cell_later hb yj1, cell_later hb (cell_later hb2' HCJ0.out), cell_later hb (cell_later hb2' HCJ1.out), cell_later hb (hct 0 (by decide)), cell_later hb3 yt0, cell_later hb3 yt1, ⟨Kd.C_below (Kd.C_below HL1.out hb2') hb⟩, ⟨Kd.C_below (Kd.C_below HR1.out hb2') hb⟩, ⟨below_then (below_then HB1.out HB1.out.size hb2') (below_then HB1.out HB1.out.size hb2').size hb⟩⟩⟩
  have HB3 := Aside0.mk (Below.refl W3.heap.size W3)
  obtain ⟨z0, z1, z2, z3, z4, z5, z6, t0, t1, z7, z8, z9⟩ := HALL.out _ HB3.out
  rw [Nat.add_zero] at z4 z6
  have HW3 := Aside0.mk hW3
  rw [hW3] at z0 z1 z2 z3 z4 z5 z6 t0 t1
  clear ya0 ya1 hr2 hct hb2 hb2' hW yj0 yj1 yt0 yt1 HCJ0 HCJ1 HL1 HR1 HB1 hz1 hW3 z7 z8 z9
  go_wp2_with (first | (go_at_call 19; refine Stand.stop ?_))
  refine Stand.go ?_
  rw [← HW3.out]
  refine (lattice_Height.calls 9 1 3 7 _ (by kernel_rfl)).mono ?_
  rintro e w4 ⟨rfl, hb4⟩
  have HB4 := Aside0.mk hb4
  clear z0 z1 z2 z3 z4 z5 z6 t0 t1 hb4
  obtain ⟨z0, z1, z2, z3, z4, z5, z6, t0, t1, z7, z8, z9⟩ := HALL.out _ HB4.out
  rw [Nat.add_zero] at z4 z6
  go_wp2_with (first | (go_at_call 19; refine Stand.stop ?_))
  refine Stand.go ?_
  refine (lattice_Height.calls 9 2 3 4 _ (by kernel_rfl)).mono ?_
  rintro e w5 ⟨rfl, hb5⟩
  have HB5 := Aside0.mk (below_then HB4.out HB4.out.size hb5)
  clear z0 z1 z2 z3 z4 z5 z6 t0 t1 hb5 z7 z8 z9
  obtain ⟨z0, z1, z2, z3, z4, z5, z6, t0, t1, z7, z8, z9⟩ := HALL.out _ HB5.out
  rw [Nat.add_zero] at z4 z6
  go_wp2_with (first | (go_at_call 18; refine Stand.stop ?_))
  refine Stand.go ?_
  refine (lattice_Bottom.calls 3 false [] _ rfl).mono ?_
  rintro e w6 ⟨v6, rfl, hr6, hb6⟩
  obtain ⟨A6, c6, rfl⟩ := Kd.R_slice hr6
  clear hr6
  have HB6 := Aside0.mk (below_then HB5.out HB5.out.size hb6)
  clear z0 z1 z2 z3 z4 z5 z6 t0 t1 hb6 z7 z8 z9
  obtain ⟨z0, z1, z2, z3, z4, z5, z6, t0, t1, z7, z8, z9⟩ := HALL.out _ HB6.out
  rw [Nat.add_zero] at z4 z6
  go_wp2_with (first | (go_at_call 13; refine Stand.stop ?_))
  refine Stand.go ?_
  refine (lattice_Good.calls 9 1 2 true _ 2 [1, 0] true _ z7.out (Nat.le_refl 2) (by kernel_rfl)).mono ?_
  rintro e w7 ⟨rfl, hb7⟩
  have HB7 := Aside0.mk (below_then HB6.out HB6.out.size hb7)
  clear z0 z1 z2 z3 z4 z5 z6 t0 t1 hb7 z7 z8 z9
  obtain ⟨z0, z1, z2, z3, z4, z5, z6, t0, t1, z7, z8, z9⟩ := HALL.out _ HB7.out
  rw [Nat.add_zero] at z4 z6
  go_wp2_with (first | (go_at_call 17; refine Stand.stop ?_))
  refine Stand.go ?_
  refine (lattice_Below.calls 64 1 true _ 2 [1, 0] true _ cj [3, 1] true _ z7.out (Nat.le_refl 2) z8.out HCJ.out (by kernel_rfl)).mono ?_
  rintro e w8 ⟨rfl, hb8⟩
  have HB8 := Aside0.mk (below_then HB7.out HB7.out.size hb8)
  clear z0 z1 z2 z3 z4 z5 z6 t0 t1 hb8 z7 z8 z9
  obtain ⟨z0, z1, z2, z3, z4, z5, z6, t0, t1, z7, z8, z9⟩ := HALL.out _ HB8.out
  go_wp2_with fail
  go_ret
  exact ⟨rfl, z9.out⟩

end Go.Proofs.Ytikipnbdccbnfaa.GL
