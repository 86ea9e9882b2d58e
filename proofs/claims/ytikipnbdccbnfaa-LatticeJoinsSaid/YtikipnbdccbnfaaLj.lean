/-
  LatticeJoins: the walk (printed by wip/tools/mkLj.py).
-/
import Derived.Test.YtikipnbdccbnfaaLo
import Derived.Deep.RegionHeld3
set_option linter.unusedVariables false
namespace Go.Proofs.Ytikipnbdccbnfaa
open Go.RowKit Go.Proofs.YtikipnbdccbnfaaW.PrintWords Go.Proofs.YtikipnbdccbnfaaW.PrintLast Go.Proofs.YtikipnbdccbnfaaW.PrintMore Go.Proofs.Ytikipnbdccbnfaa.GL
attribute [local go_sem] max2_int max_two

theorem awake20 (w : World) : Calls Try.prog 12 #[] w fun e w' => e = .returned (.bool true) ∧ Below w.heap.size w w' := lorgnettelaw20_awake.calls 0 true w rfl
theorem good_walk (t n : Int) (b : Bool) (A : Option Addr) (c : Nat) (l : List Int) (w : World) (h : Kd.C (Kd.int .i64) w A l.length l) (hc : l.length ≤ c) (r : Bool) (hr : goodB t n b l = r) : Calls Try.prog 13 #[.int .i64 t, .int .i64 n, .agg #[.bool b, .slice A l.length c]] w fun e w' => e = .returned (.bool r) ∧ Below w.heap.size w w' :=
  lattice_Good.calls 0 t n b A c l r w h hc (by rw [← hr]; rfl)
theorem zip_top {t g : Int} (hg : g = if t = 2 then 1 else 3) (ht : t = 1 ∨ t = 2) : ∀ (l : List Int), (∀ c ∈ l, okC t c) → List.zipWith (cellS t) l (List.replicate l.length g) = List.replicate l.length g
  | [], _ => rfl
  | x :: r, h => by
    rw [List.length_cons, List.replicate_succ, List.zipWith_cons_cons, zip_top hg ht r (fun c hc => h c (by simp [hc]))]
    congr 1
    have hx := h x (by simp)
    subst hg
    rcases ht with rfl | rfl
    · rw [okC_1] at hx
      rcases hx with rfl | rfl | rfl | rfl <;> decide
    · rw [okC_2] at hx
      rcases hx with rfl | rfl <;> decide
theorem top_good {t n : Int} (ht : t = 1 ∨ t = 2) (h0 : 0 ≤ n) : goodB t n true (List.replicate n.toNat (if t = 2 then (1 : Int) else 3)) = true := by
  refine good_mk ht (by simp; omega) (fun c hc => ?_)
  rw [List.eq_of_mem_replicate hc]
  rcases ht with rfl | rfl
  · rw [okC_1]; simp
  · rw [okC_2]; simp
theorem below_top {t n : Int} {b1 : Bool} {r1 : List Int} (h : goodB t n b1 r1 = true) (h0 : 0 ≤ n) : belowS t b1 r1 true (List.replicate n.toNat (if t = 2 then (1 : Int) else 3)) = true := by
  obtain ⟨ht, c1⟩ := good_cases h
  rw [below_iff]
  unfold joinS
  rcases c1 with ⟨rfl, rfl⟩ | ⟨rfl, hn1, hc1⟩
  · simp
  · rw [if_pos rfl, if_pos rfl, show n.toNat = r1.length by omega, zip_top rfl ht r1 hc1]
theorem top_is {t n : Int} (ht : t = 1 ∨ t = 2) (h0 : 0 ≤ n) (h1 : n ≤ 60) : lattice_Top.f t n = some (true, List.replicate n.toNat (if t = 2 then (1 : Int) else 3)) := by
  unfold lattice_Top.f lattice_greatest.f
  rw [bounded_is h0 h1]
  unfold slices_Repeat_int_int.f
  rcases ht with rfl | rfl <;> simp [rd, h0, show n ≤ 65536 by omega]
theorem below_bot (t : Int) (Ab : Option Addr) (cb : Nat) (b : Bool) (A : Option Addr) (c : Nat) (l : List Int) (w : World) (h0 : Kd.C (Kd.int .i64) w Ab ([] : List Int).length [] ∧ ([] : List Int).length ≤ cb) (h : Kd.C (Kd.int .i64) w A l.length l) (hc : l.length ≤ c) (hf : lattice_Below.f 64 t false [] b l = some true) :
    Calls Try.prog 17 #[.int .i64 t, .agg #[.bool false, .slice Ab 0 cb], .agg #[.bool b, .slice A l.length c]] w fun e w' => e = .returned (.bool true) ∧ Below w.heap.size w w' :=
  lattice_Below.calls 64 t false Ab cb [] b A c l true w h0.1 h0.2 h hc hf
def joinsN (b1 : Bool) (l1 l2 l3 : List Int) : Int := if b1 = true then (l1.length : Int) else if l2.length < l3.length then (l3.length : Int) else (l2.length : Int)

theorem hand_op {P : Program} {ops : Array Oper} {Q : Exit → Act → World → Prop} {md : Region.Mode} {S : World → Prop} {fuel : Nat} {listed : Array Bool} {a : Act} {w : World} {i : Nat} {o : Oper} (hi : ops[i]? = some o)
    (h : ops[i]? = some o → wpAnyH P md ops Q S fuel listed a w) : wpAnyH P md ops Q S fuel listed a w := h hi
set_option linter.unusedSimpArgs false in
set_option maxHeartbeats 8000000 in
set_option maxRecDepth 100000 in
theorem joins_walk (w : World) (t : Int) (cs1 : Array Value) (x1 : S24) (cs2 : Array Value) (x2 : S24) (cs3 : Array Value) (x3 : S24) (ha : (Lit.int .i64 t).wf = true) (h1 : k24.K w x1 cs1.toList) (g1 : True) (h2 : k24.K w x2 cs2.toList) (g2 : True) (h3 : k24.K w x3 cs3.toList) (g3 : True) :
    Calls Try.prog 3 #[.int .i64 t, .agg cs1, .agg cs2, .agg cs3] w fun e w' => e = .returned (.bool true) ∧ Below w.heap.size w w' := by
  obtain ⟨A1, c1, rfl, l1, C1⟩ := known_shape h1
  obtain ⟨A2, c2, rfl, l2, C2⟩ := known_shape h2
  obtain ⟨A3, c3, rfl, l3, C3⟩ := known_shape h3
  obtain ⟨b1, r1⟩ := x1
  obtain ⟨b2, r2⟩ := x2
  obtain ⟨b3, r3⟩ := x3
  simp only at *
  have HL1 := Aside0.mk l1
  have HL2 := Aside0.mk l2
  have HL3 := Aside0.mk l3
  have hu24 := Try.underlying24
  have hm1 : r1.length ≤ 9223372036854775807 := C1.2.1
  have hm2 : r2.length ≤ 9223372036854775807 := C2.2.1
  have hm3 : r3.length ≤ 9223372036854775807 := C3.2.1
  obtain ⟨W0, hW0⟩ : ∃ W, W = ((w.alloc (.cells #[.bool b1, .slice A1 r1.length c1] 24)).alloc (.cells #[.bool b2, .slice A2 r2.length c2] 24)).alloc (.cells #[.bool b3, .slice A3 r3.length c3] 24) := ⟨_, rfl⟩
  have hB0 : Below w.heap.size w W0 := by rw [hW0]; exact (((Below.refl _ _).alloc (Nat.le_refl _) _).alloc (by simp only [sz_alloc]; omega) _).alloc (by simp only [sz_alloc]; omega) _
  have hk1 : W0.heap[w.heap.size]? = some (.cells #[.bool b1, .slice A1 r1.length c1] 24) := by rw [hW0]; exact blk_alloc (blk_alloc (heap_alloc_new w _) _) _
  have hk2 : W0.heap[w.heap.size + 1]? = some (.cells #[.bool b2, .slice A2 r2.length c2] 24) := by rw [hW0]; exact blk_alloc (new_at (by rw [sz_alloc])) _
  have hk3 : W0.heap[w.heap.size + 1 + 1]? = some (.cells #[.bool b3, .slice A3 r3.length c3] 24) := by rw [hW0]; exact new_at (by rw [sz_alloc, sz_alloc])
  have HALL : Aside0 (∀ W', Below W0.heap.size W0 W' → W'.cell? ⟨w.heap.size, 0, none⟩ = some (.bool b1) ∧ W'.cell? ⟨w.heap.size, 1, none⟩ = some (.slice A1 r1.length c1) ∧ W'.cell? ⟨w.heap.size + 1, 0, none⟩ = some (.bool b2) ∧ W'.cell? ⟨w.heap.size + 1, 1, none⟩ = some (.slice A2 r2.length c2) ∧ W'.cell? ⟨w.heap.size + 1 + 1, 0, none⟩ = some (.bool b3) ∧ W'.cell? ⟨w.heap.size + 1 + 1, 1, none⟩ = some (.slice A3 r3.length c3) ∧ Aside0 (Kd.C (Kd.int .i64) W' A1 r1.length r1) ∧ Aside0 (Kd.C (Kd.int .i64) W' A2 r2.length r2) ∧ Aside0 (Kd.C (Kd.int .i64) W' A3 r3.length r3) ∧ Aside0 (Below w.heap.size w W')) := ⟨fun W' hb =>
    ⟨cell_later hb (blk_cell hk1 0), cell_later hb (blk_cell hk1 1), cell_later hb (blk_cell hk2 0), cell_later hb (blk_cell hk2 1), cell_later hb (blk_cell hk3 0), cell_later hb (blk_cell hk3 1), ⟨Kd.C_below (Kd.C_below C1 hB0) hb⟩, ⟨Kd.C_below (Kd.C_below C2 hB0) hb⟩, ⟨Kd.C_below (Kd.C_below C3 hB0) hb⟩, ⟨GL.below_then hB0 hB0.size hb⟩⟩⟩
  have HW0 := Aside0.mk hW0
  clear h1 h2 h3 C1 C2 C3 g1 g2 g3 ha l1 l2 l3 hB0 hk1 hk2 hk3 hW0
  go_enter Try.func3, Try.ntmps3
  go_wp2_with (go_at_call 12; refine Stand.stop ?_)
  refine Stand.go ?_
  rw [← HW0.out]
  refine (awake20 _).mono ?_
  rintro e w1 ⟨rfl, hb1⟩
  have HB1 := Aside0.mk hb1
  clear hb1
  obtain ⟨z0, z1, z2, z3, z4, z5, y1, y2, y3, yB⟩ := HALL.out _ HB1.out
  have hnn : joinsN b1 r1 r2 r3 = joinsN b1 r1 r2 r3 := rfl
  generalize hn : joinsN b1 r1 r2 r3 = n at hnn
  clear hnn
  go_upto_if 20 with (fail)
  go_cut [9] (fun v w' => w' = w1 ∧ v = .int .i64 n)
  case first =>
    unfold joinsN at hn
    cases b1 with
    | true =>
      simp only [if_true] at hn
      go_wp2_with fail
      go_meet
      exact ⟨rfl, by rw [hn]⟩
    | false =>
      simp only [Bool.false_eq_true, if_false] at hn
      go_wp2_with fail
      go_meet
      exact ⟨rfl, rfl⟩
  case rest =>
    obtain ⟨rfl, rfl⟩ := hcut
    have h0n : 0 ≤ n := by rw [← hn]; unfold joinsN; repeat' split; all_goals omega
    clear hn hm1 hm2 hm3
    by_cases h60 : 60 < n
    · have d60 : decide (60 < n) = true := decide_eq_true h60
      go_wp2_with fail
      go_ret
      exact ⟨rfl, yB.out⟩
    have d60 : decide (60 < n) = false := decide_eq_false h60
    as_aux_lemma =>
     cases hg1 : goodB t n b1 r1 with
     | false =>
       have G1 := Aside0.mk hg1
       clear hg1
       go_wp2_with (go_at_call 13; refine Stand.stop ?_)
       refine Stand.go ?_
       refine (good_walk t n b1 A1 c1 r1 _ y1.out HL1.out false G1.out).mono ?_
       rintro e w2 ⟨rfl, hb2⟩
       have HB2 := Aside0.mk (GL.below_then HB1.out HB1.out.size hb2)
       clear z0 z1 z2 z3 z4 z5 y1 y2 y3 yB hb2
       obtain ⟨z0, z1, z2, z3, z4, z5, y1, y2, y3, yB⟩ := HALL.out _ HB2.out
       go_wp2_with fail
       go_ret
       exact ⟨rfl, yB.out⟩
     | true =>
     have G1 := Aside0.mk hg1
     clear hg1
     cases hg2 : goodB t n b2 r2 with
     | false =>
       have G2 := Aside0.mk hg2
       clear hg2
       go_wp2_with (go_at_call 13; refine Stand.stop ?_)
       refine Stand.go ?_
       refine (good_walk t n b1 A1 c1 r1 _ y1.out HL1.out true G1.out).mono ?_
       rintro e w2 ⟨rfl, hb2⟩
       have HB2 := Aside0.mk (GL.below_then HB1.out HB1.out.size hb2)
       clear z0 z1 z2 z3 z4 z5 y1 y2 y3 yB hb2
       obtain ⟨z0, z1, z2, z3, z4, z5, y1, y2, y3, yB⟩ := HALL.out _ HB2.out
       go_wp2_with (go_at_call 13; refine Stand.stop ?_)
       refine Stand.go ?_
       refine (good_walk t n b2 A2 c2 r2 _ y2.out HL2.out false G2.out).mono ?_
       rintro e w3 ⟨rfl, hb3⟩
       have HB3 := Aside0.mk (GL.below_then HB2.out HB2.out.size hb3)
       clear z0 z1 z2 z3 z4 z5 y1 y2 y3 yB hb3
       obtain ⟨z0, z1, z2, z3, z4, z5, y1, y2, y3, yB⟩ := HALL.out _ HB3.out
       go_wp2_with fail
       go_ret
       exact ⟨rfl, yB.out⟩
     | true =>
     have G2 := Aside0.mk hg2
     clear hg2
     cases hg3 : goodB t n b3 r3 with
     | false =>
       have G3 := Aside0.mk hg3
       clear hg3
       go_wp2_with (go_at_call 13; refine Stand.stop ?_)
       refine Stand.go ?_
       refine (good_walk t n b1 A1 c1 r1 _ y1.out HL1.out true G1.out).mono ?_
       rintro e w2 ⟨rfl, hb2⟩
       have HB2 := Aside0.mk (GL.below_then HB1.out HB1.out.size hb2)
       clear z0 z1 z2 z3 z4 z5 y1 y2 y3 yB hb2
       obtain ⟨z0, z1, z2, z3, z4, z5, y1, y2, y3, yB⟩ := HALL.out _ HB2.out
       go_wp2_with (go_at_call 13; refine Stand.stop ?_)
       refine Stand.go ?_
       refine (good_walk t n b2 A2 c2 r2 _ y2.out HL2.out true G2.out).mono ?_
       rintro e w3 ⟨rfl, hb3⟩
       have HB3 := Aside0.mk (GL.below_then HB2.out HB2.out.size hb3)
       clear z0 z1 z2 z3 z4 z5 y1 y2 y3 yB hb3
       obtain ⟨z0, z1, z2, z3, z4, z5, y1, y2, y3, yB⟩ := HALL.out _ HB3.out
       go_wp2_with (go_at_call 13; refine Stand.stop ?_)
       refine Stand.go ?_
       refine (good_walk t n b3 A3 c3 r3 _ y3.out HL3.out false G3.out).mono ?_
       rintro e w4 ⟨rfl, hb4⟩
       have HB4 := Aside0.mk (GL.below_then HB3.out HB3.out.size hb4)
       clear z0 z1 z2 z3 z4 z5 y1 y2 y3 yB hb4
       obtain ⟨z0, z1, z2, z3, z4, z5, y1, y2, y3, yB⟩ := HALL.out _ HB4.out
       go_wp2_with fail
       go_ret
       exact ⟨rfl, yB.out⟩
     | true =>
     have G3 := Aside0.mk hg3
     clear hg3
     go_wp2_with (go_at_call 13; refine Stand.stop ?_)
     refine Stand.go ?_
     refine (good_walk t n b1 A1 c1 r1 _ y1.out HL1.out true G1.out).mono ?_
     rintro e w2 ⟨rfl, hb2⟩
     have HB2 := Aside0.mk (GL.below_then HB1.out HB1.out.size hb2)
     clear z0 z1 z2 z3 z4 z5 y1 y2 y3 yB hb2
     obtain ⟨z0, z1, z2, z3, z4, z5, y1, y2, y3, yB⟩ := HALL.out _ HB2.out
     go_wp2_with (go_at_call 13; refine Stand.stop ?_)
     refine Stand.go ?_
     refine (good_walk t n b2 A2 c2 r2 _ y2.out HL2.out true G2.out).mono ?_
     rintro e w3 ⟨rfl, hb3⟩
     have HB3 := Aside0.mk (GL.below_then HB2.out HB2.out.size hb3)
     clear z0 z1 z2 z3 z4 z5 y1 y2 y3 yB hb3
     obtain ⟨z0, z1, z2, z3, z4, z5, y1, y2, y3, yB⟩ := HALL.out _ HB3.out
     go_wp2_with (go_at_call 13; refine Stand.stop ?_)
     refine Stand.go ?_
     refine (good_walk t n b3 A3 c3 r3 _ y3.out HL3.out true G3.out).mono ?_
     rintro e w4 ⟨rfl, hb4⟩
     have HB4 := Aside0.mk (GL.below_then HB3.out HB3.out.size hb4)
     clear z0 z1 z2 z3 z4 z5 y1 y2 y3 yB hb4
     obtain ⟨z0, z1, z2, z3, z4, z5, y1, y2, y3, yB⟩ := HALL.out _ HB4.out
     have k1 := good_len G1.out (by omega)
     have k2 := good_len G2.out (by omega)
     have k3 := good_len G3.out (by omega)
     have JX := Aside0.mk (join_k 64 (Nat.le_refl _) t b1 b2 r1 r2 k1 k2)
     have JY := Aside0.mk (join_k 64 (Nat.le_refl _) t b2 b3 r2 r3 k2 k3)
     have GX := Aside0.mk (join_good G1.out G2.out)
     have GY := Aside0.mk (join_good G2.out G3.out)
     have HASS := Aside0.mk (join_assoc G1.out G2.out G3.out)
     have HCOM := Aside0.mk (join_comm G1.out G2.out)
     obtain ⟨X, hX⟩ : ∃ X, X = joinS t b1 r1 b2 r2 := ⟨_, rfl⟩
     obtain ⟨Y, hY⟩ : ∃ Y, Y = joinS t b2 r2 b3 r3 := ⟨_, rfl⟩
     rw [← hX] at JX GX HASS HCOM
     rw [← hY] at JY GY HASS
     obtain ⟨bx, rx⟩ := X
     obtain ⟨by_, ry⟩ := Y
     simp only at JX JY GX GY HASS HCOM
     have HX := Aside0.mk hX
     have HY := Aside0.mk hY
     clear hX hY
     go_wp2_with (go_at_call 14; refine Stand.stop ?_)
     refine Stand.go ?_
     refine (lattice_Join.calls 64 t b1 A1 c1 r1 b2 A2 c2 r2 bx rx _ y1.out HL1.out y2.out HL2.out JX.out).mono ?_
     rintro e w5 ⟨v5, rfl, hr5, hb5⟩
     obtain ⟨Ax, cx, rfl⟩ := Kd.R_slice hr5
     have HLX : Aside0 (rx.length ≤ cx) := ⟨(Kd.R_reads' hr5).2.1⟩
     have HCX := Aside0.mk (Kd.R_reads' hr5).2.2
     clear hr5
     have HB5 := Aside0.mk (GL.below_then HB4.out HB4.out.size hb5)
     have HB5x : Aside0 (Below W0.heap.size W0 (w5.alloc (.cells #[.bool bx, .slice Ax rx.length cx] 24))) := ⟨HB5.out.alloc HB5.out.size _⟩
     clear z0 z1 z2 z3 z4 z5 y1 y2 y3 yB hb5
     obtain ⟨z0, z1, z2, z3, z4, z5, y1, y2, y3, yB⟩ := HALL.out _ HB5x.out
     go_wp2_with (go_at_call 14; refine Stand.stop ?_)
     refine Stand.go ?_
     refine (lattice_Join.calls 64 t b2 A2 c2 r2 b3 A3 c3 r3 by_ ry _ y2.out HL2.out y3.out HL3.out JY.out).mono ?_
     rintro e w6 ⟨v6, rfl, hr6, hb6⟩
     obtain ⟨Ay, cy, rfl⟩ := Kd.R_slice hr6
     have HLY : Aside0 (ry.length ≤ cy) := ⟨(Kd.R_reads' hr6).2.1⟩
     obtain ⟨W7, hW7⟩ : ∃ W, W = w6.alloc (.cells #[.bool by_, .slice Ay ry.length cy] 24) := ⟨_, rfl⟩
     have hb67 : Below w6.heap.size w6 W7 := by rw [hW7]; exact (Below.refl _ _).alloc (Nat.le_refl _) _
     have hb56 : Below w5.heap.size w5 w6 := GL.below_then ((Below.refl _ _).alloc (Nat.le_refl _) _) (by rw [sz_alloc]; omega) hb6
     have hkx : w6.heap[w5.heap.size]? = some (.cells #[.bool bx, .slice Ax rx.length cx] 24) := (hb6.block _ (by rw [sz_alloc]; omega)).trans (heap_alloc_new w5 _)
     have hky : W7.heap[w6.heap.size]? = some (.cells #[.bool by_, .slice Ay ry.length cy] 24) := by rw [hW7]; exact heap_alloc_new w6 _
     have hcy := (Kd.R_reads' hr6).2.2
     have HB6 := Aside0.mk (GL.below_then HB5x.out HB5x.out.size hb6)
     have HAL2 : Aside0 (∀ W', Below W7.heap.size W7 W' → W'.cell? ⟨w5.heap.size, 0, none⟩ = some (.bool bx) ∧ W'.cell? ⟨w5.heap.size, 1, none⟩ = some (.slice Ax rx.length cx) ∧ W'.cell? ⟨w6.heap.size, 0, none⟩ = some (.bool by_) ∧ W'.cell? ⟨w6.heap.size, 1, none⟩ = some (.slice Ay ry.length cy) ∧ Aside0 (Kd.C (Kd.int .i64) W' Ax rx.length rx) ∧ Aside0 (Kd.C (Kd.int .i64) W' Ay ry.length ry) ∧ Below W0.heap.size W0 W') := ⟨fun W' hb => by
       have hb7 := GL.below_then hb67 hb67.size hb
       exact ⟨cell_later hb7 (blk_cell hkx 0), cell_later hb7 (blk_cell hkx 1), cell_later hb (blk_cell hky 0), cell_later hb (blk_cell hky 1), ⟨Kd.C_below (Kd.C_below HCX.out hb56) hb7⟩, ⟨Kd.C_below hcy hb7⟩, GL.below_then HB6.out HB6.out.size hb7⟩⟩
     have HW7 := Aside0.mk hW7
     have HB7 : Aside0 (Below W0.heap.size W0 W7) := ⟨GL.below_then HB6.out HB6.out.size hb67⟩
     clear z0 z1 z2 z3 z4 z5 y1 y2 y3 yB hr6 hb6 hb67 hb56 hkx hky hcy hW7
     go_wp2_with fail
     rw [← HW7.out]
     have HS : Aside0 (∀ W', Below W7.heap.size W7 W' → W'.cell? ⟨w.heap.size, 0, none⟩ = some (.bool b1) ∧ W'.cell? ⟨w.heap.size, 1, none⟩ = some (.slice A1 r1.length c1) ∧ W'.cell? ⟨w.heap.size + 1, 0, none⟩ = some (.bool b2) ∧ W'.cell? ⟨w.heap.size + 1, 1, none⟩ = some (.slice A2 r2.length c2) ∧ W'.cell? ⟨w.heap.size + 1 + 1, 0, none⟩ = some (.bool b3) ∧ W'.cell? ⟨w.heap.size + 1 + 1, 1, none⟩ = some (.slice A3 r3.length c3) ∧ W'.cell? ⟨w5.heap.size, 0, none⟩ = some (.bool bx) ∧ W'.cell? ⟨w5.heap.size, 1, none⟩ = some (.slice Ax rx.length cx) ∧ W'.cell? ⟨w6.heap.size, 0, none⟩ = some (.bool by_) ∧ W'.cell? ⟨w6.heap.size, 1, none⟩ = some (.slice Ay ry.length cy)) := ⟨fun W' hb => by
       obtain ⟨p0, p1, p2, p3, q1, q2, hbw⟩ := HAL2.out _ hb
       obtain ⟨z0, z1, z2, z3, z4, z5, y1, y2, y3, yB⟩ := HALL.out _ hbw
       exact ⟨z0, z1, z2, z3, z4, z5, p0, p1, p2, p3⟩⟩
     have HROW : Aside0 (∀ W', Below W7.heap.size W7 W' → Kd.C (Kd.int .i64) W' A1 r1.length r1 ∧ Kd.C (Kd.int .i64) W' A2 r2.length r2 ∧ Kd.C (Kd.int .i64) W' A3 r3.length r3 ∧ Kd.C (Kd.int .i64) W' Ax rx.length rx ∧ Kd.C (Kd.int .i64) W' Ay ry.length ry ∧ Below w.heap.size w W') := ⟨fun W' hb => by
       obtain ⟨p0, p1, p2, p3, q1, q2, hbw⟩ := HAL2.out _ hb
       obtain ⟨z0, z1, z2, z3, z4, z5, y1, y2, y3, yB⟩ := HALL.out _ hbw
       exact ⟨y1.out, y2.out, y3.out, q1.out, q2.out, yB.out⟩⟩
     have HD : Aside0 (Below W7.heap.size W7 W7.drew) := ⟨(Below.refl _ _).drew⟩
     have kx := good_len GX.out (by omega)
     have ky := good_len GY.out (by omega)
     have FBA : Aside0 (lattice_Join.f 64 t b2 r2 b1 r1 = some (bx, rx)) := ⟨by rw [join_k 64 (Nat.le_refl _) t b2 b1 r2 r1 k2 k1, ← HCOM.out]⟩
     have FAA : Aside0 (lattice_Join.f 64 t b1 r1 b1 r1 = some (b1, r1)) := ⟨by rw [join_k 64 (Nat.le_refl _) t b1 b1 r1 r1 k1 k1, join_idem G1.out]⟩
     obtain ⟨Z, hZ⟩ : ∃ Z, Z = joinS t bx rx b3 r3 := ⟨_, rfl⟩
     have hZ2 : Z = joinS t b1 r1 by_ ry := hZ.trans HASS.out
     obtain ⟨bz, rz⟩ := Z
     have kz : rz.length ≤ 60 := by have := joinS_len t bx b3 rx r3 kx k3; rw [← hZ] at this; exact this
     have FXC : Aside0 (lattice_Join.f 64 t bx rx b3 r3 = some (bz, rz)) := ⟨by rw [join_k 64 (Nat.le_refl _) t bx b3 rx r3 kx k3, ← hZ]⟩
     have FAY : Aside0 (lattice_Join.f 64 t b1 r1 by_ ry = some (bz, rz)) := ⟨by rw [join_k 64 (Nat.le_refl _) t b1 by_ r1 ry k1 ky, ← hZ2]⟩
     have FSX : Aside0 (lattice_Same.f 64 bx rx bx rx = some true) := ⟨by rw [same_k 64 (Nat.le_refl _) bx bx rx rx kx, same_iff.2 ⟨rfl, rfl⟩]⟩
     have FSA : Aside0 (lattice_Same.f 64 b1 r1 b1 r1 = some true) := ⟨by rw [same_k 64 (Nat.le_refl _) b1 b1 r1 r1 k1, same_iff.2 ⟨rfl, rfl⟩]⟩
     have FSZ : Aside0 (lattice_Same.f 64 bz rz bz rz = some true) := ⟨by rw [same_k 64 (Nat.le_refl _) bz bz rz rz kz, same_iff.2 ⟨rfl, rfl⟩]⟩
     clear hZ hZ2
     as_aux_lemma =>
      go_region_held3 (fun W' => W'.cell? ⟨w.heap.size, 0, none⟩ = some (.bool b1) ∧ W'.cell? ⟨w.heap.size, 1, none⟩ = some (.slice A1 r1.length c1) ∧ W'.cell? ⟨w.heap.size + 1, 0, none⟩ = some (.bool b2) ∧ W'.cell? ⟨w.heap.size + 1, 1, none⟩ = some (.slice A2 r2.length c2) ∧ W'.cell? ⟨w.heap.size + 1 + 1, 0, none⟩ = some (.bool b3) ∧ W'.cell? ⟨w.heap.size + 1 + 1, 1, none⟩ = some (.slice A3 r3.length c3) ∧ W'.cell? ⟨w5.heap.size, 0, none⟩ = some (.bool bx) ∧ W'.cell? ⟨w5.heap.size, 1, none⟩ = some (.slice Ax rx.length cx) ∧ W'.cell? ⟨w6.heap.size, 0, none⟩ = some (.bool by_) ∧ W'.cell? ⟨w6.heap.size, 1, none⟩ = some (.slice Ay ry.length cy))
        (first | exact HS.out _ HB15.out | exact HS.out _ HB14.out | exact HS.out _ HB13.out | exact HS.out _ HB12.out | exact HS.out _ HB11.out | exact HS.out _ HB10.out | exact HS.out _ HB9.out | exact HS.out _ HB8.out | exact HS.out _ HD.out | exact HS.out _ (Below.refl _ _) | fail)
        ((first
          | (go_at_call 14; (with_reducible refine (lattice_Join.calls 64 t b2 A2 c2 r2 b1 A1 c1 r1 bx rx _ (HROW.out _ HD.out).2.1 HL2.out (HROW.out _ HD.out).1 HL1.out FBA.out).mono ?_); rintro e w8 ⟨v8, rfl, hr8, hb8⟩; obtain ⟨A_8, c_8, rfl⟩ := Kd.R_slice hr8; have HRW8 : Aside0 (Kd.C (Kd.int .i64) w8 A_8 rx.length rx ∧ rx.length ≤ c_8) := ⟨⟨(Kd.R_reads' hr8).2.2, (Kd.R_reads' hr8).2.1⟩⟩; clear hr8; have HB8 : Aside0 (Below W7.heap.size W7 w8) := ⟨GL.below_then HD.out HD.out.size hb8⟩; clear hb8)
          | (go_at_call 15; (with_reducible refine (lattice_Same.calls 64 bx Ax cx rx bx A_8 c_8 rx true _ (HROW.out _ HB8.out).2.2.2.1 HLX.out (HRW8.out.1) HRW8.out.2 FSX.out).mono ?_); rintro e w9 ⟨rfl, hb9⟩; have HB9 : Aside0 (Below W7.heap.size W7 w9) := ⟨GL.below_then HB8.out HB8.out.size hb9⟩; clear hb9)
          | (go_at_call 14; (with_reducible refine (lattice_Join.calls 64 t b1 A1 c1 r1 b1 A1 c1 r1 b1 r1 _ (HROW.out _ HB9.out).1 HL1.out (HROW.out _ HB9.out).1 HL1.out FAA.out).mono ?_); rintro e w10 ⟨v10, rfl, hr10, hb10⟩; obtain ⟨A_10, c_10, rfl⟩ := Kd.R_slice hr10; have HRW10 : Aside0 (Kd.C (Kd.int .i64) w10 A_10 r1.length r1 ∧ r1.length ≤ c_10) := ⟨⟨(Kd.R_reads' hr10).2.2, (Kd.R_reads' hr10).2.1⟩⟩; clear hr10; have HB10 : Aside0 (Below W7.heap.size W7 w10) := ⟨GL.below_then HB9.out HB9.out.size hb10⟩; clear hb10)
          | (go_at_call 15; (with_reducible refine (lattice_Same.calls 64 b1 A_10 c_10 r1 b1 A1 c1 r1 true _ (HRW10.out.1) HRW10.out.2 (HROW.out _ HB10.out).1 HL1.out FSA.out).mono ?_); rintro e w11 ⟨rfl, hb11⟩; have HB11 : Aside0 (Below W7.heap.size W7 w11) := ⟨GL.below_then HB10.out HB10.out.size hb11⟩; clear hb11)
          | (go_at_call 14; (with_reducible refine (lattice_Join.calls 64 t bx Ax cx rx b3 A3 c3 r3 bz rz _ (HROW.out _ HB11.out).2.2.2.1 HLX.out (HROW.out _ HB11.out).2.2.1 HL3.out FXC.out).mono ?_); rintro e w12 ⟨v12, rfl, hr12, hb12⟩; obtain ⟨A_12, c_12, rfl⟩ := Kd.R_slice hr12; have HRW12 : Aside0 (Kd.C (Kd.int .i64) w12 A_12 rz.length rz ∧ rz.length ≤ c_12) := ⟨⟨(Kd.R_reads' hr12).2.2, (Kd.R_reads' hr12).2.1⟩⟩; clear hr12; have HB12 : Aside0 (Below W7.heap.size W7 w12) := ⟨GL.below_then HB11.out HB11.out.size hb12⟩; clear hb12)
          | (go_at_call 14; (with_reducible refine (lattice_Join.calls 64 t b1 A1 c1 r1 by_ Ay cy ry bz rz _ (HROW.out _ HB12.out).1 HL1.out (HROW.out _ HB12.out).2.2.2.2.1 HLY.out FAY.out).mono ?_); rintro e w13 ⟨v13, rfl, hr13, hb13⟩; obtain ⟨A_13, c_13, rfl⟩ := Kd.R_slice hr13; have HRW13 : Aside0 (Kd.C (Kd.int .i64) w13 A_13 rz.length rz ∧ rz.length ≤ c_13) := ⟨⟨(Kd.R_reads' hr13).2.2, (Kd.R_reads' hr13).2.1⟩⟩; clear hr13; have HN13 := Aside0.mk hb13; have HB13 : Aside0 (Below W7.heap.size W7 w13) := ⟨GL.below_then HB12.out HB12.out.size hb13⟩; clear hb13)
          | (go_at_call 15; (with_reducible refine (lattice_Same.calls 64 bz A_12 c_12 rz bz A_13 c_13 rz true _ (Kd.C_below HRW12.out.1 HN13.out) HRW12.out.2 (HRW13.out.1) HRW13.out.2 FSZ.out).mono ?_); rintro e w14 ⟨rfl, hb14⟩; have HB14 : Aside0 (Below W7.heap.size W7 w14) := ⟨GL.below_then HB13.out HB13.out.size hb14⟩; clear hb14)
          | (go_at_call 13; (with_reducible refine (good_walk t n bx Ax cx rx _ (HROW.out _ HB14.out).2.2.2.1 HLX.out true GX.out).mono ?_); rintro e w15 ⟨rfl, hb15⟩; have HB15 : Aside0 (Below W7.heap.size W7 w15) := ⟨GL.below_then HB14.out HB14.out.size hb15⟩; clear hb15)
          | fail))
      clear FBA FAA FXC FAY FSX FSA FSZ HRW8 HRW10 HRW12 HRW13 HN13 HB8 HB9 HB10 HB11 HB12 HB13 HB14
      go_wp2_with (go_at_call 16; refine Stand.stop ?_)
      refine Stand.go ?_
      obtain ⟨rt, hrt⟩ : ∃ rt, rt = List.replicate n.toNat (if t = 2 then (1 : Int) else 3) := ⟨_, rfl⟩
      have ht12 := (good_cases G1.out).1
      have FT := top_is ht12 h0n (by omega)
      rw [← hrt] at FT
      have GT := Aside0.mk (top_good (n := n) ht12 h0n)
      have BT := Aside0.mk (below_top (n := n) G1.out h0n)
      rw [← hrt] at GT BT
      have kt := good_len GT.out (by omega)
      clear hrt
      refine (lattice_Top.calls t n true rt _ FT).mono ?_
      rintro e w16 ⟨v16, rfl, hr16, hb16⟩
      obtain ⟨At, ct, rfl⟩ := Kd.R_slice hr16
      have HLT : Aside0 (rt.length ≤ ct) := ⟨(Kd.R_reads' hr16).2.1⟩
      have hct := (Kd.R_reads' hr16).2.2
      have HB16 : Aside0 (Below W7.heap.size W7 w16) := ⟨GL.below_then HB15.out HB15.out.size hb16⟩
      obtain ⟨W17, hW17⟩ : ∃ W, W = w16.alloc (.cells #[.bool true, .slice At rt.length ct] 24) := ⟨_, rfl⟩
      have hb17 : Below w16.heap.size w16 W17 := by rw [hW17]; exact (Below.refl _ _).alloc (Nat.le_refl _) _
      have hkt : W17.heap[w16.heap.size]? = some (.cells #[.bool true, .slice At rt.length ct] 24) := by rw [hW17]; exact heap_alloc_new w16 _
      have HB17 : Aside0 (Below W7.heap.size W7 W17) := ⟨GL.below_then HB16.out HB16.out.size hb17⟩
      have HS2 : Aside0 (∀ W', Below W17.heap.size W17 W' → W'.cell? ⟨w.heap.size, 0, none⟩ = some (.bool b1) ∧ W'.cell? ⟨w.heap.size, 1, none⟩ = some (.slice A1 r1.length c1) ∧ W'.cell? ⟨w.heap.size + 1, 0, none⟩ = some (.bool b2) ∧ W'.cell? ⟨w.heap.size + 1, 1, none⟩ = some (.slice A2 r2.length c2) ∧ W'.cell? ⟨w.heap.size + 1 + 1, 0, none⟩ = some (.bool b3) ∧ W'.cell? ⟨w.heap.size + 1 + 1, 1, none⟩ = some (.slice A3 r3.length c3) ∧ W'.cell? ⟨w5.heap.size, 0, none⟩ = some (.bool bx) ∧ W'.cell? ⟨w5.heap.size, 1, none⟩ = some (.slice Ax rx.length cx) ∧ W'.cell? ⟨w6.heap.size, 0, none⟩ = some (.bool by_) ∧ W'.cell? ⟨w6.heap.size, 1, none⟩ = some (.slice Ay ry.length cy) ∧ W'.cell? ⟨w16.heap.size, 0, none⟩ = some (.bool true) ∧ W'.cell? ⟨w16.heap.size, 1, none⟩ = some (.slice At rt.length ct)) := ⟨fun W' hb => by
        obtain ⟨s0, s1, s2, s3, s4, s5, s6, s7, s8, s9⟩ := HS.out _ (GL.below_then HB17.out HB17.out.size hb)
        exact ⟨s0, s1, s2, s3, s4, s5, s6, s7, s8, s9, cell_later hb (blk_cell hkt 0), cell_later hb (blk_cell hkt 1)⟩⟩
      have HROW2 : Aside0 (∀ W', Below W17.heap.size W17 W' → Kd.C (Kd.int .i64) W' A1 r1.length r1 ∧ Kd.C (Kd.int .i64) W' A2 r2.length r2 ∧ Kd.C (Kd.int .i64) W' A3 r3.length r3 ∧ Kd.C (Kd.int .i64) W' Ax rx.length rx ∧ Kd.C (Kd.int .i64) W' At rt.length rt ∧ Below w.heap.size w W') := ⟨fun W' hb => by
        obtain ⟨s0, s1, s2, s3, s4, s5⟩ := HROW.out _ (GL.below_then HB17.out HB17.out.size hb)
        exact ⟨s0, s1, s2, s3, Kd.C_below (Kd.C_below hct hb17) hb, s5⟩⟩
      have HD2 : Aside0 (Below W17.heap.size W17 W17.drew) := ⟨(Below.refl _ _).drew⟩
      have HW17 := Aside0.mk hW17
      have B1 : Aside0 (lattice_Below.f 64 t b1 r1 bx rx = some true) := ⟨by rw [below_k 64 (Nat.le_refl _) t b1 bx r1 rx k1 kx]; have := below_join G1.out G2.out; rw [← HX.out] at this; rw [this]⟩
      have B2 : Aside0 (lattice_Below.f 64 t b2 r2 bx rx = some true) := ⟨by rw [below_k 64 (Nat.le_refl _) t b2 bx r2 rx k2 kx]; have := below_join2 G1.out G2.out; rw [← HX.out] at this; rw [this]⟩
      have B3 : Aside0 (lattice_Below.f 64 t false [] b1 r1 = some true) := ⟨by rw [below_k 64 (Nat.le_refl _) t false b1 [] r1 (by simp) k1]; rw [below_iff.2 (by simp [joinS])]⟩
      have B4 : Aside0 (lattice_Below.f 64 t b1 r1 true rt = some true) := ⟨by rw [below_k 64 (Nat.le_refl _) t b1 true r1 rt k1 kt, BT.out]⟩
      have B5 : Aside0 (lattice_Below.f 64 t b1 r1 b1 r1 = some true) := ⟨by rw [below_k 64 (Nat.le_refl _) t b1 b1 r1 r1 k1 k1, below_iff.2 (join_idem G1.out)]⟩
      have FAB := below_k 64 (Nat.le_refl _) t b1 b2 r1 r2 k1 k2
      have FBA2 := below_k 64 (Nat.le_refl _) t b2 b1 r2 r1 k2 k1
      have FBC := below_k 64 (Nat.le_refl _) t b2 b3 r2 r3 k2 k3
      have FAC := below_k 64 (Nat.le_refl _) t b1 b3 r1 r3 k1 k3
      have FSAB := same_k 64 (Nat.le_refl _) b1 b2 r1 r2 k1
      have hanti := below_anti G1.out G2.out
      have htran := below_trans G1.out G2.out G3.out
      clear hr16 hb16 hct hb17 hkt hW17 FT
      go_wp2_with fail
      rw [← HW17.out]
      simp only [List.append]
      as_aux_lemma =>
       cases hp : belowS t b1 r1 b2 r2 with
       | false =>
         rw [hp] at FAB
         have FAB := Aside0.mk FAB
         clear hanti htran FBA2 FBC FAC FSAB hp
         as_aux_lemma =>
          refine wp_region_held_drew (S := (fun W' => W'.cell? ⟨w.heap.size, 0, none⟩ = some (.bool b1) ∧ W'.cell? ⟨w.heap.size, 1, none⟩ = some (.slice A1 r1.length c1) ∧ W'.cell? ⟨w.heap.size + 1, 0, none⟩ = some (.bool b2) ∧ W'.cell? ⟨w.heap.size + 1, 1, none⟩ = some (.slice A2 r2.length c2) ∧ W'.cell? ⟨w.heap.size + 1 + 1, 0, none⟩ = some (.bool b3) ∧ W'.cell? ⟨w.heap.size + 1 + 1, 1, none⟩ = some (.slice A3 r3.length c3) ∧ W'.cell? ⟨w5.heap.size, 0, none⟩ = some (.bool bx) ∧ W'.cell? ⟨w5.heap.size, 1, none⟩ = some (.slice Ax rx.length cx) ∧ W'.cell? ⟨w6.heap.size, 0, none⟩ = some (.bool by_) ∧ W'.cell? ⟨w6.heap.size, 1, none⟩ = some (.slice Ay ry.length cy) ∧ W'.cell? ⟨w16.heap.size, 0, none⟩ = some (.bool true) ∧ W'.cell? ⟨w16.heap.size, 1, none⟩ = some (.slice At rt.length ct))) (by kernel_rfl) ?_ (fun hHeld => ?_)
          · (first | exact HS2.out _ HB27.out | exact HS2.out _ HB26.out | exact HS2.out _ HB25.out | exact HS2.out _ HB24.out | exact HS2.out _ HB23.out | exact HS2.out _ HB22.out | exact HS2.out _ HB21.out | exact HS2.out _ HB20.out | exact HS2.out _ HD2.out | exact HS2.out _ (Below.refl _ _) | fail)
          refine hand_op (i := 0) (by simp only [List.getElem?_toArray, List.getElem?_cons_succ, List.getElem?_cons_zero]; rfl) (fun hi => ?_)
          refine wpAnyH_take (v := ?_) hi (by kernel_rfl) (by kernel_rfl) (by kernel_rfl) (fun _ _ _ h => h) (Or.inl ⟨by rfl, ?_⟩) (by assumption) ?_
          rotate_left
          · intro w hSw; (try dsimp only at hSw); go_simp; try (with_reducible rfl)
          clear hi; try simp only [Act.put, List.setIfInBounds_toArray, List.set_cons_zero, List.set_cons_succ]
          refine hand_op (i := 1) (by simp only [List.getElem?_toArray, List.getElem?_cons_succ, List.getElem?_cons_zero]; rfl) (fun hi => ?_)
          refine wpAnyH_take (v := ?_) hi (by kernel_rfl) (by kernel_rfl) (by kernel_rfl) (fun _ _ _ h => h) (Or.inl ⟨by rfl, ?_⟩) (by assumption) ?_
          rotate_left
          · intro w hSw; (try dsimp only at hSw); go_simp; try (with_reducible rfl)
          clear hi; try simp only [Act.put, List.setIfInBounds_toArray, List.set_cons_zero, List.set_cons_succ]
          refine hand_op (i := 2) (by simp only [List.getElem?_toArray, List.getElem?_cons_succ, List.getElem?_cons_zero]; rfl) (fun hi => ?_)
          refine wpAnyH_take (v := ?_) hi (by kernel_rfl) (by kernel_rfl) (by kernel_rfl) (fun _ _ _ h => h) (Or.inl ⟨by rfl, ?_⟩) (by assumption) ?_
          rotate_left
          · intro w hSw; (try dsimp only at hSw); go_simp; try (with_reducible rfl)
          clear hi; try simp only [Act.put, List.setIfInBounds_toArray, List.set_cons_zero, List.set_cons_succ]
          refine hand_op (i := 3) (by simp only [List.getElem?_toArray, List.getElem?_cons_succ, List.getElem?_cons_zero]; rfl) (fun hi => ?_)
          refine wpAnyH_ready (rs := [3]) (by kernel_rfl) (by simp) ?_
          refine AllReadyH.cons hi (fun K hK => ?_) AllReadyH.nil
          go_simp
          (go_at_call 17; (with_reducible refine (lattice_Below.calls 64 t b1 A1 c1 r1 bx Ax cx rx true _ (HROW2.out _ HD2.out).1 HL1.out (HROW2.out _ HD2.out).2.2.2.1 HLX.out B1.out).mono ?_); rintro e w20 ⟨rfl, hb20⟩; have HB20 : Aside0 (Below W17.heap.size W17 w20) := ⟨GL.below_then HD2.out HD2.out.size hb20⟩; clear hb20)
          try (go_wp2_with fail)
          refine hK.out _ _ ?_ (fun hHeld => ?_)
          · (first | exact HS2.out _ HB27.out | exact HS2.out _ HB26.out | exact HS2.out _ HB25.out | exact HS2.out _ HB24.out | exact HS2.out _ HB23.out | exact HS2.out _ HB22.out | exact HS2.out _ HB21.out | exact HS2.out _ HB20.out | exact HS2.out _ HD2.out | exact HS2.out _ (Below.refl _ _) | fail)
          clear hK K hi; try simp only [Act.put, List.setIfInBounds_toArray, List.set_cons_zero, List.set_cons_succ]
          refine hand_op (i := 4) (by simp only [List.getElem?_toArray, List.getElem?_cons_succ, List.getElem?_cons_zero]; rfl) (fun hi => ?_)
          refine wpAnyH_take (v := ?_) hi (by kernel_rfl) (by kernel_rfl) (by kernel_rfl) (fun _ _ _ h => h) (Or.inl ⟨by rfl, ?_⟩) (by assumption) ?_
          rotate_left
          · intro w hSw; (try dsimp only at hSw); go_simp; try (with_reducible rfl)
          clear hi; try simp only [Act.put, List.setIfInBounds_toArray, List.set_cons_zero, List.set_cons_succ]
          refine hand_op (i := 5) (by simp only [List.getElem?_toArray, List.getElem?_cons_succ, List.getElem?_cons_zero]; rfl) (fun hi => ?_)
          refine wpAnyH_take (v := ?_) hi (by kernel_rfl) (by kernel_rfl) (by kernel_rfl) (fun _ _ _ h => h) (Or.inl ⟨by rfl, ?_⟩) (by assumption) ?_
          rotate_left
          · intro w hSw; (try dsimp only at hSw); go_simp; try (with_reducible rfl)
          clear hi; try simp only [Act.put, List.setIfInBounds_toArray, List.set_cons_zero, List.set_cons_succ]
          refine hand_op (i := 6) (by simp only [List.getElem?_toArray, List.getElem?_cons_succ, List.getElem?_cons_zero]; rfl) (fun hi => ?_)
          refine wpAnyH_take (v := ?_) hi (by kernel_rfl) (by kernel_rfl) (by kernel_rfl) (fun _ _ _ h => h) (Or.inl ⟨by rfl, ?_⟩) (by assumption) ?_
          rotate_left
          · intro w hSw; (try dsimp only at hSw); go_simp; try (with_reducible rfl)
          clear hi; try simp only [Act.put, List.setIfInBounds_toArray, List.set_cons_zero, List.set_cons_succ]
          refine hand_op (i := 7) (by simp only [List.getElem?_toArray, List.getElem?_cons_succ, List.getElem?_cons_zero]; rfl) (fun hi => ?_)
          refine wpAnyH_take (v := ?_) hi (by kernel_rfl) (by kernel_rfl) (by kernel_rfl) (fun _ _ _ h => h) (Or.inl ⟨by rfl, ?_⟩) (by assumption) ?_
          rotate_left
          · intro w hSw; (try dsimp only at hSw); go_simp; try (with_reducible rfl)
          clear hi; try simp only [Act.put, List.setIfInBounds_toArray, List.set_cons_zero, List.set_cons_succ]
          refine hand_op (i := 8) (by simp only [List.getElem?_toArray, List.getElem?_cons_succ, List.getElem?_cons_zero]; rfl) (fun hi => ?_)
          refine wpAnyH_ready (rs := [8]) (by kernel_rfl) (by simp) ?_
          refine AllReadyH.cons hi (fun K hK => ?_) AllReadyH.nil
          go_simp
          (go_at_call 17; (with_reducible refine (lattice_Below.calls 64 t b2 A2 c2 r2 bx Ax cx rx true _ (HROW2.out _ HB20.out).2.1 HL2.out (HROW2.out _ HB20.out).2.2.2.1 HLX.out B2.out).mono ?_); rintro e w21 ⟨rfl, hb21⟩; have HB21 : Aside0 (Below W17.heap.size W17 w21) := ⟨GL.below_then HB20.out HB20.out.size hb21⟩; clear hb21)
          try (go_wp2_with fail)
          refine hK.out _ _ ?_ (fun hHeld => ?_)
          · (first | exact HS2.out _ HB27.out | exact HS2.out _ HB26.out | exact HS2.out _ HB25.out | exact HS2.out _ HB24.out | exact HS2.out _ HB23.out | exact HS2.out _ HB22.out | exact HS2.out _ HB21.out | exact HS2.out _ HB20.out | exact HS2.out _ HD2.out | exact HS2.out _ (Below.refl _ _) | fail)
          clear hK K hi; try simp only [Act.put, List.setIfInBounds_toArray, List.set_cons_zero, List.set_cons_succ]
          refine hand_op (i := 9) (by simp only [List.getElem?_toArray, List.getElem?_cons_succ, List.getElem?_cons_zero]; rfl) (fun hi => ?_)
          refine wpAnyH_take (v := ?_) hi (by kernel_rfl) (by kernel_rfl) (by kernel_rfl) (fun _ _ _ h => h) (Or.inl ⟨by rfl, ?_⟩) (by assumption) ?_
          rotate_left
          · intro w hSw; (try dsimp only at hSw); go_simp; try (with_reducible rfl)
          clear hi; try simp only [Act.put, List.setIfInBounds_toArray, List.set_cons_zero, List.set_cons_succ]
          refine hand_op (i := 10) (by simp only [List.getElem?_toArray, List.getElem?_cons_succ, List.getElem?_cons_zero]; rfl) (fun hi => ?_)
          refine wpAnyH_take (v := ?_) hi (by kernel_rfl) (by kernel_rfl) (by kernel_rfl) (fun _ _ _ h => h) (Or.inl ⟨by rfl, ?_⟩) (by assumption) ?_
          rotate_left
          · intro w hSw; (try dsimp only at hSw); go_simp; try (with_reducible rfl)
          clear hi; try simp only [Act.put, List.setIfInBounds_toArray, List.set_cons_zero, List.set_cons_succ]
          refine hand_op (i := 11) (by simp only [List.getElem?_toArray, List.getElem?_cons_succ, List.getElem?_cons_zero]; rfl) (fun hi => ?_)
          refine wpAnyH_take (v := ?_) hi (by kernel_rfl) (by kernel_rfl) (by kernel_rfl) (fun _ _ _ h => h) (Or.inl ⟨by rfl, ?_⟩) (by assumption) ?_
          rotate_left
          · intro w hSw; (try dsimp only at hSw); go_simp; try (with_reducible rfl)
          clear hi; try simp only [Act.put, List.setIfInBounds_toArray, List.set_cons_zero, List.set_cons_succ]
          refine hand_op (i := 12) (by simp only [List.getElem?_toArray, List.getElem?_cons_succ, List.getElem?_cons_zero]; rfl) (fun hi => ?_)
          refine wpAnyH_take (v := ?_) hi (by kernel_rfl) (by kernel_rfl) (by kernel_rfl) (fun _ _ _ h => h) (Or.inl ⟨by rfl, ?_⟩) (by assumption) ?_
          rotate_left
          · intro w hSw; (try dsimp only at hSw); go_simp; try (with_reducible rfl)
          clear hi; try simp only [Act.put, List.setIfInBounds_toArray, List.set_cons_zero, List.set_cons_succ]
          refine hand_op (i := 14) (by simp only [List.getElem?_toArray, List.getElem?_cons_succ, List.getElem?_cons_zero]; rfl) (fun hi => ?_)
          refine wpAnyH_take (v := ?_) hi (by kernel_rfl) (by kernel_rfl) (by kernel_rfl) (fun _ _ _ h => h) (Or.inl ⟨by rfl, ?_⟩) (by assumption) ?_
          rotate_left
          · intro w hSw; (try dsimp only at hSw); go_simp; try (with_reducible rfl)
          clear hi; try simp only [Act.put, List.setIfInBounds_toArray, List.set_cons_zero, List.set_cons_succ]
          refine hand_op (i := 13) (by simp only [List.getElem?_toArray, List.getElem?_cons_succ, List.getElem?_cons_zero]; rfl) (fun hi => ?_)
          refine wpAnyH_ready (rs := [13]) (by kernel_rfl) (by simp) ?_
          refine AllReadyH.cons hi (fun K hK => ?_) AllReadyH.nil
          go_simp
          (go_at_call 18; (with_reducible refine (lattice_Bottom.calls n false [] _ rfl).mono ?_); rintro e w22 ⟨v22, rfl, hr22, hb22⟩; obtain ⟨Ab, cb, rfl⟩ := Kd.R_slice hr22; have HBOT : Aside0 (Kd.C (Kd.int .i64) w22 Ab ([] : List Int).length [] ∧ ([] : List Int).length ≤ cb) := ⟨⟨(Kd.R_reads' hr22).2.2, (Kd.R_reads' hr22).2.1⟩⟩; clear hr22; have HB22 : Aside0 (Below W17.heap.size W17 w22) := ⟨GL.below_then HB21.out HB21.out.size hb22⟩; clear hb22)
          try (go_wp2_with fail)
          refine hK.out _ _ ?_ (fun hHeld => ?_)
          · (first | exact HS2.out _ HB27.out | exact HS2.out _ HB26.out | exact HS2.out _ HB25.out | exact HS2.out _ HB24.out | exact HS2.out _ HB23.out | exact HS2.out _ HB22.out | exact HS2.out _ HB21.out | exact HS2.out _ HB20.out | exact HS2.out _ HD2.out | exact HS2.out _ (Below.refl _ _) | fail)
          clear hK K hi; try simp only [Act.put, List.setIfInBounds_toArray, List.set_cons_zero, List.set_cons_succ]
          refine hand_op (i := 15) (by simp only [List.getElem?_toArray, List.getElem?_cons_succ, List.getElem?_cons_zero]; rfl) (fun hi => ?_)
          refine wpAnyH_ready (rs := [15]) (by kernel_rfl) (by simp) ?_
          refine AllReadyH.cons hi (fun K hK => ?_) AllReadyH.nil
          go_simp
          (go_at_call 17; (with_reducible refine (below_bot t Ab cb b1 A1 c1 r1 _ HBOT.out (HROW2.out _ HB22.out).1 HL1.out B3.out).mono ?_); rintro e w23 ⟨rfl, hb23⟩; have HB23 : Aside0 (Below W17.heap.size W17 w23) := ⟨GL.below_then HB22.out HB22.out.size hb23⟩; clear hb23)
          try (go_wp2_with fail)
          refine hK.out _ _ ?_ (fun hHeld => ?_)
          · (first | exact HS2.out _ HB27.out | exact HS2.out _ HB26.out | exact HS2.out _ HB25.out | exact HS2.out _ HB24.out | exact HS2.out _ HB23.out | exact HS2.out _ HB22.out | exact HS2.out _ HB21.out | exact HS2.out _ HB20.out | exact HS2.out _ HD2.out | exact HS2.out _ (Below.refl _ _) | fail)
          clear hK K hi; try simp only [Act.put, List.setIfInBounds_toArray, List.set_cons_zero, List.set_cons_succ]
          refine hand_op (i := 16) (by simp only [List.getElem?_toArray, List.getElem?_cons_succ, List.getElem?_cons_zero]; rfl) (fun hi => ?_)
          refine wpAnyH_take (v := ?_) hi (by kernel_rfl) (by kernel_rfl) (by kernel_rfl) (fun _ _ _ h => h) (Or.inl ⟨by rfl, ?_⟩) (by assumption) ?_
          rotate_left
          · intro w hSw; (try dsimp only at hSw); go_simp; try (with_reducible rfl)
          clear hi; try simp only [Act.put, List.setIfInBounds_toArray, List.set_cons_zero, List.set_cons_succ]
          refine hand_op (i := 17) (by simp only [List.getElem?_toArray, List.getElem?_cons_succ, List.getElem?_cons_zero]; rfl) (fun hi => ?_)
          refine wpAnyH_take (v := ?_) hi (by kernel_rfl) (by kernel_rfl) (by kernel_rfl) (fun _ _ _ h => h) (Or.inl ⟨by rfl, ?_⟩) (by assumption) ?_
          rotate_left
          · intro w hSw; (try dsimp only at hSw); go_simp; try (with_reducible rfl)
          clear hi; try simp only [Act.put, List.setIfInBounds_toArray, List.set_cons_zero, List.set_cons_succ]
          refine hand_op (i := 18) (by simp only [List.getElem?_toArray, List.getElem?_cons_succ, List.getElem?_cons_zero]; rfl) (fun hi => ?_)
          refine wpAnyH_take (v := ?_) hi (by kernel_rfl) (by kernel_rfl) (by kernel_rfl) (fun _ _ _ h => h) (Or.inl ⟨by rfl, ?_⟩) (by assumption) ?_
          rotate_left
          · intro w hSw; (try dsimp only at hSw); go_simp; try (with_reducible rfl)
          clear hi; try simp only [Act.put, List.setIfInBounds_toArray, List.set_cons_zero, List.set_cons_succ]
          refine hand_op (i := 19) (by simp only [List.getElem?_toArray, List.getElem?_cons_succ, List.getElem?_cons_zero]; rfl) (fun hi => ?_)
          refine wpAnyH_take (v := ?_) hi (by kernel_rfl) (by kernel_rfl) (by kernel_rfl) (fun _ _ _ h => h) (Or.inl ⟨by rfl, ?_⟩) (by assumption) ?_
          rotate_left
          · intro w hSw; (try dsimp only at hSw); go_simp; try (with_reducible rfl)
          clear hi; try simp only [Act.put, List.setIfInBounds_toArray, List.set_cons_zero, List.set_cons_succ]
          refine hand_op (i := 20) (by simp only [List.getElem?_toArray, List.getElem?_cons_succ, List.getElem?_cons_zero]; rfl) (fun hi => ?_)
          refine wpAnyH_take (v := ?_) hi (by kernel_rfl) (by kernel_rfl) (by kernel_rfl) (fun _ _ _ h => h) (Or.inl ⟨by rfl, ?_⟩) (by assumption) ?_
          rotate_left
          · intro w hSw; (try dsimp only at hSw); go_simp; try (with_reducible rfl)
          clear hi; try simp only [Act.put, List.setIfInBounds_toArray, List.set_cons_zero, List.set_cons_succ]
          refine hand_op (i := 21) (by simp only [List.getElem?_toArray, List.getElem?_cons_succ, List.getElem?_cons_zero]; rfl) (fun hi => ?_)
          refine wpAnyH_ready (rs := [21]) (by kernel_rfl) (by simp) ?_
          refine AllReadyH.cons hi (fun K hK => ?_) AllReadyH.nil
          go_simp
          (go_at_call 17; (with_reducible refine (lattice_Below.calls 64 t b1 A1 c1 r1 true At ct rt true _ (HROW2.out _ HB23.out).1 HL1.out (HROW2.out _ HB23.out).2.2.2.2.1 HLT.out B4.out).mono ?_); rintro e w24 ⟨rfl, hb24⟩; have HB24 : Aside0 (Below W17.heap.size W17 w24) := ⟨GL.below_then HB23.out HB23.out.size hb24⟩; clear hb24)
          try (go_wp2_with fail)
          refine hK.out _ _ ?_ (fun hHeld => ?_)
          · (first | exact HS2.out _ HB27.out | exact HS2.out _ HB26.out | exact HS2.out _ HB25.out | exact HS2.out _ HB24.out | exact HS2.out _ HB23.out | exact HS2.out _ HB22.out | exact HS2.out _ HB21.out | exact HS2.out _ HB20.out | exact HS2.out _ HD2.out | exact HS2.out _ (Below.refl _ _) | fail)
          clear hK K hi; try simp only [Act.put, List.setIfInBounds_toArray, List.set_cons_zero, List.set_cons_succ]
          refine hand_op (i := 22) (by simp only [List.getElem?_toArray, List.getElem?_cons_succ, List.getElem?_cons_zero]; rfl) (fun hi => ?_)
          refine wpAnyH_take (v := ?_) hi (by kernel_rfl) (by kernel_rfl) (by kernel_rfl) (fun _ _ _ h => h) (Or.inl ⟨by rfl, ?_⟩) (by assumption) ?_
          rotate_left
          · intro w hSw; (try dsimp only at hSw); go_simp; try (with_reducible rfl)
          clear hi; try simp only [Act.put, List.setIfInBounds_toArray, List.set_cons_zero, List.set_cons_succ]
          refine hand_op (i := 23) (by simp only [List.getElem?_toArray, List.getElem?_cons_succ, List.getElem?_cons_zero]; rfl) (fun hi => ?_)
          refine wpAnyH_take (v := ?_) hi (by kernel_rfl) (by kernel_rfl) (by kernel_rfl) (fun _ _ _ h => h) (Or.inl ⟨by rfl, ?_⟩) (by assumption) ?_
          rotate_left
          · intro w hSw; (try dsimp only at hSw); go_simp; try (with_reducible rfl)
          clear hi; try simp only [Act.put, List.setIfInBounds_toArray, List.set_cons_zero, List.set_cons_succ]
          refine hand_op (i := 24) (by simp only [List.getElem?_toArray, List.getElem?_cons_succ, List.getElem?_cons_zero]; rfl) (fun hi => ?_)
          refine wpAnyH_take (v := ?_) hi (by kernel_rfl) (by kernel_rfl) (by kernel_rfl) (fun _ _ _ h => h) (Or.inl ⟨by rfl, ?_⟩) (by assumption) ?_
          rotate_left
          · intro w hSw; (try dsimp only at hSw); go_simp; try (with_reducible rfl)
          clear hi; try simp only [Act.put, List.setIfInBounds_toArray, List.set_cons_zero, List.set_cons_succ]
          refine hand_op (i := 25) (by simp only [List.getElem?_toArray, List.getElem?_cons_succ, List.getElem?_cons_zero]; rfl) (fun hi => ?_)
          refine wpAnyH_take (v := ?_) hi (by kernel_rfl) (by kernel_rfl) (by kernel_rfl) (fun _ _ _ h => h) (Or.inl ⟨by rfl, ?_⟩) (by assumption) ?_
          rotate_left
          · intro w hSw; (try dsimp only at hSw); go_simp; try (with_reducible rfl)
          clear hi; try simp only [Act.put, List.setIfInBounds_toArray, List.set_cons_zero, List.set_cons_succ]
          refine hand_op (i := 26) (by simp only [List.getElem?_toArray, List.getElem?_cons_succ, List.getElem?_cons_zero]; rfl) (fun hi => ?_)
          refine wpAnyH_take (v := ?_) hi (by kernel_rfl) (by kernel_rfl) (by kernel_rfl) (fun _ _ _ h => h) (Or.inl ⟨by rfl, ?_⟩) (by assumption) ?_
          rotate_left
          · intro w hSw; (try dsimp only at hSw); go_simp; try (with_reducible rfl)
          clear hi; try simp only [Act.put, List.setIfInBounds_toArray, List.set_cons_zero, List.set_cons_succ]
          refine hand_op (i := 27) (by simp only [List.getElem?_toArray, List.getElem?_cons_succ, List.getElem?_cons_zero]; rfl) (fun hi => ?_)
          refine wpAnyH_ready (rs := [27]) (by kernel_rfl) (by simp) ?_
          refine AllReadyH.cons hi (fun K hK => ?_) AllReadyH.nil
          go_simp
          (go_at_call 17; (with_reducible refine (lattice_Below.calls 64 t b1 A1 c1 r1 b1 A1 c1 r1 true _ (HROW2.out _ HB24.out).1 HL1.out (HROW2.out _ HB24.out).1 HL1.out B5.out).mono ?_); rintro e w25 ⟨rfl, hb25⟩; have HB25 : Aside0 (Below W17.heap.size W17 w25) := ⟨GL.below_then HB24.out HB24.out.size hb25⟩; clear hb25)
          try (go_wp2_with fail)
          refine hK.out _ _ ?_ (fun hHeld => ?_)
          · (first | exact HS2.out _ HB27.out | exact HS2.out _ HB26.out | exact HS2.out _ HB25.out | exact HS2.out _ HB24.out | exact HS2.out _ HB23.out | exact HS2.out _ HB22.out | exact HS2.out _ HB21.out | exact HS2.out _ HB20.out | exact HS2.out _ HD2.out | exact HS2.out _ (Below.refl _ _) | fail)
          clear hK K hi; try simp only [Act.put, List.setIfInBounds_toArray, List.set_cons_zero, List.set_cons_succ]
          refine hand_op (i := 28) (by simp only [List.getElem?_toArray, List.getElem?_cons_succ, List.getElem?_cons_zero]; rfl) (fun hi => ?_)
          refine wpAnyH_take (v := ?_) hi (by kernel_rfl) (by kernel_rfl) (by kernel_rfl) (fun _ _ _ h => h) (Or.inl ⟨by rfl, ?_⟩) (by assumption) ?_
          rotate_left
          · intro w hSw; (try dsimp only at hSw); go_simp; try (with_reducible rfl)
          clear hi; try simp only [Act.put, List.setIfInBounds_toArray, List.set_cons_zero, List.set_cons_succ]
          refine hand_op (i := 29) (by simp only [List.getElem?_toArray, List.getElem?_cons_succ, List.getElem?_cons_zero]; rfl) (fun hi => ?_)
          refine wpAnyH_take (v := ?_) hi (by kernel_rfl) (by kernel_rfl) (by kernel_rfl) (fun _ _ _ h => h) (Or.inl ⟨by rfl, ?_⟩) (by assumption) ?_
          rotate_left
          · intro w hSw; (try dsimp only at hSw); go_simp; try (with_reducible rfl)
          clear hi; try simp only [Act.put, List.setIfInBounds_toArray, List.set_cons_zero, List.set_cons_succ]
          refine hand_op (i := 30) (by simp only [List.getElem?_toArray, List.getElem?_cons_succ, List.getElem?_cons_zero]; rfl) (fun hi => ?_)
          refine wpAnyH_take (v := ?_) hi (by kernel_rfl) (by kernel_rfl) (by kernel_rfl) (fun _ _ _ h => h) (Or.inl ⟨by rfl, ?_⟩) (by assumption) ?_
          rotate_left
          · intro w hSw; (try dsimp only at hSw); go_simp; try (with_reducible rfl)
          clear hi; try simp only [Act.put, List.setIfInBounds_toArray, List.set_cons_zero, List.set_cons_succ]
          refine hand_op (i := 31) (by simp only [List.getElem?_toArray, List.getElem?_cons_succ, List.getElem?_cons_zero]; rfl) (fun hi => ?_)
          refine wpAnyH_take (v := ?_) hi (by kernel_rfl) (by kernel_rfl) (by kernel_rfl) (fun _ _ _ h => h) (Or.inl ⟨by rfl, ?_⟩) (by assumption) ?_
          rotate_left
          · intro w hSw; (try dsimp only at hSw); go_simp; try (with_reducible rfl)
          clear hi; try simp only [Act.put, List.setIfInBounds_toArray, List.set_cons_zero, List.set_cons_succ]
          refine hand_op (i := 32) (by simp only [List.getElem?_toArray, List.getElem?_cons_succ, List.getElem?_cons_zero]; rfl) (fun hi => ?_)
          refine wpAnyH_take (v := ?_) hi (by kernel_rfl) (by kernel_rfl) (by kernel_rfl) (fun _ _ _ h => h) (Or.inl ⟨by rfl, ?_⟩) (by assumption) ?_
          rotate_left
          · intro w hSw; (try dsimp only at hSw); go_simp; try (with_reducible rfl)
          clear hi; try simp only [Act.put, List.setIfInBounds_toArray, List.set_cons_zero, List.set_cons_succ]
          refine hand_op (i := 33) (by simp only [List.getElem?_toArray, List.getElem?_cons_succ, List.getElem?_cons_zero]; rfl) (fun hi => ?_)
          refine wpAnyH_ready (rs := [33]) (by kernel_rfl) (by simp) ?_
          refine AllReadyH.cons hi (fun K hK => ?_) AllReadyH.nil
          go_simp
          (go_at_call 17; (with_reducible refine (lattice_Below.calls 64 t b1 A1 c1 r1 b2 A2 c2 r2 false _ (HROW2.out _ HB25.out).1 HL1.out (HROW2.out _ HB25.out).2.1 HL2.out FAB.out).mono ?_); rintro e w26 ⟨rfl, hb26⟩; have HB26 : Aside0 (Below W17.heap.size W17 w26) := ⟨GL.below_then HB25.out HB25.out.size hb26⟩; clear hb26)
          try (go_wp2_with fail)
          refine hK.out _ _ ?_ (fun hHeld => ?_)
          · (first | exact HS2.out _ HB27.out | exact HS2.out _ HB26.out | exact HS2.out _ HB25.out | exact HS2.out _ HB24.out | exact HS2.out _ HB23.out | exact HS2.out _ HB22.out | exact HS2.out _ HB21.out | exact HS2.out _ HB20.out | exact HS2.out _ HD2.out | exact HS2.out _ (Below.refl _ _) | fail)
          clear hK K hi; try simp only [Act.put, List.setIfInBounds_toArray, List.set_cons_zero, List.set_cons_succ]
          refine hand_op (i := 34) (by simp only [List.getElem?_toArray, List.getElem?_cons_succ, List.getElem?_cons_zero]; rfl) (fun hi => ?_)
          refine wpAnyH_take (v := ?_) hi (by kernel_rfl) (by kernel_rfl) (by kernel_rfl) (fun _ _ _ h => h) (Or.inl ⟨by rfl, ?_⟩) (by assumption) ?_
          rotate_left
          · intro w hSw; (try dsimp only at hSw); go_simp; try (with_reducible rfl)
          clear hi; try simp only [Act.put, List.setIfInBounds_toArray, List.set_cons_zero, List.set_cons_succ]
          refine hand_op (i := 35) (by simp only [List.getElem?_toArray, List.getElem?_cons_succ, List.getElem?_cons_zero]; rfl) (fun hi => ?_)
          refine wpAnyH_take (v := ?_) hi (by kernel_rfl) (by kernel_rfl) (by kernel_rfl) (fun _ _ _ h => h) (Or.inl ⟨by rfl, ?_⟩) (by assumption) ?_
          rotate_left
          · intro w hSw; (try dsimp only at hSw); go_simp; try (with_reducible rfl)
          clear hi; try simp only [Act.put, List.setIfInBounds_toArray, List.set_cons_zero, List.set_cons_succ]
          refine hand_op (i := 36) (by simp only [List.getElem?_toArray, List.getElem?_cons_succ, List.getElem?_cons_zero]; rfl) (fun hi => ?_)
          refine wpAnyH_take (v := undef) hi (by kernel_rfl) (by kernel_rfl) (by kernel_rfl) (fun _ _ _ h => h) (Or.inr ⟨by rfl, rfl⟩) (by assumption) ?_
          clear hi; try simp only [Act.put, List.setIfInBounds_toArray, List.set_cons_zero, List.set_cons_succ]
          refine hand_op (i := 37) (by simp only [List.getElem?_toArray, List.getElem?_cons_succ, List.getElem?_cons_zero]; rfl) (fun hi => ?_)
          refine wpAnyH_take (v := undef) hi (by kernel_rfl) (by kernel_rfl) (by kernel_rfl) (fun _ _ _ h => h) (Or.inr ⟨by rfl, rfl⟩) (by assumption) ?_
          clear hi; try simp only [Act.put, List.setIfInBounds_toArray, List.set_cons_zero, List.set_cons_succ]
          refine hand_op (i := 38) (by simp only [List.getElem?_toArray, List.getElem?_cons_succ, List.getElem?_cons_zero]; rfl) (fun hi => ?_)
          refine wpAnyH_take (v := undef) hi (by kernel_rfl) (by kernel_rfl) (by kernel_rfl) (fun _ _ _ h => h) (Or.inr ⟨by rfl, rfl⟩) (by assumption) ?_
          clear hi; try simp only [Act.put, List.setIfInBounds_toArray, List.set_cons_zero, List.set_cons_succ]
          refine hand_op (i := 39) (by simp only [List.getElem?_toArray, List.getElem?_cons_succ, List.getElem?_cons_zero]; rfl) (fun hi => ?_)
          refine wpAnyH_take (v := undef) hi (by kernel_rfl) (by kernel_rfl) (by kernel_rfl) (fun _ _ _ h => h) (Or.inr ⟨by rfl, rfl⟩) (by assumption) ?_
          clear hi; try simp only [Act.put, List.setIfInBounds_toArray, List.set_cons_zero, List.set_cons_succ]
          refine hand_op (i := 40) (by simp only [List.getElem?_toArray, List.getElem?_cons_succ, List.getElem?_cons_zero]; rfl) (fun hi => ?_)
          refine wpAnyH_take (v := undef) hi (by kernel_rfl) (by kernel_rfl) (by kernel_rfl) (fun _ _ _ h => h) (Or.inr ⟨by rfl, rfl⟩) (by assumption) ?_
          clear hi; try simp only [Act.put, List.setIfInBounds_toArray, List.set_cons_zero, List.set_cons_succ]
          refine hand_op (i := 41) (by simp only [List.getElem?_toArray, List.getElem?_cons_succ, List.getElem?_cons_zero]; rfl) (fun hi => ?_)
          refine wpAnyH_take (v := ?_) hi (by kernel_rfl) (by kernel_rfl) (by kernel_rfl) (fun _ _ _ h => h) (Or.inl ⟨by rfl, ?_⟩) (by assumption) ?_
          rotate_left
          · intro w hSw; (try dsimp only at hSw); go_simp; try (with_reducible rfl)
          clear hi; try simp only [Act.put, List.setIfInBounds_toArray, List.set_cons_zero, List.set_cons_succ]
          refine hand_op (i := 42) (by simp only [List.getElem?_toArray, List.getElem?_cons_succ, List.getElem?_cons_zero]; rfl) (fun hi => ?_)
          refine wpAnyH_take (v := ?_) hi (by kernel_rfl) (by kernel_rfl) (by kernel_rfl) (fun _ _ _ h => h) (Or.inl ⟨by rfl, ?_⟩) (by assumption) ?_
          rotate_left
          · intro w hSw; (try dsimp only at hSw); go_simp; try (with_reducible rfl)
          clear hi; try simp only [Act.put, List.setIfInBounds_toArray, List.set_cons_zero, List.set_cons_succ]
          refine hand_op (i := 43) (by simp only [List.getElem?_toArray, List.getElem?_cons_succ, List.getElem?_cons_zero]; rfl) (fun hi => ?_)
          refine wpAnyH_take (v := undef) hi (by kernel_rfl) (by kernel_rfl) (by kernel_rfl) (fun _ _ _ h => h) (Or.inr ⟨by rfl, rfl⟩) (by assumption) ?_
          clear hi; try simp only [Act.put, List.setIfInBounds_toArray, List.set_cons_zero, List.set_cons_succ]
          refine hand_op (i := 44) (by simp only [List.getElem?_toArray, List.getElem?_cons_succ, List.getElem?_cons_zero]; rfl) (fun hi => ?_)
          refine wpAnyH_take (v := undef) hi (by kernel_rfl) (by kernel_rfl) (by kernel_rfl) (fun _ _ _ h => h) (Or.inr ⟨by rfl, rfl⟩) (by assumption) ?_
          clear hi; try simp only [Act.put, List.setIfInBounds_toArray, List.set_cons_zero, List.set_cons_succ]
          refine hand_op (i := 45) (by simp only [List.getElem?_toArray, List.getElem?_cons_succ, List.getElem?_cons_zero]; rfl) (fun hi => ?_)
          refine wpAnyH_take (v := undef) hi (by kernel_rfl) (by kernel_rfl) (by kernel_rfl) (fun _ _ _ h => h) (Or.inr ⟨by rfl, rfl⟩) (by assumption) ?_
          clear hi; try simp only [Act.put, List.setIfInBounds_toArray, List.set_cons_zero, List.set_cons_succ]
          refine hand_op (i := 46) (by simp only [List.getElem?_toArray, List.getElem?_cons_succ, List.getElem?_cons_zero]; rfl) (fun hi => ?_)
          refine wpAnyH_take (v := ?_) hi (by kernel_rfl) (by kernel_rfl) (by kernel_rfl) (fun _ _ _ h => h) (Or.inl ⟨by rfl, ?_⟩) (by assumption) ?_
          rotate_left
          · intro w hSw; (try dsimp only at hSw); go_simp; try (with_reducible rfl)
          clear hi; try simp only [Act.put, List.setIfInBounds_toArray, List.set_cons_zero, List.set_cons_succ]
          refine hand_op (i := 47) (by simp only [List.getElem?_toArray, List.getElem?_cons_succ, List.getElem?_cons_zero]; rfl) (fun hi => ?_)
          refine wpAnyH_take (v := ?_) hi (by kernel_rfl) (by kernel_rfl) (by kernel_rfl) (fun _ _ _ h => h) (Or.inl ⟨by rfl, ?_⟩) (by assumption) ?_
          rotate_left
          · intro w hSw; (try dsimp only at hSw); go_simp; try (with_reducible rfl)
          clear hi; try simp only [Act.put, List.setIfInBounds_toArray, List.set_cons_zero, List.set_cons_succ]
          refine hand_op (i := 48) (by simp only [List.getElem?_toArray, List.getElem?_cons_succ, List.getElem?_cons_zero]; rfl) (fun hi => ?_)
          refine wpAnyH_take (v := ?_) hi (by kernel_rfl) (by kernel_rfl) (by kernel_rfl) (fun _ _ _ h => h) (Or.inl ⟨by rfl, ?_⟩) (by assumption) ?_
          rotate_left
          · intro w hSw; (try dsimp only at hSw); go_simp; try (with_reducible rfl)
          clear hi; try simp only [Act.put, List.setIfInBounds_toArray, List.set_cons_zero, List.set_cons_succ]
          refine hand_op (i := 49) (by simp only [List.getElem?_toArray, List.getElem?_cons_succ, List.getElem?_cons_zero]; rfl) (fun hi => ?_)
          refine wpAnyH_take (v := ?_) hi (by kernel_rfl) (by kernel_rfl) (by kernel_rfl) (fun _ _ _ h => h) (Or.inl ⟨by rfl, ?_⟩) (by assumption) ?_
          rotate_left
          · intro w hSw; (try dsimp only at hSw); go_simp; try (with_reducible rfl)
          clear hi; try simp only [Act.put, List.setIfInBounds_toArray, List.set_cons_zero, List.set_cons_succ]
          refine hand_op (i := 50) (by simp only [List.getElem?_toArray, List.getElem?_cons_succ, List.getElem?_cons_zero]; rfl) (fun hi => ?_)
          refine wpAnyH_take (v := ?_) hi (by kernel_rfl) (by kernel_rfl) (by kernel_rfl) (fun _ _ _ h => h) (Or.inl ⟨by rfl, ?_⟩) (by assumption) ?_
          rotate_left
          · intro w hSw; (try dsimp only at hSw); go_simp; try (with_reducible rfl)
          clear hi; try simp only [Act.put, List.setIfInBounds_toArray, List.set_cons_zero, List.set_cons_succ]
          refine hand_op (i := 51) (by simp only [List.getElem?_toArray, List.getElem?_cons_succ, List.getElem?_cons_zero]; rfl) (fun hi => ?_)
          refine wpAnyH_take (v := ?_) hi (by kernel_rfl) (by kernel_rfl) (by kernel_rfl) (fun _ _ _ h => h) (Or.inl ⟨by rfl, ?_⟩) (by assumption) ?_
          rotate_left
          · intro w hSw; (try dsimp only at hSw); go_simp; try (with_reducible rfl)
          clear hi; try simp only [Act.put, List.setIfInBounds_toArray, List.set_cons_zero, List.set_cons_succ]
          refine hand_op (i := 52) (by simp only [List.getElem?_toArray, List.getElem?_cons_succ, List.getElem?_cons_zero]; rfl) (fun hi => ?_)
          refine wpAnyH_ready (rs := [52]) (by kernel_rfl) (by simp) ?_
          refine AllReadyH.cons hi (fun K hK => ?_) AllReadyH.nil
          go_simp
          (go_at_call 17; (with_reducible refine (lattice_Below.calls 64 t b1 A1 c1 r1 b2 A2 c2 r2 false _ (HROW2.out _ HB26.out).1 HL1.out (HROW2.out _ HB26.out).2.1 HL2.out FAB.out).mono ?_); rintro e w27 ⟨rfl, hb27⟩; have HB27 : Aside0 (Below W17.heap.size W17 w27) := ⟨GL.below_then HB26.out HB26.out.size hb27⟩; clear hb27)
          try (go_wp2_with fail)
          refine hK.out _ _ ?_ (fun hHeld => ?_)
          · (first | exact HS2.out _ HB27.out | exact HS2.out _ HB26.out | exact HS2.out _ HB25.out | exact HS2.out _ HB24.out | exact HS2.out _ HB23.out | exact HS2.out _ HB22.out | exact HS2.out _ HB21.out | exact HS2.out _ HB20.out | exact HS2.out _ HD2.out | exact HS2.out _ (Below.refl _ _) | fail)
          clear hK K hi; try simp only [Act.put, List.setIfInBounds_toArray, List.set_cons_zero, List.set_cons_succ]
          refine hand_op (i := 53) (by simp only [List.getElem?_toArray, List.getElem?_cons_succ, List.getElem?_cons_zero]; rfl) (fun hi => ?_)
          refine wpAnyH_take (v := ?_) hi (by kernel_rfl) (by kernel_rfl) (by kernel_rfl) (fun _ _ _ h => h) (Or.inl ⟨by rfl, ?_⟩) (by assumption) ?_
          rotate_left
          · intro w hSw; (try dsimp only at hSw); go_simp; try (with_reducible rfl)
          clear hi; try simp only [Act.put, List.setIfInBounds_toArray, List.set_cons_zero, List.set_cons_succ]
          refine hand_op (i := 54) (by simp only [List.getElem?_toArray, List.getElem?_cons_succ, List.getElem?_cons_zero]; rfl) (fun hi => ?_)
          refine wpAnyH_take (v := ?_) hi (by kernel_rfl) (by kernel_rfl) (by kernel_rfl) (fun _ _ _ h => h) (Or.inl ⟨by rfl, ?_⟩) (by assumption) ?_
          rotate_left
          · intro w hSw; (try dsimp only at hSw); go_simp; try (with_reducible rfl)
          clear hi; try simp only [Act.put, List.setIfInBounds_toArray, List.set_cons_zero, List.set_cons_succ]
          refine hand_op (i := 55) (by simp only [List.getElem?_toArray, List.getElem?_cons_succ, List.getElem?_cons_zero]; rfl) (fun hi => ?_)
          refine wpAnyH_take (v := undef) hi (by kernel_rfl) (by kernel_rfl) (by kernel_rfl) (fun _ _ _ h => h) (Or.inr ⟨by rfl, rfl⟩) (by assumption) ?_
          clear hi; try simp only [Act.put, List.setIfInBounds_toArray, List.set_cons_zero, List.set_cons_succ]
          refine hand_op (i := 56) (by simp only [List.getElem?_toArray, List.getElem?_cons_succ, List.getElem?_cons_zero]; rfl) (fun hi => ?_)
          refine wpAnyH_take (v := undef) hi (by kernel_rfl) (by kernel_rfl) (by kernel_rfl) (fun _ _ _ h => h) (Or.inr ⟨by rfl, rfl⟩) (by assumption) ?_
          clear hi; try simp only [Act.put, List.setIfInBounds_toArray, List.set_cons_zero, List.set_cons_succ]
          refine hand_op (i := 57) (by simp only [List.getElem?_toArray, List.getElem?_cons_succ, List.getElem?_cons_zero]; rfl) (fun hi => ?_)
          refine wpAnyH_take (v := undef) hi (by kernel_rfl) (by kernel_rfl) (by kernel_rfl) (fun _ _ _ h => h) (Or.inr ⟨by rfl, rfl⟩) (by assumption) ?_
          clear hi; try simp only [Act.put, List.setIfInBounds_toArray, List.set_cons_zero, List.set_cons_succ]
          refine hand_op (i := 58) (by simp only [List.getElem?_toArray, List.getElem?_cons_succ, List.getElem?_cons_zero]; rfl) (fun hi => ?_)
          refine wpAnyH_take (v := undef) hi (by kernel_rfl) (by kernel_rfl) (by kernel_rfl) (fun _ _ _ h => h) (Or.inr ⟨by rfl, rfl⟩) (by assumption) ?_
          clear hi; try simp only [Act.put, List.setIfInBounds_toArray, List.set_cons_zero, List.set_cons_succ]
          refine hand_op (i := 59) (by simp only [List.getElem?_toArray, List.getElem?_cons_succ, List.getElem?_cons_zero]; rfl) (fun hi => ?_)
          refine wpAnyH_take (v := undef) hi (by kernel_rfl) (by kernel_rfl) (by kernel_rfl) (fun _ _ _ h => h) (Or.inr ⟨by rfl, rfl⟩) (by assumption) ?_
          clear hi; try simp only [Act.put, List.setIfInBounds_toArray, List.set_cons_zero, List.set_cons_succ]
          refine hand_op (i := 60) (by simp only [List.getElem?_toArray, List.getElem?_cons_succ, List.getElem?_cons_zero]; rfl) (fun hi => ?_)
          refine wpAnyH_take (v := ?_) hi (by kernel_rfl) (by kernel_rfl) (by kernel_rfl) (fun _ _ _ h => h) (Or.inl ⟨by rfl, ?_⟩) (by assumption) ?_
          rotate_left
          · intro w hSw; (try dsimp only at hSw); go_simp; try (with_reducible rfl)
          clear hi; try simp only [Act.put, List.setIfInBounds_toArray, List.set_cons_zero, List.set_cons_succ]
          refine hand_op (i := 61) (by simp only [List.getElem?_toArray, List.getElem?_cons_succ, List.getElem?_cons_zero]; rfl) (fun hi => ?_)
          refine wpAnyH_take (v := ?_) hi (by kernel_rfl) (by kernel_rfl) (by kernel_rfl) (fun _ _ _ h => h) (Or.inl ⟨by rfl, ?_⟩) (by assumption) ?_
          rotate_left
          · intro w hSw; (try dsimp only at hSw); go_simp; try (with_reducible rfl)
          clear hi; try simp only [Act.put, List.setIfInBounds_toArray, List.set_cons_zero, List.set_cons_succ]
          refine hand_op (i := 62) (by simp only [List.getElem?_toArray, List.getElem?_cons_succ, List.getElem?_cons_zero]; rfl) (fun hi => ?_)
          refine wpAnyH_take (v := undef) hi (by kernel_rfl) (by kernel_rfl) (by kernel_rfl) (fun _ _ _ h => h) (Or.inr ⟨by rfl, rfl⟩) (by assumption) ?_
          clear hi; try simp only [Act.put, List.setIfInBounds_toArray, List.set_cons_zero, List.set_cons_succ]
          refine hand_op (i := 63) (by simp only [List.getElem?_toArray, List.getElem?_cons_succ, List.getElem?_cons_zero]; rfl) (fun hi => ?_)
          refine wpAnyH_take (v := undef) hi (by kernel_rfl) (by kernel_rfl) (by kernel_rfl) (fun _ _ _ h => h) (Or.inr ⟨by rfl, rfl⟩) (by assumption) ?_
          clear hi; try simp only [Act.put, List.setIfInBounds_toArray, List.set_cons_zero, List.set_cons_succ]
          refine hand_op (i := 64) (by simp only [List.getElem?_toArray, List.getElem?_cons_succ, List.getElem?_cons_zero]; rfl) (fun hi => ?_)
          refine wpAnyH_take (v := undef) hi (by kernel_rfl) (by kernel_rfl) (by kernel_rfl) (fun _ _ _ h => h) (Or.inr ⟨by rfl, rfl⟩) (by assumption) ?_
          clear hi; try simp only [Act.put, List.setIfInBounds_toArray, List.set_cons_zero, List.set_cons_succ]
          refine hand_op (i := 65) (by simp only [List.getElem?_toArray, List.getElem?_cons_succ, List.getElem?_cons_zero]; rfl) (fun hi => ?_)
          refine wpAnyH_take (v := undef) hi (by kernel_rfl) (by kernel_rfl) (by kernel_rfl) (fun _ _ _ h => h) (Or.inr ⟨by rfl, rfl⟩) (by assumption) ?_
          clear hi; try simp only [Act.put, List.setIfInBounds_toArray, List.set_cons_zero, List.set_cons_succ]
          refine hand_op (i := 66) (by simp only [List.getElem?_toArray, List.getElem?_cons_succ, List.getElem?_cons_zero]; rfl) (fun hi => ?_)
          refine wpAnyH_take (v := ?_) hi (by kernel_rfl) (by kernel_rfl) (by kernel_rfl) (fun _ _ _ h => h) (Or.inl ⟨by rfl, ?_⟩) (by assumption) ?_
          rotate_left
          · intro w hSw; (try dsimp only at hSw); go_simp; try (with_reducible rfl)
          clear hi; try simp only [Act.put, List.setIfInBounds_toArray, List.set_cons_zero, List.set_cons_succ]
          refine hand_op (i := 67) (by simp only [List.getElem?_toArray, List.getElem?_cons_succ, List.getElem?_cons_zero]; rfl) (fun hi => ?_)
          refine wpAnyH_take (v := ?_) hi (by kernel_rfl) (by kernel_rfl) (by kernel_rfl) (fun _ _ _ h => h) (Or.inl ⟨by rfl, ?_⟩) (by assumption) ?_
          rotate_left
          · intro w hSw; (try dsimp only at hSw); go_simp; try (with_reducible rfl)
          clear hi; try simp only [Act.put, List.setIfInBounds_toArray, List.set_cons_zero, List.set_cons_succ]
          refine hand_op (i := 68) (by simp only [List.getElem?_toArray, List.getElem?_cons_succ, List.getElem?_cons_zero]; rfl) (fun hi => ?_)
          refine wpAnyH_take (v := ?_) hi (by kernel_rfl) (by kernel_rfl) (by kernel_rfl) (fun _ _ _ h => h) (Or.inl ⟨by rfl, ?_⟩) (by assumption) ?_
          rotate_left
          · intro w hSw; (try dsimp only at hSw); go_simp; try (with_reducible rfl)
          clear hi; try simp only [Act.put, List.setIfInBounds_toArray, List.set_cons_zero, List.set_cons_succ]
          refine wpAnyH_done (by kernel_rfl) ?_ _
          all_goals (go_wp2_with fail)
          all_goals go_ret
          all_goals exact ⟨rfl, (HROW2.out _ HB27.out).2.2.2.2.2⟩
       | true =>
       rw [hp] at FAB
       have FAB := Aside0.mk FAB
       cases hr : belowS t b2 r2 b3 r3 with
       | false =>
         rw [hr] at FBC
         have FBC := Aside0.mk FBC
         cases hq : belowS t b2 r2 b1 r1 with
         | false =>
           rw [hq] at FBA2
           have FBA2 := Aside0.mk FBA2
           clear hanti htran FAC FSAB hp hr hq
           as_aux_lemma =>
            refine wp_region_held_drew (S := (fun W' => W'.cell? ⟨w.heap.size, 0, none⟩ = some (.bool b1) ∧ W'.cell? ⟨w.heap.size, 1, none⟩ = some (.slice A1 r1.length c1) ∧ W'.cell? ⟨w.heap.size + 1, 0, none⟩ = some (.bool b2) ∧ W'.cell? ⟨w.heap.size + 1, 1, none⟩ = some (.slice A2 r2.length c2) ∧ W'.cell? ⟨w.heap.size + 1 + 1, 0, none⟩ = some (.bool b3) ∧ W'.cell? ⟨w.heap.size + 1 + 1, 1, none⟩ = some (.slice A3 r3.length c3) ∧ W'.cell? ⟨w5.heap.size, 0, none⟩ = some (.bool bx) ∧ W'.cell? ⟨w5.heap.size, 1, none⟩ = some (.slice Ax rx.length cx) ∧ W'.cell? ⟨w6.heap.size, 0, none⟩ = some (.bool by_) ∧ W'.cell? ⟨w6.heap.size, 1, none⟩ = some (.slice Ay ry.length cy) ∧ W'.cell? ⟨w16.heap.size, 0, none⟩ = some (.bool true) ∧ W'.cell? ⟨w16.heap.size, 1, none⟩ = some (.slice At rt.length ct))) (by kernel_rfl) ?_ (fun hHeld => ?_)
            · (first | exact HS2.out _ HB29.out | exact HS2.out _ HB28.out | exact HS2.out _ HB27.out | exact HS2.out _ HB26.out | exact HS2.out _ HB25.out | exact HS2.out _ HB24.out | exact HS2.out _ HB23.out | exact HS2.out _ HB22.out | exact HS2.out _ HB21.out | exact HS2.out _ HB20.out | exact HS2.out _ HD2.out | exact HS2.out _ (Below.refl _ _) | fail)
            refine hand_op (i := 0) (by simp only [List.getElem?_toArray, List.getElem?_cons_succ, List.getElem?_cons_zero]; rfl) (fun hi => ?_)
            refine wpAnyH_take (v := ?_) hi (by kernel_rfl) (by kernel_rfl) (by kernel_rfl) (fun _ _ _ h => h) (Or.inl ⟨by rfl, ?_⟩) (by assumption) ?_
            rotate_left
            · intro w hSw; (try dsimp only at hSw); go_simp; try (with_reducible rfl)
            clear hi; try simp only [Act.put, List.setIfInBounds_toArray, List.set_cons_zero, List.set_cons_succ]
            refine hand_op (i := 1) (by simp only [List.getElem?_toArray, List.getElem?_cons_succ, List.getElem?_cons_zero]; rfl) (fun hi => ?_)
            refine wpAnyH_take (v := ?_) hi (by kernel_rfl) (by kernel_rfl) (by kernel_rfl) (fun _ _ _ h => h) (Or.inl ⟨by rfl, ?_⟩) (by assumption) ?_
            rotate_left
            · intro w hSw; (try dsimp only at hSw); go_simp; try (with_reducible rfl)
            clear hi; try simp only [Act.put, List.setIfInBounds_toArray, List.set_cons_zero, List.set_cons_succ]
            refine hand_op (i := 2) (by simp only [List.getElem?_toArray, List.getElem?_cons_succ, List.getElem?_cons_zero]; rfl) (fun hi => ?_)
            refine wpAnyH_take (v := ?_) hi (by kernel_rfl) (by kernel_rfl) (by kernel_rfl) (fun _ _ _ h => h) (Or.inl ⟨by rfl, ?_⟩) (by assumption) ?_
            rotate_left
            · intro w hSw; (try dsimp only at hSw); go_simp; try (with_reducible rfl)
            clear hi; try simp only [Act.put, List.setIfInBounds_toArray, List.set_cons_zero, List.set_cons_succ]
            refine hand_op (i := 3) (by simp only [List.getElem?_toArray, List.getElem?_cons_succ, List.getElem?_cons_zero]; rfl) (fun hi => ?_)
            refine wpAnyH_ready (rs := [3]) (by kernel_rfl) (by simp) ?_
            refine AllReadyH.cons hi (fun K hK => ?_) AllReadyH.nil
            go_simp
            (go_at_call 17; (with_reducible refine (lattice_Below.calls 64 t b1 A1 c1 r1 bx Ax cx rx true _ (HROW2.out _ HD2.out).1 HL1.out (HROW2.out _ HD2.out).2.2.2.1 HLX.out B1.out).mono ?_); rintro e w20 ⟨rfl, hb20⟩; have HB20 : Aside0 (Below W17.heap.size W17 w20) := ⟨GL.below_then HD2.out HD2.out.size hb20⟩; clear hb20)
            try (go_wp2_with fail)
            refine hK.out _ _ ?_ (fun hHeld => ?_)
            · (first | exact HS2.out _ HB29.out | exact HS2.out _ HB28.out | exact HS2.out _ HB27.out | exact HS2.out _ HB26.out | exact HS2.out _ HB25.out | exact HS2.out _ HB24.out | exact HS2.out _ HB23.out | exact HS2.out _ HB22.out | exact HS2.out _ HB21.out | exact HS2.out _ HB20.out | exact HS2.out _ HD2.out | exact HS2.out _ (Below.refl _ _) | fail)
            clear hK K hi; try simp only [Act.put, List.setIfInBounds_toArray, List.set_cons_zero, List.set_cons_succ]
            refine hand_op (i := 4) (by simp only [List.getElem?_toArray, List.getElem?_cons_succ, List.getElem?_cons_zero]; rfl) (fun hi => ?_)
            refine wpAnyH_take (v := ?_) hi (by kernel_rfl) (by kernel_rfl) (by kernel_rfl) (fun _ _ _ h => h) (Or.inl ⟨by rfl, ?_⟩) (by assumption) ?_
            rotate_left
            · intro w hSw; (try dsimp only at hSw); go_simp; try (with_reducible rfl)
            clear hi; try simp only [Act.put, List.setIfInBounds_toArray, List.set_cons_zero, List.set_cons_succ]
            refine hand_op (i := 5) (by simp only [List.getElem?_toArray, List.getElem?_cons_succ, List.getElem?_cons_zero]; rfl) (fun hi => ?_)
            refine wpAnyH_take (v := ?_) hi (by kernel_rfl) (by kernel_rfl) (by kernel_rfl) (fun _ _ _ h => h) (Or.inl ⟨by rfl, ?_⟩) (by assumption) ?_
            rotate_left
            · intro w hSw; (try dsimp only at hSw); go_simp; try (with_reducible rfl)
            clear hi; try simp only [Act.put, List.setIfInBounds_toArray, List.set_cons_zero, List.set_cons_succ]
            refine hand_op (i := 6) (by simp only [List.getElem?_toArray, List.getElem?_cons_succ, List.getElem?_cons_zero]; rfl) (fun hi => ?_)
            refine wpAnyH_take (v := ?_) hi (by kernel_rfl) (by kernel_rfl) (by kernel_rfl) (fun _ _ _ h => h) (Or.inl ⟨by rfl, ?_⟩) (by assumption) ?_
            rotate_left
            · intro w hSw; (try dsimp only at hSw); go_simp; try (with_reducible rfl)
            clear hi; try simp only [Act.put, List.setIfInBounds_toArray, List.set_cons_zero, List.set_cons_succ]
            refine hand_op (i := 7) (by simp only [List.getElem?_toArray, List.getElem?_cons_succ, List.getElem?_cons_zero]; rfl) (fun hi => ?_)
            refine wpAnyH_take (v := ?_) hi (by kernel_rfl) (by kernel_rfl) (by kernel_rfl) (fun _ _ _ h => h) (Or.inl ⟨by rfl, ?_⟩) (by assumption) ?_
            rotate_left
            · intro w hSw; (try dsimp only at hSw); go_simp; try (with_reducible rfl)
            clear hi; try simp only [Act.put, List.setIfInBounds_toArray, List.set_cons_zero, List.set_cons_succ]
            refine hand_op (i := 8) (by simp only [List.getElem?_toArray, List.getElem?_cons_succ, List.getElem?_cons_zero]; rfl) (fun hi => ?_)
            refine wpAnyH_ready (rs := [8]) (by kernel_rfl) (by simp) ?_
            refine AllReadyH.cons hi (fun K hK => ?_) AllReadyH.nil
            go_simp
            (go_at_call 17; (with_reducible refine (lattice_Below.calls 64 t b2 A2 c2 r2 bx Ax cx rx true _ (HROW2.out _ HB20.out).2.1 HL2.out (HROW2.out _ HB20.out).2.2.2.1 HLX.out B2.out).mono ?_); rintro e w21 ⟨rfl, hb21⟩; have HB21 : Aside0 (Below W17.heap.size W17 w21) := ⟨GL.below_then HB20.out HB20.out.size hb21⟩; clear hb21)
            try (go_wp2_with fail)
            refine hK.out _ _ ?_ (fun hHeld => ?_)
            · (first | exact HS2.out _ HB29.out | exact HS2.out _ HB28.out | exact HS2.out _ HB27.out | exact HS2.out _ HB26.out | exact HS2.out _ HB25.out | exact HS2.out _ HB24.out | exact HS2.out _ HB23.out | exact HS2.out _ HB22.out | exact HS2.out _ HB21.out | exact HS2.out _ HB20.out | exact HS2.out _ HD2.out | exact HS2.out _ (Below.refl _ _) | fail)
            clear hK K hi; try simp only [Act.put, List.setIfInBounds_toArray, List.set_cons_zero, List.set_cons_succ]
            refine hand_op (i := 9) (by simp only [List.getElem?_toArray, List.getElem?_cons_succ, List.getElem?_cons_zero]; rfl) (fun hi => ?_)
            refine wpAnyH_take (v := ?_) hi (by kernel_rfl) (by kernel_rfl) (by kernel_rfl) (fun _ _ _ h => h) (Or.inl ⟨by rfl, ?_⟩) (by assumption) ?_
            rotate_left
            · intro w hSw; (try dsimp only at hSw); go_simp; try (with_reducible rfl)
            clear hi; try simp only [Act.put, List.setIfInBounds_toArray, List.set_cons_zero, List.set_cons_succ]
            refine hand_op (i := 10) (by simp only [List.getElem?_toArray, List.getElem?_cons_succ, List.getElem?_cons_zero]; rfl) (fun hi => ?_)
            refine wpAnyH_take (v := ?_) hi (by kernel_rfl) (by kernel_rfl) (by kernel_rfl) (fun _ _ _ h => h) (Or.inl ⟨by rfl, ?_⟩) (by assumption) ?_
            rotate_left
            · intro w hSw; (try dsimp only at hSw); go_simp; try (with_reducible rfl)
            clear hi; try simp only [Act.put, List.setIfInBounds_toArray, List.set_cons_zero, List.set_cons_succ]
            refine hand_op (i := 11) (by simp only [List.getElem?_toArray, List.getElem?_cons_succ, List.getElem?_cons_zero]; rfl) (fun hi => ?_)
            refine wpAnyH_take (v := ?_) hi (by kernel_rfl) (by kernel_rfl) (by kernel_rfl) (fun _ _ _ h => h) (Or.inl ⟨by rfl, ?_⟩) (by assumption) ?_
            rotate_left
            · intro w hSw; (try dsimp only at hSw); go_simp; try (with_reducible rfl)
            clear hi; try simp only [Act.put, List.setIfInBounds_toArray, List.set_cons_zero, List.set_cons_succ]
            refine hand_op (i := 12) (by simp only [List.getElem?_toArray, List.getElem?_cons_succ, List.getElem?_cons_zero]; rfl) (fun hi => ?_)
            refine wpAnyH_take (v := ?_) hi (by kernel_rfl) (by kernel_rfl) (by kernel_rfl) (fun _ _ _ h => h) (Or.inl ⟨by rfl, ?_⟩) (by assumption) ?_
            rotate_left
            · intro w hSw; (try dsimp only at hSw); go_simp; try (with_reducible rfl)
            clear hi; try simp only [Act.put, List.setIfInBounds_toArray, List.set_cons_zero, List.set_cons_succ]
            refine hand_op (i := 14) (by simp only [List.getElem?_toArray, List.getElem?_cons_succ, List.getElem?_cons_zero]; rfl) (fun hi => ?_)
            refine wpAnyH_take (v := ?_) hi (by kernel_rfl) (by kernel_rfl) (by kernel_rfl) (fun _ _ _ h => h) (Or.inl ⟨by rfl, ?_⟩) (by assumption) ?_
            rotate_left
            · intro w hSw; (try dsimp only at hSw); go_simp; try (with_reducible rfl)
            clear hi; try simp only [Act.put, List.setIfInBounds_toArray, List.set_cons_zero, List.set_cons_succ]
            refine hand_op (i := 13) (by simp only [List.getElem?_toArray, List.getElem?_cons_succ, List.getElem?_cons_zero]; rfl) (fun hi => ?_)
            refine wpAnyH_ready (rs := [13]) (by kernel_rfl) (by simp) ?_
            refine AllReadyH.cons hi (fun K hK => ?_) AllReadyH.nil
            go_simp
            (go_at_call 18; (with_reducible refine (lattice_Bottom.calls n false [] _ rfl).mono ?_); rintro e w22 ⟨v22, rfl, hr22, hb22⟩; obtain ⟨Ab, cb, rfl⟩ := Kd.R_slice hr22; have HBOT : Aside0 (Kd.C (Kd.int .i64) w22 Ab ([] : List Int).length [] ∧ ([] : List Int).length ≤ cb) := ⟨⟨(Kd.R_reads' hr22).2.2, (Kd.R_reads' hr22).2.1⟩⟩; clear hr22; have HB22 : Aside0 (Below W17.heap.size W17 w22) := ⟨GL.below_then HB21.out HB21.out.size hb22⟩; clear hb22)
            try (go_wp2_with fail)
            refine hK.out _ _ ?_ (fun hHeld => ?_)
            · (first | exact HS2.out _ HB29.out | exact HS2.out _ HB28.out | exact HS2.out _ HB27.out | exact HS2.out _ HB26.out | exact HS2.out _ HB25.out | exact HS2.out _ HB24.out | exact HS2.out _ HB23.out | exact HS2.out _ HB22.out | exact HS2.out _ HB21.out | exact HS2.out _ HB20.out | exact HS2.out _ HD2.out | exact HS2.out _ (Below.refl _ _) | fail)
            clear hK K hi; try simp only [Act.put, List.setIfInBounds_toArray, List.set_cons_zero, List.set_cons_succ]
            refine hand_op (i := 15) (by simp only [List.getElem?_toArray, List.getElem?_cons_succ, List.getElem?_cons_zero]; rfl) (fun hi => ?_)
            refine wpAnyH_ready (rs := [15]) (by kernel_rfl) (by simp) ?_
            refine AllReadyH.cons hi (fun K hK => ?_) AllReadyH.nil
            go_simp
            (go_at_call 17; (with_reducible refine (below_bot t Ab cb b1 A1 c1 r1 _ HBOT.out (HROW2.out _ HB22.out).1 HL1.out B3.out).mono ?_); rintro e w23 ⟨rfl, hb23⟩; have HB23 : Aside0 (Below W17.heap.size W17 w23) := ⟨GL.below_then HB22.out HB22.out.size hb23⟩; clear hb23)
            try (go_wp2_with fail)
            refine hK.out _ _ ?_ (fun hHeld => ?_)
            · (first | exact HS2.out _ HB29.out | exact HS2.out _ HB28.out | exact HS2.out _ HB27.out | exact HS2.out _ HB26.out | exact HS2.out _ HB25.out | exact HS2.out _ HB24.out | exact HS2.out _ HB23.out | exact HS2.out _ HB22.out | exact HS2.out _ HB21.out | exact HS2.out _ HB20.out | exact HS2.out _ HD2.out | exact HS2.out _ (Below.refl _ _) | fail)
            clear hK K hi; try simp only [Act.put, List.setIfInBounds_toArray, List.set_cons_zero, List.set_cons_succ]
            refine hand_op (i := 16) (by simp only [List.getElem?_toArray, List.getElem?_cons_succ, List.getElem?_cons_zero]; rfl) (fun hi => ?_)
            refine wpAnyH_take (v := ?_) hi (by kernel_rfl) (by kernel_rfl) (by kernel_rfl) (fun _ _ _ h => h) (Or.inl ⟨by rfl, ?_⟩) (by assumption) ?_
            rotate_left
            · intro w hSw; (try dsimp only at hSw); go_simp; try (with_reducible rfl)
            clear hi; try simp only [Act.put, List.setIfInBounds_toArray, List.set_cons_zero, List.set_cons_succ]
            refine hand_op (i := 17) (by simp only [List.getElem?_toArray, List.getElem?_cons_succ, List.getElem?_cons_zero]; rfl) (fun hi => ?_)
            refine wpAnyH_take (v := ?_) hi (by kernel_rfl) (by kernel_rfl) (by kernel_rfl) (fun _ _ _ h => h) (Or.inl ⟨by rfl, ?_⟩) (by assumption) ?_
            rotate_left
            · intro w hSw; (try dsimp only at hSw); go_simp; try (with_reducible rfl)
            clear hi; try simp only [Act.put, List.setIfInBounds_toArray, List.set_cons_zero, List.set_cons_succ]
            refine hand_op (i := 18) (by simp only [List.getElem?_toArray, List.getElem?_cons_succ, List.getElem?_cons_zero]; rfl) (fun hi => ?_)
            refine wpAnyH_take (v := ?_) hi (by kernel_rfl) (by kernel_rfl) (by kernel_rfl) (fun _ _ _ h => h) (Or.inl ⟨by rfl, ?_⟩) (by assumption) ?_
            rotate_left
            · intro w hSw; (try dsimp only at hSw); go_simp; try (with_reducible rfl)
            clear hi; try simp only [Act.put, List.setIfInBounds_toArray, List.set_cons_zero, List.set_cons_succ]
            refine hand_op (i := 19) (by simp only [List.getElem?_toArray, List.getElem?_cons_succ, List.getElem?_cons_zero]; rfl) (fun hi => ?_)
            refine wpAnyH_take (v := ?_) hi (by kernel_rfl) (by kernel_rfl) (by kernel_rfl) (fun _ _ _ h => h) (Or.inl ⟨by rfl, ?_⟩) (by assumption) ?_
            rotate_left
            · intro w hSw; (try dsimp only at hSw); go_simp; try (with_reducible rfl)
            clear hi; try simp only [Act.put, List.setIfInBounds_toArray, List.set_cons_zero, List.set_cons_succ]
            refine hand_op (i := 20) (by simp only [List.getElem?_toArray, List.getElem?_cons_succ, List.getElem?_cons_zero]; rfl) (fun hi => ?_)
            refine wpAnyH_take (v := ?_) hi (by kernel_rfl) (by kernel_rfl) (by kernel_rfl) (fun _ _ _ h => h) (Or.inl ⟨by rfl, ?_⟩) (by assumption) ?_
            rotate_left
            · intro w hSw; (try dsimp only at hSw); go_simp; try (with_reducible rfl)
            clear hi; try simp only [Act.put, List.setIfInBounds_toArray, List.set_cons_zero, List.set_cons_succ]
            refine hand_op (i := 21) (by simp only [List.getElem?_toArray, List.getElem?_cons_succ, List.getElem?_cons_zero]; rfl) (fun hi => ?_)
            refine wpAnyH_ready (rs := [21]) (by kernel_rfl) (by simp) ?_
            refine AllReadyH.cons hi (fun K hK => ?_) AllReadyH.nil
            go_simp
            (go_at_call 17; (with_reducible refine (lattice_Below.calls 64 t b1 A1 c1 r1 true At ct rt true _ (HROW2.out _ HB23.out).1 HL1.out (HROW2.out _ HB23.out).2.2.2.2.1 HLT.out B4.out).mono ?_); rintro e w24 ⟨rfl, hb24⟩; have HB24 : Aside0 (Below W17.heap.size W17 w24) := ⟨GL.below_then HB23.out HB23.out.size hb24⟩; clear hb24)
            try (go_wp2_with fail)
            refine hK.out _ _ ?_ (fun hHeld => ?_)
            · (first | exact HS2.out _ HB29.out | exact HS2.out _ HB28.out | exact HS2.out _ HB27.out | exact HS2.out _ HB26.out | exact HS2.out _ HB25.out | exact HS2.out _ HB24.out | exact HS2.out _ HB23.out | exact HS2.out _ HB22.out | exact HS2.out _ HB21.out | exact HS2.out _ HB20.out | exact HS2.out _ HD2.out | exact HS2.out _ (Below.refl _ _) | fail)
            clear hK K hi; try simp only [Act.put, List.setIfInBounds_toArray, List.set_cons_zero, List.set_cons_succ]
            refine hand_op (i := 22) (by simp only [List.getElem?_toArray, List.getElem?_cons_succ, List.getElem?_cons_zero]; rfl) (fun hi => ?_)
            refine wpAnyH_take (v := ?_) hi (by kernel_rfl) (by kernel_rfl) (by kernel_rfl) (fun _ _ _ h => h) (Or.inl ⟨by rfl, ?_⟩) (by assumption) ?_
            rotate_left
            · intro w hSw; (try dsimp only at hSw); go_simp; try (with_reducible rfl)
            clear hi; try simp only [Act.put, List.setIfInBounds_toArray, List.set_cons_zero, List.set_cons_succ]
            refine hand_op (i := 23) (by simp only [List.getElem?_toArray, List.getElem?_cons_succ, List.getElem?_cons_zero]; rfl) (fun hi => ?_)
            refine wpAnyH_take (v := ?_) hi (by kernel_rfl) (by kernel_rfl) (by kernel_rfl) (fun _ _ _ h => h) (Or.inl ⟨by rfl, ?_⟩) (by assumption) ?_
            rotate_left
            · intro w hSw; (try dsimp only at hSw); go_simp; try (with_reducible rfl)
            clear hi; try simp only [Act.put, List.setIfInBounds_toArray, List.set_cons_zero, List.set_cons_succ]
            refine hand_op (i := 24) (by simp only [List.getElem?_toArray, List.getElem?_cons_succ, List.getElem?_cons_zero]; rfl) (fun hi => ?_)
            refine wpAnyH_take (v := ?_) hi (by kernel_rfl) (by kernel_rfl) (by kernel_rfl) (fun _ _ _ h => h) (Or.inl ⟨by rfl, ?_⟩) (by assumption) ?_
            rotate_left
            · intro w hSw; (try dsimp only at hSw); go_simp; try (with_reducible rfl)
            clear hi; try simp only [Act.put, List.setIfInBounds_toArray, List.set_cons_zero, List.set_cons_succ]
            refine hand_op (i := 25) (by simp only [List.getElem?_toArray, List.getElem?_cons_succ, List.getElem?_cons_zero]; rfl) (fun hi => ?_)
            refine wpAnyH_take (v := ?_) hi (by kernel_rfl) (by kernel_rfl) (by kernel_rfl) (fun _ _ _ h => h) (Or.inl ⟨by rfl, ?_⟩) (by assumption) ?_
            rotate_left
            · intro w hSw; (try dsimp only at hSw); go_simp; try (with_reducible rfl)
            clear hi; try simp only [Act.put, List.setIfInBounds_toArray, List.set_cons_zero, List.set_cons_succ]
            refine hand_op (i := 26) (by simp only [List.getElem?_toArray, List.getElem?_cons_succ, List.getElem?_cons_zero]; rfl) (fun hi => ?_)
            refine wpAnyH_take (v := ?_) hi (by kernel_rfl) (by kernel_rfl) (by kernel_rfl) (fun _ _ _ h => h) (Or.inl ⟨by rfl, ?_⟩) (by assumption) ?_
            rotate_left
            · intro w hSw; (try dsimp only at hSw); go_simp; try (with_reducible rfl)
            clear hi; try simp only [Act.put, List.setIfInBounds_toArray, List.set_cons_zero, List.set_cons_succ]
            refine hand_op (i := 27) (by simp only [List.getElem?_toArray, List.getElem?_cons_succ, List.getElem?_cons_zero]; rfl) (fun hi => ?_)
            refine wpAnyH_ready (rs := [27]) (by kernel_rfl) (by simp) ?_
            refine AllReadyH.cons hi (fun K hK => ?_) AllReadyH.nil
            go_simp
            (go_at_call 17; (with_reducible refine (lattice_Below.calls 64 t b1 A1 c1 r1 b1 A1 c1 r1 true _ (HROW2.out _ HB24.out).1 HL1.out (HROW2.out _ HB24.out).1 HL1.out B5.out).mono ?_); rintro e w25 ⟨rfl, hb25⟩; have HB25 : Aside0 (Below W17.heap.size W17 w25) := ⟨GL.below_then HB24.out HB24.out.size hb25⟩; clear hb25)
            try (go_wp2_with fail)
            refine hK.out _ _ ?_ (fun hHeld => ?_)
            · (first | exact HS2.out _ HB29.out | exact HS2.out _ HB28.out | exact HS2.out _ HB27.out | exact HS2.out _ HB26.out | exact HS2.out _ HB25.out | exact HS2.out _ HB24.out | exact HS2.out _ HB23.out | exact HS2.out _ HB22.out | exact HS2.out _ HB21.out | exact HS2.out _ HB20.out | exact HS2.out _ HD2.out | exact HS2.out _ (Below.refl _ _) | fail)
            clear hK K hi; try simp only [Act.put, List.setIfInBounds_toArray, List.set_cons_zero, List.set_cons_succ]
            refine hand_op (i := 28) (by simp only [List.getElem?_toArray, List.getElem?_cons_succ, List.getElem?_cons_zero]; rfl) (fun hi => ?_)
            refine wpAnyH_take (v := ?_) hi (by kernel_rfl) (by kernel_rfl) (by kernel_rfl) (fun _ _ _ h => h) (Or.inl ⟨by rfl, ?_⟩) (by assumption) ?_
            rotate_left
            · intro w hSw; (try dsimp only at hSw); go_simp; try (with_reducible rfl)
            clear hi; try simp only [Act.put, List.setIfInBounds_toArray, List.set_cons_zero, List.set_cons_succ]
            refine hand_op (i := 29) (by simp only [List.getElem?_toArray, List.getElem?_cons_succ, List.getElem?_cons_zero]; rfl) (fun hi => ?_)
            refine wpAnyH_take (v := ?_) hi (by kernel_rfl) (by kernel_rfl) (by kernel_rfl) (fun _ _ _ h => h) (Or.inl ⟨by rfl, ?_⟩) (by assumption) ?_
            rotate_left
            · intro w hSw; (try dsimp only at hSw); go_simp; try (with_reducible rfl)
            clear hi; try simp only [Act.put, List.setIfInBounds_toArray, List.set_cons_zero, List.set_cons_succ]
            refine hand_op (i := 30) (by simp only [List.getElem?_toArray, List.getElem?_cons_succ, List.getElem?_cons_zero]; rfl) (fun hi => ?_)
            refine wpAnyH_take (v := ?_) hi (by kernel_rfl) (by kernel_rfl) (by kernel_rfl) (fun _ _ _ h => h) (Or.inl ⟨by rfl, ?_⟩) (by assumption) ?_
            rotate_left
            · intro w hSw; (try dsimp only at hSw); go_simp; try (with_reducible rfl)
            clear hi; try simp only [Act.put, List.setIfInBounds_toArray, List.set_cons_zero, List.set_cons_succ]
            refine hand_op (i := 31) (by simp only [List.getElem?_toArray, List.getElem?_cons_succ, List.getElem?_cons_zero]; rfl) (fun hi => ?_)
            refine wpAnyH_take (v := ?_) hi (by kernel_rfl) (by kernel_rfl) (by kernel_rfl) (fun _ _ _ h => h) (Or.inl ⟨by rfl, ?_⟩) (by assumption) ?_
            rotate_left
            · intro w hSw; (try dsimp only at hSw); go_simp; try (with_reducible rfl)
            clear hi; try simp only [Act.put, List.setIfInBounds_toArray, List.set_cons_zero, List.set_cons_succ]
            refine hand_op (i := 32) (by simp only [List.getElem?_toArray, List.getElem?_cons_succ, List.getElem?_cons_zero]; rfl) (fun hi => ?_)
            refine wpAnyH_take (v := ?_) hi (by kernel_rfl) (by kernel_rfl) (by kernel_rfl) (fun _ _ _ h => h) (Or.inl ⟨by rfl, ?_⟩) (by assumption) ?_
            rotate_left
            · intro w hSw; (try dsimp only at hSw); go_simp; try (with_reducible rfl)
            clear hi; try simp only [Act.put, List.setIfInBounds_toArray, List.set_cons_zero, List.set_cons_succ]
            refine hand_op (i := 33) (by simp only [List.getElem?_toArray, List.getElem?_cons_succ, List.getElem?_cons_zero]; rfl) (fun hi => ?_)
            refine wpAnyH_ready (rs := [33]) (by kernel_rfl) (by simp) ?_
            refine AllReadyH.cons hi (fun K hK => ?_) AllReadyH.nil
            go_simp
            (go_at_call 17; (with_reducible refine (lattice_Below.calls 64 t b1 A1 c1 r1 b2 A2 c2 r2 true _ (HROW2.out _ HB25.out).1 HL1.out (HROW2.out _ HB25.out).2.1 HL2.out FAB.out).mono ?_); rintro e w26 ⟨rfl, hb26⟩; have HB26 : Aside0 (Below W17.heap.size W17 w26) := ⟨GL.below_then HB25.out HB25.out.size hb26⟩; clear hb26)
            try (go_wp2_with fail)
            refine hK.out _ _ ?_ (fun hHeld => ?_)
            · (first | exact HS2.out _ HB29.out | exact HS2.out _ HB28.out | exact HS2.out _ HB27.out | exact HS2.out _ HB26.out | exact HS2.out _ HB25.out | exact HS2.out _ HB24.out | exact HS2.out _ HB23.out | exact HS2.out _ HB22.out | exact HS2.out _ HB21.out | exact HS2.out _ HB20.out | exact HS2.out _ HD2.out | exact HS2.out _ (Below.refl _ _) | fail)
            clear hK K hi; try simp only [Act.put, List.setIfInBounds_toArray, List.set_cons_zero, List.set_cons_succ]
            refine hand_op (i := 34) (by simp only [List.getElem?_toArray, List.getElem?_cons_succ, List.getElem?_cons_zero]; rfl) (fun hi => ?_)
            refine wpAnyH_take (v := ?_) hi (by kernel_rfl) (by kernel_rfl) (by kernel_rfl) (fun _ _ _ h => h) (Or.inl ⟨by rfl, ?_⟩) (by assumption) ?_
            rotate_left
            · intro w hSw; (try dsimp only at hSw); go_simp; try (with_reducible rfl)
            clear hi; try simp only [Act.put, List.setIfInBounds_toArray, List.set_cons_zero, List.set_cons_succ]
            refine hand_op (i := 35) (by simp only [List.getElem?_toArray, List.getElem?_cons_succ, List.getElem?_cons_zero]; rfl) (fun hi => ?_)
            refine wpAnyH_take (v := ?_) hi (by kernel_rfl) (by kernel_rfl) (by kernel_rfl) (fun _ _ _ h => h) (Or.inl ⟨by rfl, ?_⟩) (by assumption) ?_
            rotate_left
            · intro w hSw; (try dsimp only at hSw); go_simp; try (with_reducible rfl)
            clear hi; try simp only [Act.put, List.setIfInBounds_toArray, List.set_cons_zero, List.set_cons_succ]
            refine hand_op (i := 36) (by simp only [List.getElem?_toArray, List.getElem?_cons_succ, List.getElem?_cons_zero]; rfl) (fun hi => ?_)
            refine wpAnyH_take (v := ?_) hi (by kernel_rfl) (by kernel_rfl) (by kernel_rfl) (fun _ _ _ h => h) (Or.inl ⟨by rfl, ?_⟩) (by assumption) ?_
            rotate_left
            · intro w hSw; (try dsimp only at hSw); go_simp; try (with_reducible rfl)
            clear hi; try simp only [Act.put, List.setIfInBounds_toArray, List.set_cons_zero, List.set_cons_succ]
            refine hand_op (i := 37) (by simp only [List.getElem?_toArray, List.getElem?_cons_succ, List.getElem?_cons_zero]; rfl) (fun hi => ?_)
            refine wpAnyH_take (v := ?_) hi (by kernel_rfl) (by kernel_rfl) (by kernel_rfl) (fun _ _ _ h => h) (Or.inl ⟨by rfl, ?_⟩) (by assumption) ?_
            rotate_left
            · intro w hSw; (try dsimp only at hSw); go_simp; try (with_reducible rfl)
            clear hi; try simp only [Act.put, List.setIfInBounds_toArray, List.set_cons_zero, List.set_cons_succ]
            refine hand_op (i := 38) (by simp only [List.getElem?_toArray, List.getElem?_cons_succ, List.getElem?_cons_zero]; rfl) (fun hi => ?_)
            refine wpAnyH_take (v := ?_) hi (by kernel_rfl) (by kernel_rfl) (by kernel_rfl) (fun _ _ _ h => h) (Or.inl ⟨by rfl, ?_⟩) (by assumption) ?_
            rotate_left
            · intro w hSw; (try dsimp only at hSw); go_simp; try (with_reducible rfl)
            clear hi; try simp only [Act.put, List.setIfInBounds_toArray, List.set_cons_zero, List.set_cons_succ]
            refine hand_op (i := 39) (by simp only [List.getElem?_toArray, List.getElem?_cons_succ, List.getElem?_cons_zero]; rfl) (fun hi => ?_)
            refine wpAnyH_ready (rs := [39]) (by kernel_rfl) (by simp) ?_
            refine AllReadyH.cons hi (fun K hK => ?_) AllReadyH.nil
            go_simp
            (go_at_call 17; (with_reducible refine (lattice_Below.calls 64 t b2 A2 c2 r2 b1 A1 c1 r1 false _ (HROW2.out _ HB26.out).2.1 HL2.out (HROW2.out _ HB26.out).1 HL1.out FBA2.out).mono ?_); rintro e w27 ⟨rfl, hb27⟩; have HB27 : Aside0 (Below W17.heap.size W17 w27) := ⟨GL.below_then HB26.out HB26.out.size hb27⟩; clear hb27)
            try (go_wp2_with fail)
            refine hK.out _ _ ?_ (fun hHeld => ?_)
            · (first | exact HS2.out _ HB29.out | exact HS2.out _ HB28.out | exact HS2.out _ HB27.out | exact HS2.out _ HB26.out | exact HS2.out _ HB25.out | exact HS2.out _ HB24.out | exact HS2.out _ HB23.out | exact HS2.out _ HB22.out | exact HS2.out _ HB21.out | exact HS2.out _ HB20.out | exact HS2.out _ HD2.out | exact HS2.out _ (Below.refl _ _) | fail)
            clear hK K hi; try simp only [Act.put, List.setIfInBounds_toArray, List.set_cons_zero, List.set_cons_succ]
            refine hand_op (i := 40) (by simp only [List.getElem?_toArray, List.getElem?_cons_succ, List.getElem?_cons_zero]; rfl) (fun hi => ?_)
            refine wpAnyH_take (v := ?_) hi (by kernel_rfl) (by kernel_rfl) (by kernel_rfl) (fun _ _ _ h => h) (Or.inl ⟨by rfl, ?_⟩) (by assumption) ?_
            rotate_left
            · intro w hSw; (try dsimp only at hSw); go_simp; try (with_reducible rfl)
            clear hi; try simp only [Act.put, List.setIfInBounds_toArray, List.set_cons_zero, List.set_cons_succ]
            refine hand_op (i := 41) (by simp only [List.getElem?_toArray, List.getElem?_cons_succ, List.getElem?_cons_zero]; rfl) (fun hi => ?_)
            refine wpAnyH_take (v := ?_) hi (by kernel_rfl) (by kernel_rfl) (by kernel_rfl) (fun _ _ _ h => h) (Or.inl ⟨by rfl, ?_⟩) (by assumption) ?_
            rotate_left
            · intro w hSw; (try dsimp only at hSw); go_simp; try (with_reducible rfl)
            clear hi; try simp only [Act.put, List.setIfInBounds_toArray, List.set_cons_zero, List.set_cons_succ]
            refine hand_op (i := 42) (by simp only [List.getElem?_toArray, List.getElem?_cons_succ, List.getElem?_cons_zero]; rfl) (fun hi => ?_)
            refine wpAnyH_take (v := ?_) hi (by kernel_rfl) (by kernel_rfl) (by kernel_rfl) (fun _ _ _ h => h) (Or.inl ⟨by rfl, ?_⟩) (by assumption) ?_
            rotate_left
            · intro w hSw; (try dsimp only at hSw); go_simp; try (with_reducible rfl)
            clear hi; try simp only [Act.put, List.setIfInBounds_toArray, List.set_cons_zero, List.set_cons_succ]
            refine hand_op (i := 43) (by simp only [List.getElem?_toArray, List.getElem?_cons_succ, List.getElem?_cons_zero]; rfl) (fun hi => ?_)
            refine wpAnyH_take (v := undef) hi (by kernel_rfl) (by kernel_rfl) (by kernel_rfl) (fun _ _ _ h => h) (Or.inr ⟨by rfl, rfl⟩) (by assumption) ?_
            clear hi; try simp only [Act.put, List.setIfInBounds_toArray, List.set_cons_zero, List.set_cons_succ]
            refine hand_op (i := 44) (by simp only [List.getElem?_toArray, List.getElem?_cons_succ, List.getElem?_cons_zero]; rfl) (fun hi => ?_)
            refine wpAnyH_take (v := undef) hi (by kernel_rfl) (by kernel_rfl) (by kernel_rfl) (fun _ _ _ h => h) (Or.inr ⟨by rfl, rfl⟩) (by assumption) ?_
            clear hi; try simp only [Act.put, List.setIfInBounds_toArray, List.set_cons_zero, List.set_cons_succ]
            refine hand_op (i := 45) (by simp only [List.getElem?_toArray, List.getElem?_cons_succ, List.getElem?_cons_zero]; rfl) (fun hi => ?_)
            refine wpAnyH_take (v := undef) hi (by kernel_rfl) (by kernel_rfl) (by kernel_rfl) (fun _ _ _ h => h) (Or.inr ⟨by rfl, rfl⟩) (by assumption) ?_
            clear hi; try simp only [Act.put, List.setIfInBounds_toArray, List.set_cons_zero, List.set_cons_succ]
            refine hand_op (i := 46) (by simp only [List.getElem?_toArray, List.getElem?_cons_succ, List.getElem?_cons_zero]; rfl) (fun hi => ?_)
            refine wpAnyH_take (v := ?_) hi (by kernel_rfl) (by kernel_rfl) (by kernel_rfl) (fun _ _ _ h => h) (Or.inl ⟨by rfl, ?_⟩) (by assumption) ?_
            rotate_left
            · intro w hSw; (try dsimp only at hSw); go_simp; try (with_reducible rfl)
            clear hi; try simp only [Act.put, List.setIfInBounds_toArray, List.set_cons_zero, List.set_cons_succ]
            refine hand_op (i := 47) (by simp only [List.getElem?_toArray, List.getElem?_cons_succ, List.getElem?_cons_zero]; rfl) (fun hi => ?_)
            refine wpAnyH_take (v := ?_) hi (by kernel_rfl) (by kernel_rfl) (by kernel_rfl) (fun _ _ _ h => h) (Or.inl ⟨by rfl, ?_⟩) (by assumption) ?_
            rotate_left
            · intro w hSw; (try dsimp only at hSw); go_simp; try (with_reducible rfl)
            clear hi; try simp only [Act.put, List.setIfInBounds_toArray, List.set_cons_zero, List.set_cons_succ]
            refine hand_op (i := 48) (by simp only [List.getElem?_toArray, List.getElem?_cons_succ, List.getElem?_cons_zero]; rfl) (fun hi => ?_)
            refine wpAnyH_take (v := ?_) hi (by kernel_rfl) (by kernel_rfl) (by kernel_rfl) (fun _ _ _ h => h) (Or.inl ⟨by rfl, ?_⟩) (by assumption) ?_
            rotate_left
            · intro w hSw; (try dsimp only at hSw); go_simp; try (with_reducible rfl)
            clear hi; try simp only [Act.put, List.setIfInBounds_toArray, List.set_cons_zero, List.set_cons_succ]
            refine hand_op (i := 49) (by simp only [List.getElem?_toArray, List.getElem?_cons_succ, List.getElem?_cons_zero]; rfl) (fun hi => ?_)
            refine wpAnyH_take (v := ?_) hi (by kernel_rfl) (by kernel_rfl) (by kernel_rfl) (fun _ _ _ h => h) (Or.inl ⟨by rfl, ?_⟩) (by assumption) ?_
            rotate_left
            · intro w hSw; (try dsimp only at hSw); go_simp; try (with_reducible rfl)
            clear hi; try simp only [Act.put, List.setIfInBounds_toArray, List.set_cons_zero, List.set_cons_succ]
            refine hand_op (i := 50) (by simp only [List.getElem?_toArray, List.getElem?_cons_succ, List.getElem?_cons_zero]; rfl) (fun hi => ?_)
            refine wpAnyH_take (v := ?_) hi (by kernel_rfl) (by kernel_rfl) (by kernel_rfl) (fun _ _ _ h => h) (Or.inl ⟨by rfl, ?_⟩) (by assumption) ?_
            rotate_left
            · intro w hSw; (try dsimp only at hSw); go_simp; try (with_reducible rfl)
            clear hi; try simp only [Act.put, List.setIfInBounds_toArray, List.set_cons_zero, List.set_cons_succ]
            refine hand_op (i := 51) (by simp only [List.getElem?_toArray, List.getElem?_cons_succ, List.getElem?_cons_zero]; rfl) (fun hi => ?_)
            refine wpAnyH_take (v := ?_) hi (by kernel_rfl) (by kernel_rfl) (by kernel_rfl) (fun _ _ _ h => h) (Or.inl ⟨by rfl, ?_⟩) (by assumption) ?_
            rotate_left
            · intro w hSw; (try dsimp only at hSw); go_simp; try (with_reducible rfl)
            clear hi; try simp only [Act.put, List.setIfInBounds_toArray, List.set_cons_zero, List.set_cons_succ]
            refine hand_op (i := 52) (by simp only [List.getElem?_toArray, List.getElem?_cons_succ, List.getElem?_cons_zero]; rfl) (fun hi => ?_)
            refine wpAnyH_ready (rs := [52]) (by kernel_rfl) (by simp) ?_
            refine AllReadyH.cons hi (fun K hK => ?_) AllReadyH.nil
            go_simp
            (go_at_call 17; (with_reducible refine (lattice_Below.calls 64 t b1 A1 c1 r1 b2 A2 c2 r2 true _ (HROW2.out _ HB27.out).1 HL1.out (HROW2.out _ HB27.out).2.1 HL2.out FAB.out).mono ?_); rintro e w28 ⟨rfl, hb28⟩; have HB28 : Aside0 (Below W17.heap.size W17 w28) := ⟨GL.below_then HB27.out HB27.out.size hb28⟩; clear hb28)
            try (go_wp2_with fail)
            refine hK.out _ _ ?_ (fun hHeld => ?_)
            · (first | exact HS2.out _ HB29.out | exact HS2.out _ HB28.out | exact HS2.out _ HB27.out | exact HS2.out _ HB26.out | exact HS2.out _ HB25.out | exact HS2.out _ HB24.out | exact HS2.out _ HB23.out | exact HS2.out _ HB22.out | exact HS2.out _ HB21.out | exact HS2.out _ HB20.out | exact HS2.out _ HD2.out | exact HS2.out _ (Below.refl _ _) | fail)
            clear hK K hi; try simp only [Act.put, List.setIfInBounds_toArray, List.set_cons_zero, List.set_cons_succ]
            refine hand_op (i := 53) (by simp only [List.getElem?_toArray, List.getElem?_cons_succ, List.getElem?_cons_zero]; rfl) (fun hi => ?_)
            refine wpAnyH_take (v := ?_) hi (by kernel_rfl) (by kernel_rfl) (by kernel_rfl) (fun _ _ _ h => h) (Or.inl ⟨by rfl, ?_⟩) (by assumption) ?_
            rotate_left
            · intro w hSw; (try dsimp only at hSw); go_simp; try (with_reducible rfl)
            clear hi; try simp only [Act.put, List.setIfInBounds_toArray, List.set_cons_zero, List.set_cons_succ]
            refine hand_op (i := 54) (by simp only [List.getElem?_toArray, List.getElem?_cons_succ, List.getElem?_cons_zero]; rfl) (fun hi => ?_)
            refine wpAnyH_take (v := ?_) hi (by kernel_rfl) (by kernel_rfl) (by kernel_rfl) (fun _ _ _ h => h) (Or.inl ⟨by rfl, ?_⟩) (by assumption) ?_
            rotate_left
            · intro w hSw; (try dsimp only at hSw); go_simp; try (with_reducible rfl)
            clear hi; try simp only [Act.put, List.setIfInBounds_toArray, List.set_cons_zero, List.set_cons_succ]
            refine hand_op (i := 55) (by simp only [List.getElem?_toArray, List.getElem?_cons_succ, List.getElem?_cons_zero]; rfl) (fun hi => ?_)
            refine wpAnyH_take (v := ?_) hi (by kernel_rfl) (by kernel_rfl) (by kernel_rfl) (fun _ _ _ h => h) (Or.inl ⟨by rfl, ?_⟩) (by assumption) ?_
            rotate_left
            · intro w hSw; (try dsimp only at hSw); go_simp; try (with_reducible rfl)
            clear hi; try simp only [Act.put, List.setIfInBounds_toArray, List.set_cons_zero, List.set_cons_succ]
            refine hand_op (i := 56) (by simp only [List.getElem?_toArray, List.getElem?_cons_succ, List.getElem?_cons_zero]; rfl) (fun hi => ?_)
            refine wpAnyH_take (v := ?_) hi (by kernel_rfl) (by kernel_rfl) (by kernel_rfl) (fun _ _ _ h => h) (Or.inl ⟨by rfl, ?_⟩) (by assumption) ?_
            rotate_left
            · intro w hSw; (try dsimp only at hSw); go_simp; try (with_reducible rfl)
            clear hi; try simp only [Act.put, List.setIfInBounds_toArray, List.set_cons_zero, List.set_cons_succ]
            refine hand_op (i := 57) (by simp only [List.getElem?_toArray, List.getElem?_cons_succ, List.getElem?_cons_zero]; rfl) (fun hi => ?_)
            refine wpAnyH_take (v := ?_) hi (by kernel_rfl) (by kernel_rfl) (by kernel_rfl) (fun _ _ _ h => h) (Or.inl ⟨by rfl, ?_⟩) (by assumption) ?_
            rotate_left
            · intro w hSw; (try dsimp only at hSw); go_simp; try (with_reducible rfl)
            clear hi; try simp only [Act.put, List.setIfInBounds_toArray, List.set_cons_zero, List.set_cons_succ]
            refine hand_op (i := 58) (by simp only [List.getElem?_toArray, List.getElem?_cons_succ, List.getElem?_cons_zero]; rfl) (fun hi => ?_)
            refine wpAnyH_ready (rs := [58]) (by kernel_rfl) (by simp) ?_
            refine AllReadyH.cons hi (fun K hK => ?_) AllReadyH.nil
            go_simp
            (go_at_call 17; (with_reducible refine (lattice_Below.calls 64 t b2 A2 c2 r2 b3 A3 c3 r3 false _ (HROW2.out _ HB28.out).2.1 HL2.out (HROW2.out _ HB28.out).2.2.1 HL3.out FBC.out).mono ?_); rintro e w29 ⟨rfl, hb29⟩; have HB29 : Aside0 (Below W17.heap.size W17 w29) := ⟨GL.below_then HB28.out HB28.out.size hb29⟩; clear hb29)
            try (go_wp2_with fail)
            refine hK.out _ _ ?_ (fun hHeld => ?_)
            · (first | exact HS2.out _ HB29.out | exact HS2.out _ HB28.out | exact HS2.out _ HB27.out | exact HS2.out _ HB26.out | exact HS2.out _ HB25.out | exact HS2.out _ HB24.out | exact HS2.out _ HB23.out | exact HS2.out _ HB22.out | exact HS2.out _ HB21.out | exact HS2.out _ HB20.out | exact HS2.out _ HD2.out | exact HS2.out _ (Below.refl _ _) | fail)
            clear hK K hi; try simp only [Act.put, List.setIfInBounds_toArray, List.set_cons_zero, List.set_cons_succ]
            refine hand_op (i := 59) (by simp only [List.getElem?_toArray, List.getElem?_cons_succ, List.getElem?_cons_zero]; rfl) (fun hi => ?_)
            refine wpAnyH_take (v := ?_) hi (by kernel_rfl) (by kernel_rfl) (by kernel_rfl) (fun _ _ _ h => h) (Or.inl ⟨by rfl, ?_⟩) (by assumption) ?_
            rotate_left
            · intro w hSw; (try dsimp only at hSw); go_simp; try (with_reducible rfl)
            clear hi; try simp only [Act.put, List.setIfInBounds_toArray, List.set_cons_zero, List.set_cons_succ]
            refine hand_op (i := 60) (by simp only [List.getElem?_toArray, List.getElem?_cons_succ, List.getElem?_cons_zero]; rfl) (fun hi => ?_)
            refine wpAnyH_take (v := ?_) hi (by kernel_rfl) (by kernel_rfl) (by kernel_rfl) (fun _ _ _ h => h) (Or.inl ⟨by rfl, ?_⟩) (by assumption) ?_
            rotate_left
            · intro w hSw; (try dsimp only at hSw); go_simp; try (with_reducible rfl)
            clear hi; try simp only [Act.put, List.setIfInBounds_toArray, List.set_cons_zero, List.set_cons_succ]
            refine hand_op (i := 61) (by simp only [List.getElem?_toArray, List.getElem?_cons_succ, List.getElem?_cons_zero]; rfl) (fun hi => ?_)
            refine wpAnyH_take (v := ?_) hi (by kernel_rfl) (by kernel_rfl) (by kernel_rfl) (fun _ _ _ h => h) (Or.inl ⟨by rfl, ?_⟩) (by assumption) ?_
            rotate_left
            · intro w hSw; (try dsimp only at hSw); go_simp; try (with_reducible rfl)
            clear hi; try simp only [Act.put, List.setIfInBounds_toArray, List.set_cons_zero, List.set_cons_succ]
            refine hand_op (i := 62) (by simp only [List.getElem?_toArray, List.getElem?_cons_succ, List.getElem?_cons_zero]; rfl) (fun hi => ?_)
            refine wpAnyH_take (v := undef) hi (by kernel_rfl) (by kernel_rfl) (by kernel_rfl) (fun _ _ _ h => h) (Or.inr ⟨by rfl, rfl⟩) (by assumption) ?_
            clear hi; try simp only [Act.put, List.setIfInBounds_toArray, List.set_cons_zero, List.set_cons_succ]
            refine hand_op (i := 63) (by simp only [List.getElem?_toArray, List.getElem?_cons_succ, List.getElem?_cons_zero]; rfl) (fun hi => ?_)
            refine wpAnyH_take (v := undef) hi (by kernel_rfl) (by kernel_rfl) (by kernel_rfl) (fun _ _ _ h => h) (Or.inr ⟨by rfl, rfl⟩) (by assumption) ?_
            clear hi; try simp only [Act.put, List.setIfInBounds_toArray, List.set_cons_zero, List.set_cons_succ]
            refine hand_op (i := 64) (by simp only [List.getElem?_toArray, List.getElem?_cons_succ, List.getElem?_cons_zero]; rfl) (fun hi => ?_)
            refine wpAnyH_take (v := undef) hi (by kernel_rfl) (by kernel_rfl) (by kernel_rfl) (fun _ _ _ h => h) (Or.inr ⟨by rfl, rfl⟩) (by assumption) ?_
            clear hi; try simp only [Act.put, List.setIfInBounds_toArray, List.set_cons_zero, List.set_cons_succ]
            refine hand_op (i := 65) (by simp only [List.getElem?_toArray, List.getElem?_cons_succ, List.getElem?_cons_zero]; rfl) (fun hi => ?_)
            refine wpAnyH_take (v := undef) hi (by kernel_rfl) (by kernel_rfl) (by kernel_rfl) (fun _ _ _ h => h) (Or.inr ⟨by rfl, rfl⟩) (by assumption) ?_
            clear hi; try simp only [Act.put, List.setIfInBounds_toArray, List.set_cons_zero, List.set_cons_succ]
            refine hand_op (i := 66) (by simp only [List.getElem?_toArray, List.getElem?_cons_succ, List.getElem?_cons_zero]; rfl) (fun hi => ?_)
            refine wpAnyH_take (v := ?_) hi (by kernel_rfl) (by kernel_rfl) (by kernel_rfl) (fun _ _ _ h => h) (Or.inl ⟨by rfl, ?_⟩) (by assumption) ?_
            rotate_left
            · intro w hSw; (try dsimp only at hSw); go_simp; try (with_reducible rfl)
            clear hi; try simp only [Act.put, List.setIfInBounds_toArray, List.set_cons_zero, List.set_cons_succ]
            refine hand_op (i := 67) (by simp only [List.getElem?_toArray, List.getElem?_cons_succ, List.getElem?_cons_zero]; rfl) (fun hi => ?_)
            refine wpAnyH_take (v := ?_) hi (by kernel_rfl) (by kernel_rfl) (by kernel_rfl) (fun _ _ _ h => h) (Or.inl ⟨by rfl, ?_⟩) (by assumption) ?_
            rotate_left
            · intro w hSw; (try dsimp only at hSw); go_simp; try (with_reducible rfl)
            clear hi; try simp only [Act.put, List.setIfInBounds_toArray, List.set_cons_zero, List.set_cons_succ]
            refine hand_op (i := 68) (by simp only [List.getElem?_toArray, List.getElem?_cons_succ, List.getElem?_cons_zero]; rfl) (fun hi => ?_)
            refine wpAnyH_take (v := ?_) hi (by kernel_rfl) (by kernel_rfl) (by kernel_rfl) (fun _ _ _ h => h) (Or.inl ⟨by rfl, ?_⟩) (by assumption) ?_
            rotate_left
            · intro w hSw; (try dsimp only at hSw); go_simp; try (with_reducible rfl)
            clear hi; try simp only [Act.put, List.setIfInBounds_toArray, List.set_cons_zero, List.set_cons_succ]
            refine wpAnyH_done (by kernel_rfl) ?_ _
            all_goals (go_wp2_with fail)
            all_goals go_ret
            all_goals exact ⟨rfl, (HROW2.out _ HB29.out).2.2.2.2.2⟩
         | true =>
           rw [hq] at FBA2
           rw [hanti hp hq] at FSAB
           have FBA2 := Aside0.mk FBA2
           have FSAB := Aside0.mk FSAB
           clear hanti htran FAC hp hr hq
           as_aux_lemma =>
            refine wp_region_held_drew (S := (fun W' => W'.cell? ⟨w.heap.size, 0, none⟩ = some (.bool b1) ∧ W'.cell? ⟨w.heap.size, 1, none⟩ = some (.slice A1 r1.length c1) ∧ W'.cell? ⟨w.heap.size + 1, 0, none⟩ = some (.bool b2) ∧ W'.cell? ⟨w.heap.size + 1, 1, none⟩ = some (.slice A2 r2.length c2) ∧ W'.cell? ⟨w.heap.size + 1 + 1, 0, none⟩ = some (.bool b3) ∧ W'.cell? ⟨w.heap.size + 1 + 1, 1, none⟩ = some (.slice A3 r3.length c3) ∧ W'.cell? ⟨w5.heap.size, 0, none⟩ = some (.bool bx) ∧ W'.cell? ⟨w5.heap.size, 1, none⟩ = some (.slice Ax rx.length cx) ∧ W'.cell? ⟨w6.heap.size, 0, none⟩ = some (.bool by_) ∧ W'.cell? ⟨w6.heap.size, 1, none⟩ = some (.slice Ay ry.length cy) ∧ W'.cell? ⟨w16.heap.size, 0, none⟩ = some (.bool true) ∧ W'.cell? ⟨w16.heap.size, 1, none⟩ = some (.slice At rt.length ct))) (by kernel_rfl) ?_ (fun hHeld => ?_)
            · (first | exact HS2.out _ HB30.out | exact HS2.out _ HB29.out | exact HS2.out _ HB28.out | exact HS2.out _ HB27.out | exact HS2.out _ HB26.out | exact HS2.out _ HB25.out | exact HS2.out _ HB24.out | exact HS2.out _ HB23.out | exact HS2.out _ HB22.out | exact HS2.out _ HB21.out | exact HS2.out _ HB20.out | exact HS2.out _ HD2.out | exact HS2.out _ (Below.refl _ _) | fail)
            refine hand_op (i := 0) (by simp only [List.getElem?_toArray, List.getElem?_cons_succ, List.getElem?_cons_zero]; rfl) (fun hi => ?_)
            refine wpAnyH_take (v := ?_) hi (by kernel_rfl) (by kernel_rfl) (by kernel_rfl) (fun _ _ _ h => h) (Or.inl ⟨by rfl, ?_⟩) (by assumption) ?_
            rotate_left
            · intro w hSw; (try dsimp only at hSw); go_simp; try (with_reducible rfl)
            clear hi; try simp only [Act.put, List.setIfInBounds_toArray, List.set_cons_zero, List.set_cons_succ]
            refine hand_op (i := 1) (by simp only [List.getElem?_toArray, List.getElem?_cons_succ, List.getElem?_cons_zero]; rfl) (fun hi => ?_)
            refine wpAnyH_take (v := ?_) hi (by kernel_rfl) (by kernel_rfl) (by kernel_rfl) (fun _ _ _ h => h) (Or.inl ⟨by rfl, ?_⟩) (by assumption) ?_
            rotate_left
            · intro w hSw; (try dsimp only at hSw); go_simp; try (with_reducible rfl)
            clear hi; try simp only [Act.put, List.setIfInBounds_toArray, List.set_cons_zero, List.set_cons_succ]
            refine hand_op (i := 2) (by simp only [List.getElem?_toArray, List.getElem?_cons_succ, List.getElem?_cons_zero]; rfl) (fun hi => ?_)
            refine wpAnyH_take (v := ?_) hi (by kernel_rfl) (by kernel_rfl) (by kernel_rfl) (fun _ _ _ h => h) (Or.inl ⟨by rfl, ?_⟩) (by assumption) ?_
            rotate_left
            · intro w hSw; (try dsimp only at hSw); go_simp; try (with_reducible rfl)
            clear hi; try simp only [Act.put, List.setIfInBounds_toArray, List.set_cons_zero, List.set_cons_succ]
            refine hand_op (i := 3) (by simp only [List.getElem?_toArray, List.getElem?_cons_succ, List.getElem?_cons_zero]; rfl) (fun hi => ?_)
            refine wpAnyH_ready (rs := [3]) (by kernel_rfl) (by simp) ?_
            refine AllReadyH.cons hi (fun K hK => ?_) AllReadyH.nil
            go_simp
            (go_at_call 17; (with_reducible refine (lattice_Below.calls 64 t b1 A1 c1 r1 bx Ax cx rx true _ (HROW2.out _ HD2.out).1 HL1.out (HROW2.out _ HD2.out).2.2.2.1 HLX.out B1.out).mono ?_); rintro e w20 ⟨rfl, hb20⟩; have HB20 : Aside0 (Below W17.heap.size W17 w20) := ⟨GL.below_then HD2.out HD2.out.size hb20⟩; clear hb20)
            try (go_wp2_with fail)
            refine hK.out _ _ ?_ (fun hHeld => ?_)
            · (first | exact HS2.out _ HB30.out | exact HS2.out _ HB29.out | exact HS2.out _ HB28.out | exact HS2.out _ HB27.out | exact HS2.out _ HB26.out | exact HS2.out _ HB25.out | exact HS2.out _ HB24.out | exact HS2.out _ HB23.out | exact HS2.out _ HB22.out | exact HS2.out _ HB21.out | exact HS2.out _ HB20.out | exact HS2.out _ HD2.out | exact HS2.out _ (Below.refl _ _) | fail)
            clear hK K hi; try simp only [Act.put, List.setIfInBounds_toArray, List.set_cons_zero, List.set_cons_succ]
            refine hand_op (i := 4) (by simp only [List.getElem?_toArray, List.getElem?_cons_succ, List.getElem?_cons_zero]; rfl) (fun hi => ?_)
            refine wpAnyH_take (v := ?_) hi (by kernel_rfl) (by kernel_rfl) (by kernel_rfl) (fun _ _ _ h => h) (Or.inl ⟨by rfl, ?_⟩) (by assumption) ?_
            rotate_left
            · intro w hSw; (try dsimp only at hSw); go_simp; try (with_reducible rfl)
            clear hi; try simp only [Act.put, List.setIfInBounds_toArray, List.set_cons_zero, List.set_cons_succ]
            refine hand_op (i := 5) (by simp only [List.getElem?_toArray, List.getElem?_cons_succ, List.getElem?_cons_zero]; rfl) (fun hi => ?_)
            refine wpAnyH_take (v := ?_) hi (by kernel_rfl) (by kernel_rfl) (by kernel_rfl) (fun _ _ _ h => h) (Or.inl ⟨by rfl, ?_⟩) (by assumption) ?_
            rotate_left
            · intro w hSw; (try dsimp only at hSw); go_simp; try (with_reducible rfl)
            clear hi; try simp only [Act.put, List.setIfInBounds_toArray, List.set_cons_zero, List.set_cons_succ]
            refine hand_op (i := 6) (by simp only [List.getElem?_toArray, List.getElem?_cons_succ, List.getElem?_cons_zero]; rfl) (fun hi => ?_)
            refine wpAnyH_take (v := ?_) hi (by kernel_rfl) (by kernel_rfl) (by kernel_rfl) (fun _ _ _ h => h) (Or.inl ⟨by rfl, ?_⟩) (by assumption) ?_
            rotate_left
            · intro w hSw; (try dsimp only at hSw); go_simp; try (with_reducible rfl)
            clear hi; try simp only [Act.put, List.setIfInBounds_toArray, List.set_cons_zero, List.set_cons_succ]
            refine hand_op (i := 7) (by simp only [List.getElem?_toArray, List.getElem?_cons_succ, List.getElem?_cons_zero]; rfl) (fun hi => ?_)
            refine wpAnyH_take (v := ?_) hi (by kernel_rfl) (by kernel_rfl) (by kernel_rfl) (fun _ _ _ h => h) (Or.inl ⟨by rfl, ?_⟩) (by assumption) ?_
            rotate_left
            · intro w hSw; (try dsimp only at hSw); go_simp; try (with_reducible rfl)
            clear hi; try simp only [Act.put, List.setIfInBounds_toArray, List.set_cons_zero, List.set_cons_succ]
            refine hand_op (i := 8) (by simp only [List.getElem?_toArray, List.getElem?_cons_succ, List.getElem?_cons_zero]; rfl) (fun hi => ?_)
            refine wpAnyH_ready (rs := [8]) (by kernel_rfl) (by simp) ?_
            refine AllReadyH.cons hi (fun K hK => ?_) AllReadyH.nil
            go_simp
            (go_at_call 17; (with_reducible refine (lattice_Below.calls 64 t b2 A2 c2 r2 bx Ax cx rx true _ (HROW2.out _ HB20.out).2.1 HL2.out (HROW2.out _ HB20.out).2.2.2.1 HLX.out B2.out).mono ?_); rintro e w21 ⟨rfl, hb21⟩; have HB21 : Aside0 (Below W17.heap.size W17 w21) := ⟨GL.below_then HB20.out HB20.out.size hb21⟩; clear hb21)
            try (go_wp2_with fail)
            refine hK.out _ _ ?_ (fun hHeld => ?_)
            · (first | exact HS2.out _ HB30.out | exact HS2.out _ HB29.out | exact HS2.out _ HB28.out | exact HS2.out _ HB27.out | exact HS2.out _ HB26.out | exact HS2.out _ HB25.out | exact HS2.out _ HB24.out | exact HS2.out _ HB23.out | exact HS2.out _ HB22.out | exact HS2.out _ HB21.out | exact HS2.out _ HB20.out | exact HS2.out _ HD2.out | exact HS2.out _ (Below.refl _ _) | fail)
            clear hK K hi; try simp only [Act.put, List.setIfInBounds_toArray, List.set_cons_zero, List.set_cons_succ]
            refine hand_op (i := 9) (by simp only [List.getElem?_toArray, List.getElem?_cons_succ, List.getElem?_cons_zero]; rfl) (fun hi => ?_)
            refine wpAnyH_take (v := ?_) hi (by kernel_rfl) (by kernel_rfl) (by kernel_rfl) (fun _ _ _ h => h) (Or.inl ⟨by rfl, ?_⟩) (by assumption) ?_
            rotate_left
            · intro w hSw; (try dsimp only at hSw); go_simp; try (with_reducible rfl)
            clear hi; try simp only [Act.put, List.setIfInBounds_toArray, List.set_cons_zero, List.set_cons_succ]
            refine hand_op (i := 10) (by simp only [List.getElem?_toArray, List.getElem?_cons_succ, List.getElem?_cons_zero]; rfl) (fun hi => ?_)
            refine wpAnyH_take (v := ?_) hi (by kernel_rfl) (by kernel_rfl) (by kernel_rfl) (fun _ _ _ h => h) (Or.inl ⟨by rfl, ?_⟩) (by assumption) ?_
            rotate_left
            · intro w hSw; (try dsimp only at hSw); go_simp; try (with_reducible rfl)
            clear hi; try simp only [Act.put, List.setIfInBounds_toArray, List.set_cons_zero, List.set_cons_succ]
            refine hand_op (i := 11) (by simp only [List.getElem?_toArray, List.getElem?_cons_succ, List.getElem?_cons_zero]; rfl) (fun hi => ?_)
            refine wpAnyH_take (v := ?_) hi (by kernel_rfl) (by kernel_rfl) (by kernel_rfl) (fun _ _ _ h => h) (Or.inl ⟨by rfl, ?_⟩) (by assumption) ?_
            rotate_left
            · intro w hSw; (try dsimp only at hSw); go_simp; try (with_reducible rfl)
            clear hi; try simp only [Act.put, List.setIfInBounds_toArray, List.set_cons_zero, List.set_cons_succ]
            refine hand_op (i := 12) (by simp only [List.getElem?_toArray, List.getElem?_cons_succ, List.getElem?_cons_zero]; rfl) (fun hi => ?_)
            refine wpAnyH_take (v := ?_) hi (by kernel_rfl) (by kernel_rfl) (by kernel_rfl) (fun _ _ _ h => h) (Or.inl ⟨by rfl, ?_⟩) (by assumption) ?_
            rotate_left
            · intro w hSw; (try dsimp only at hSw); go_simp; try (with_reducible rfl)
            clear hi; try simp only [Act.put, List.setIfInBounds_toArray, List.set_cons_zero, List.set_cons_succ]
            refine hand_op (i := 14) (by simp only [List.getElem?_toArray, List.getElem?_cons_succ, List.getElem?_cons_zero]; rfl) (fun hi => ?_)
            refine wpAnyH_take (v := ?_) hi (by kernel_rfl) (by kernel_rfl) (by kernel_rfl) (fun _ _ _ h => h) (Or.inl ⟨by rfl, ?_⟩) (by assumption) ?_
            rotate_left
            · intro w hSw; (try dsimp only at hSw); go_simp; try (with_reducible rfl)
            clear hi; try simp only [Act.put, List.setIfInBounds_toArray, List.set_cons_zero, List.set_cons_succ]
            refine hand_op (i := 13) (by simp only [List.getElem?_toArray, List.getElem?_cons_succ, List.getElem?_cons_zero]; rfl) (fun hi => ?_)
            refine wpAnyH_ready (rs := [13]) (by kernel_rfl) (by simp) ?_
            refine AllReadyH.cons hi (fun K hK => ?_) AllReadyH.nil
            go_simp
            (go_at_call 18; (with_reducible refine (lattice_Bottom.calls n false [] _ rfl).mono ?_); rintro e w22 ⟨v22, rfl, hr22, hb22⟩; obtain ⟨Ab, cb, rfl⟩ := Kd.R_slice hr22; have HBOT : Aside0 (Kd.C (Kd.int .i64) w22 Ab ([] : List Int).length [] ∧ ([] : List Int).length ≤ cb) := ⟨⟨(Kd.R_reads' hr22).2.2, (Kd.R_reads' hr22).2.1⟩⟩; clear hr22; have HB22 : Aside0 (Below W17.heap.size W17 w22) := ⟨GL.below_then HB21.out HB21.out.size hb22⟩; clear hb22)
            try (go_wp2_with fail)
            refine hK.out _ _ ?_ (fun hHeld => ?_)
            · (first | exact HS2.out _ HB30.out | exact HS2.out _ HB29.out | exact HS2.out _ HB28.out | exact HS2.out _ HB27.out | exact HS2.out _ HB26.out | exact HS2.out _ HB25.out | exact HS2.out _ HB24.out | exact HS2.out _ HB23.out | exact HS2.out _ HB22.out | exact HS2.out _ HB21.out | exact HS2.out _ HB20.out | exact HS2.out _ HD2.out | exact HS2.out _ (Below.refl _ _) | fail)
            clear hK K hi; try simp only [Act.put, List.setIfInBounds_toArray, List.set_cons_zero, List.set_cons_succ]
            refine hand_op (i := 15) (by simp only [List.getElem?_toArray, List.getElem?_cons_succ, List.getElem?_cons_zero]; rfl) (fun hi => ?_)
            refine wpAnyH_ready (rs := [15]) (by kernel_rfl) (by simp) ?_
            refine AllReadyH.cons hi (fun K hK => ?_) AllReadyH.nil
            go_simp
            (go_at_call 17; (with_reducible refine (below_bot t Ab cb b1 A1 c1 r1 _ HBOT.out (HROW2.out _ HB22.out).1 HL1.out B3.out).mono ?_); rintro e w23 ⟨rfl, hb23⟩; have HB23 : Aside0 (Below W17.heap.size W17 w23) := ⟨GL.below_then HB22.out HB22.out.size hb23⟩; clear hb23)
            try (go_wp2_with fail)
            refine hK.out _ _ ?_ (fun hHeld => ?_)
            · (first | exact HS2.out _ HB30.out | exact HS2.out _ HB29.out | exact HS2.out _ HB28.out | exact HS2.out _ HB27.out | exact HS2.out _ HB26.out | exact HS2.out _ HB25.out | exact HS2.out _ HB24.out | exact HS2.out _ HB23.out | exact HS2.out _ HB22.out | exact HS2.out _ HB21.out | exact HS2.out _ HB20.out | exact HS2.out _ HD2.out | exact HS2.out _ (Below.refl _ _) | fail)
            clear hK K hi; try simp only [Act.put, List.setIfInBounds_toArray, List.set_cons_zero, List.set_cons_succ]
            refine hand_op (i := 16) (by simp only [List.getElem?_toArray, List.getElem?_cons_succ, List.getElem?_cons_zero]; rfl) (fun hi => ?_)
            refine wpAnyH_take (v := ?_) hi (by kernel_rfl) (by kernel_rfl) (by kernel_rfl) (fun _ _ _ h => h) (Or.inl ⟨by rfl, ?_⟩) (by assumption) ?_
            rotate_left
            · intro w hSw; (try dsimp only at hSw); go_simp; try (with_reducible rfl)
            clear hi; try simp only [Act.put, List.setIfInBounds_toArray, List.set_cons_zero, List.set_cons_succ]
            refine hand_op (i := 17) (by simp only [List.getElem?_toArray, List.getElem?_cons_succ, List.getElem?_cons_zero]; rfl) (fun hi => ?_)
            refine wpAnyH_take (v := ?_) hi (by kernel_rfl) (by kernel_rfl) (by kernel_rfl) (fun _ _ _ h => h) (Or.inl ⟨by rfl, ?_⟩) (by assumption) ?_
            rotate_left
            · intro w hSw; (try dsimp only at hSw); go_simp; try (with_reducible rfl)
            clear hi; try simp only [Act.put, List.setIfInBounds_toArray, List.set_cons_zero, List.set_cons_succ]
            refine hand_op (i := 18) (by simp only [List.getElem?_toArray, List.getElem?_cons_succ, List.getElem?_cons_zero]; rfl) (fun hi => ?_)
            refine wpAnyH_take (v := ?_) hi (by kernel_rfl) (by kernel_rfl) (by kernel_rfl) (fun _ _ _ h => h) (Or.inl ⟨by rfl, ?_⟩) (by assumption) ?_
            rotate_left
            · intro w hSw; (try dsimp only at hSw); go_simp; try (with_reducible rfl)
            clear hi; try simp only [Act.put, List.setIfInBounds_toArray, List.set_cons_zero, List.set_cons_succ]
            refine hand_op (i := 19) (by simp only [List.getElem?_toArray, List.getElem?_cons_succ, List.getElem?_cons_zero]; rfl) (fun hi => ?_)
            refine wpAnyH_take (v := ?_) hi (by kernel_rfl) (by kernel_rfl) (by kernel_rfl) (fun _ _ _ h => h) (Or.inl ⟨by rfl, ?_⟩) (by assumption) ?_
            rotate_left
            · intro w hSw; (try dsimp only at hSw); go_simp; try (with_reducible rfl)
            clear hi; try simp only [Act.put, List.setIfInBounds_toArray, List.set_cons_zero, List.set_cons_succ]
            refine hand_op (i := 20) (by simp only [List.getElem?_toArray, List.getElem?_cons_succ, List.getElem?_cons_zero]; rfl) (fun hi => ?_)
            refine wpAnyH_take (v := ?_) hi (by kernel_rfl) (by kernel_rfl) (by kernel_rfl) (fun _ _ _ h => h) (Or.inl ⟨by rfl, ?_⟩) (by assumption) ?_
            rotate_left
            · intro w hSw; (try dsimp only at hSw); go_simp; try (with_reducible rfl)
            clear hi; try simp only [Act.put, List.setIfInBounds_toArray, List.set_cons_zero, List.set_cons_succ]
            refine hand_op (i := 21) (by simp only [List.getElem?_toArray, List.getElem?_cons_succ, List.getElem?_cons_zero]; rfl) (fun hi => ?_)
            refine wpAnyH_ready (rs := [21]) (by kernel_rfl) (by simp) ?_
            refine AllReadyH.cons hi (fun K hK => ?_) AllReadyH.nil
            go_simp
            (go_at_call 17; (with_reducible refine (lattice_Below.calls 64 t b1 A1 c1 r1 true At ct rt true _ (HROW2.out _ HB23.out).1 HL1.out (HROW2.out _ HB23.out).2.2.2.2.1 HLT.out B4.out).mono ?_); rintro e w24 ⟨rfl, hb24⟩; have HB24 : Aside0 (Below W17.heap.size W17 w24) := ⟨GL.below_then HB23.out HB23.out.size hb24⟩; clear hb24)
            try (go_wp2_with fail)
            refine hK.out _ _ ?_ (fun hHeld => ?_)
            · (first | exact HS2.out _ HB30.out | exact HS2.out _ HB29.out | exact HS2.out _ HB28.out | exact HS2.out _ HB27.out | exact HS2.out _ HB26.out | exact HS2.out _ HB25.out | exact HS2.out _ HB24.out | exact HS2.out _ HB23.out | exact HS2.out _ HB22.out | exact HS2.out _ HB21.out | exact HS2.out _ HB20.out | exact HS2.out _ HD2.out | exact HS2.out _ (Below.refl _ _) | fail)
            clear hK K hi; try simp only [Act.put, List.setIfInBounds_toArray, List.set_cons_zero, List.set_cons_succ]
            refine hand_op (i := 22) (by simp only [List.getElem?_toArray, List.getElem?_cons_succ, List.getElem?_cons_zero]; rfl) (fun hi => ?_)
            refine wpAnyH_take (v := ?_) hi (by kernel_rfl) (by kernel_rfl) (by kernel_rfl) (fun _ _ _ h => h) (Or.inl ⟨by rfl, ?_⟩) (by assumption) ?_
            rotate_left
            · intro w hSw; (try dsimp only at hSw); go_simp; try (with_reducible rfl)
            clear hi; try simp only [Act.put, List.setIfInBounds_toArray, List.set_cons_zero, List.set_cons_succ]
            refine hand_op (i := 23) (by simp only [List.getElem?_toArray, List.getElem?_cons_succ, List.getElem?_cons_zero]; rfl) (fun hi => ?_)
            refine wpAnyH_take (v := ?_) hi (by kernel_rfl) (by kernel_rfl) (by kernel_rfl) (fun _ _ _ h => h) (Or.inl ⟨by rfl, ?_⟩) (by assumption) ?_
            rotate_left
            · intro w hSw; (try dsimp only at hSw); go_simp; try (with_reducible rfl)
            clear hi; try simp only [Act.put, List.setIfInBounds_toArray, List.set_cons_zero, List.set_cons_succ]
            refine hand_op (i := 24) (by simp only [List.getElem?_toArray, List.getElem?_cons_succ, List.getElem?_cons_zero]; rfl) (fun hi => ?_)
            refine wpAnyH_take (v := ?_) hi (by kernel_rfl) (by kernel_rfl) (by kernel_rfl) (fun _ _ _ h => h) (Or.inl ⟨by rfl, ?_⟩) (by assumption) ?_
            rotate_left
            · intro w hSw; (try dsimp only at hSw); go_simp; try (with_reducible rfl)
            clear hi; try simp only [Act.put, List.setIfInBounds_toArray, List.set_cons_zero, List.set_cons_succ]
            refine hand_op (i := 25) (by simp only [List.getElem?_toArray, List.getElem?_cons_succ, List.getElem?_cons_zero]; rfl) (fun hi => ?_)
            refine wpAnyH_take (v := ?_) hi (by kernel_rfl) (by kernel_rfl) (by kernel_rfl) (fun _ _ _ h => h) (Or.inl ⟨by rfl, ?_⟩) (by assumption) ?_
            rotate_left
            · intro w hSw; (try dsimp only at hSw); go_simp; try (with_reducible rfl)
            clear hi; try simp only [Act.put, List.setIfInBounds_toArray, List.set_cons_zero, List.set_cons_succ]
            refine hand_op (i := 26) (by simp only [List.getElem?_toArray, List.getElem?_cons_succ, List.getElem?_cons_zero]; rfl) (fun hi => ?_)
            refine wpAnyH_take (v := ?_) hi (by kernel_rfl) (by kernel_rfl) (by kernel_rfl) (fun _ _ _ h => h) (Or.inl ⟨by rfl, ?_⟩) (by assumption) ?_
            rotate_left
            · intro w hSw; (try dsimp only at hSw); go_simp; try (with_reducible rfl)
            clear hi; try simp only [Act.put, List.setIfInBounds_toArray, List.set_cons_zero, List.set_cons_succ]
            refine hand_op (i := 27) (by simp only [List.getElem?_toArray, List.getElem?_cons_succ, List.getElem?_cons_zero]; rfl) (fun hi => ?_)
            refine wpAnyH_ready (rs := [27]) (by kernel_rfl) (by simp) ?_
            refine AllReadyH.cons hi (fun K hK => ?_) AllReadyH.nil
            go_simp
            (go_at_call 17; (with_reducible refine (lattice_Below.calls 64 t b1 A1 c1 r1 b1 A1 c1 r1 true _ (HROW2.out _ HB24.out).1 HL1.out (HROW2.out _ HB24.out).1 HL1.out B5.out).mono ?_); rintro e w25 ⟨rfl, hb25⟩; have HB25 : Aside0 (Below W17.heap.size W17 w25) := ⟨GL.below_then HB24.out HB24.out.size hb25⟩; clear hb25)
            try (go_wp2_with fail)
            refine hK.out _ _ ?_ (fun hHeld => ?_)
            · (first | exact HS2.out _ HB30.out | exact HS2.out _ HB29.out | exact HS2.out _ HB28.out | exact HS2.out _ HB27.out | exact HS2.out _ HB26.out | exact HS2.out _ HB25.out | exact HS2.out _ HB24.out | exact HS2.out _ HB23.out | exact HS2.out _ HB22.out | exact HS2.out _ HB21.out | exact HS2.out _ HB20.out | exact HS2.out _ HD2.out | exact HS2.out _ (Below.refl _ _) | fail)
            clear hK K hi; try simp only [Act.put, List.setIfInBounds_toArray, List.set_cons_zero, List.set_cons_succ]
            refine hand_op (i := 28) (by simp only [List.getElem?_toArray, List.getElem?_cons_succ, List.getElem?_cons_zero]; rfl) (fun hi => ?_)
            refine wpAnyH_take (v := ?_) hi (by kernel_rfl) (by kernel_rfl) (by kernel_rfl) (fun _ _ _ h => h) (Or.inl ⟨by rfl, ?_⟩) (by assumption) ?_
            rotate_left
            · intro w hSw; (try dsimp only at hSw); go_simp; try (with_reducible rfl)
            clear hi; try simp only [Act.put, List.setIfInBounds_toArray, List.set_cons_zero, List.set_cons_succ]
            refine hand_op (i := 29) (by simp only [List.getElem?_toArray, List.getElem?_cons_succ, List.getElem?_cons_zero]; rfl) (fun hi => ?_)
            refine wpAnyH_take (v := ?_) hi (by kernel_rfl) (by kernel_rfl) (by kernel_rfl) (fun _ _ _ h => h) (Or.inl ⟨by rfl, ?_⟩) (by assumption) ?_
            rotate_left
            · intro w hSw; (try dsimp only at hSw); go_simp; try (with_reducible rfl)
            clear hi; try simp only [Act.put, List.setIfInBounds_toArray, List.set_cons_zero, List.set_cons_succ]
            refine hand_op (i := 30) (by simp only [List.getElem?_toArray, List.getElem?_cons_succ, List.getElem?_cons_zero]; rfl) (fun hi => ?_)
            refine wpAnyH_take (v := ?_) hi (by kernel_rfl) (by kernel_rfl) (by kernel_rfl) (fun _ _ _ h => h) (Or.inl ⟨by rfl, ?_⟩) (by assumption) ?_
            rotate_left
            · intro w hSw; (try dsimp only at hSw); go_simp; try (with_reducible rfl)
            clear hi; try simp only [Act.put, List.setIfInBounds_toArray, List.set_cons_zero, List.set_cons_succ]
            refine hand_op (i := 31) (by simp only [List.getElem?_toArray, List.getElem?_cons_succ, List.getElem?_cons_zero]; rfl) (fun hi => ?_)
            refine wpAnyH_take (v := ?_) hi (by kernel_rfl) (by kernel_rfl) (by kernel_rfl) (fun _ _ _ h => h) (Or.inl ⟨by rfl, ?_⟩) (by assumption) ?_
            rotate_left
            · intro w hSw; (try dsimp only at hSw); go_simp; try (with_reducible rfl)
            clear hi; try simp only [Act.put, List.setIfInBounds_toArray, List.set_cons_zero, List.set_cons_succ]
            refine hand_op (i := 32) (by simp only [List.getElem?_toArray, List.getElem?_cons_succ, List.getElem?_cons_zero]; rfl) (fun hi => ?_)
            refine wpAnyH_take (v := ?_) hi (by kernel_rfl) (by kernel_rfl) (by kernel_rfl) (fun _ _ _ h => h) (Or.inl ⟨by rfl, ?_⟩) (by assumption) ?_
            rotate_left
            · intro w hSw; (try dsimp only at hSw); go_simp; try (with_reducible rfl)
            clear hi; try simp only [Act.put, List.setIfInBounds_toArray, List.set_cons_zero, List.set_cons_succ]
            refine hand_op (i := 33) (by simp only [List.getElem?_toArray, List.getElem?_cons_succ, List.getElem?_cons_zero]; rfl) (fun hi => ?_)
            refine wpAnyH_ready (rs := [33]) (by kernel_rfl) (by simp) ?_
            refine AllReadyH.cons hi (fun K hK => ?_) AllReadyH.nil
            go_simp
            (go_at_call 17; (with_reducible refine (lattice_Below.calls 64 t b1 A1 c1 r1 b2 A2 c2 r2 true _ (HROW2.out _ HB25.out).1 HL1.out (HROW2.out _ HB25.out).2.1 HL2.out FAB.out).mono ?_); rintro e w26 ⟨rfl, hb26⟩; have HB26 : Aside0 (Below W17.heap.size W17 w26) := ⟨GL.below_then HB25.out HB25.out.size hb26⟩; clear hb26)
            try (go_wp2_with fail)
            refine hK.out _ _ ?_ (fun hHeld => ?_)
            · (first | exact HS2.out _ HB30.out | exact HS2.out _ HB29.out | exact HS2.out _ HB28.out | exact HS2.out _ HB27.out | exact HS2.out _ HB26.out | exact HS2.out _ HB25.out | exact HS2.out _ HB24.out | exact HS2.out _ HB23.out | exact HS2.out _ HB22.out | exact HS2.out _ HB21.out | exact HS2.out _ HB20.out | exact HS2.out _ HD2.out | exact HS2.out _ (Below.refl _ _) | fail)
            clear hK K hi; try simp only [Act.put, List.setIfInBounds_toArray, List.set_cons_zero, List.set_cons_succ]
            refine hand_op (i := 34) (by simp only [List.getElem?_toArray, List.getElem?_cons_succ, List.getElem?_cons_zero]; rfl) (fun hi => ?_)
            refine wpAnyH_take (v := ?_) hi (by kernel_rfl) (by kernel_rfl) (by kernel_rfl) (fun _ _ _ h => h) (Or.inl ⟨by rfl, ?_⟩) (by assumption) ?_
            rotate_left
            · intro w hSw; (try dsimp only at hSw); go_simp; try (with_reducible rfl)
            clear hi; try simp only [Act.put, List.setIfInBounds_toArray, List.set_cons_zero, List.set_cons_succ]
            refine hand_op (i := 35) (by simp only [List.getElem?_toArray, List.getElem?_cons_succ, List.getElem?_cons_zero]; rfl) (fun hi => ?_)
            refine wpAnyH_take (v := ?_) hi (by kernel_rfl) (by kernel_rfl) (by kernel_rfl) (fun _ _ _ h => h) (Or.inl ⟨by rfl, ?_⟩) (by assumption) ?_
            rotate_left
            · intro w hSw; (try dsimp only at hSw); go_simp; try (with_reducible rfl)
            clear hi; try simp only [Act.put, List.setIfInBounds_toArray, List.set_cons_zero, List.set_cons_succ]
            refine hand_op (i := 36) (by simp only [List.getElem?_toArray, List.getElem?_cons_succ, List.getElem?_cons_zero]; rfl) (fun hi => ?_)
            refine wpAnyH_take (v := ?_) hi (by kernel_rfl) (by kernel_rfl) (by kernel_rfl) (fun _ _ _ h => h) (Or.inl ⟨by rfl, ?_⟩) (by assumption) ?_
            rotate_left
            · intro w hSw; (try dsimp only at hSw); go_simp; try (with_reducible rfl)
            clear hi; try simp only [Act.put, List.setIfInBounds_toArray, List.set_cons_zero, List.set_cons_succ]
            refine hand_op (i := 37) (by simp only [List.getElem?_toArray, List.getElem?_cons_succ, List.getElem?_cons_zero]; rfl) (fun hi => ?_)
            refine wpAnyH_take (v := ?_) hi (by kernel_rfl) (by kernel_rfl) (by kernel_rfl) (fun _ _ _ h => h) (Or.inl ⟨by rfl, ?_⟩) (by assumption) ?_
            rotate_left
            · intro w hSw; (try dsimp only at hSw); go_simp; try (with_reducible rfl)
            clear hi; try simp only [Act.put, List.setIfInBounds_toArray, List.set_cons_zero, List.set_cons_succ]
            refine hand_op (i := 38) (by simp only [List.getElem?_toArray, List.getElem?_cons_succ, List.getElem?_cons_zero]; rfl) (fun hi => ?_)
            refine wpAnyH_take (v := ?_) hi (by kernel_rfl) (by kernel_rfl) (by kernel_rfl) (fun _ _ _ h => h) (Or.inl ⟨by rfl, ?_⟩) (by assumption) ?_
            rotate_left
            · intro w hSw; (try dsimp only at hSw); go_simp; try (with_reducible rfl)
            clear hi; try simp only [Act.put, List.setIfInBounds_toArray, List.set_cons_zero, List.set_cons_succ]
            refine hand_op (i := 39) (by simp only [List.getElem?_toArray, List.getElem?_cons_succ, List.getElem?_cons_zero]; rfl) (fun hi => ?_)
            refine wpAnyH_ready (rs := [39]) (by kernel_rfl) (by simp) ?_
            refine AllReadyH.cons hi (fun K hK => ?_) AllReadyH.nil
            go_simp
            (go_at_call 17; (with_reducible refine (lattice_Below.calls 64 t b2 A2 c2 r2 b1 A1 c1 r1 true _ (HROW2.out _ HB26.out).2.1 HL2.out (HROW2.out _ HB26.out).1 HL1.out FBA2.out).mono ?_); rintro e w27 ⟨rfl, hb27⟩; have HB27 : Aside0 (Below W17.heap.size W17 w27) := ⟨GL.below_then HB26.out HB26.out.size hb27⟩; clear hb27)
            try (go_wp2_with fail)
            refine hK.out _ _ ?_ (fun hHeld => ?_)
            · (first | exact HS2.out _ HB30.out | exact HS2.out _ HB29.out | exact HS2.out _ HB28.out | exact HS2.out _ HB27.out | exact HS2.out _ HB26.out | exact HS2.out _ HB25.out | exact HS2.out _ HB24.out | exact HS2.out _ HB23.out | exact HS2.out _ HB22.out | exact HS2.out _ HB21.out | exact HS2.out _ HB20.out | exact HS2.out _ HD2.out | exact HS2.out _ (Below.refl _ _) | fail)
            clear hK K hi; try simp only [Act.put, List.setIfInBounds_toArray, List.set_cons_zero, List.set_cons_succ]
            refine hand_op (i := 40) (by simp only [List.getElem?_toArray, List.getElem?_cons_succ, List.getElem?_cons_zero]; rfl) (fun hi => ?_)
            refine wpAnyH_take (v := ?_) hi (by kernel_rfl) (by kernel_rfl) (by kernel_rfl) (fun _ _ _ h => h) (Or.inl ⟨by rfl, ?_⟩) (by assumption) ?_
            rotate_left
            · intro w hSw; (try dsimp only at hSw); go_simp; try (with_reducible rfl)
            clear hi; try simp only [Act.put, List.setIfInBounds_toArray, List.set_cons_zero, List.set_cons_succ]
            refine hand_op (i := 41) (by simp only [List.getElem?_toArray, List.getElem?_cons_succ, List.getElem?_cons_zero]; rfl) (fun hi => ?_)
            refine wpAnyH_take (v := ?_) hi (by kernel_rfl) (by kernel_rfl) (by kernel_rfl) (fun _ _ _ h => h) (Or.inl ⟨by rfl, ?_⟩) (by assumption) ?_
            rotate_left
            · intro w hSw; (try dsimp only at hSw); go_simp; try (with_reducible rfl)
            clear hi; try simp only [Act.put, List.setIfInBounds_toArray, List.set_cons_zero, List.set_cons_succ]
            refine hand_op (i := 42) (by simp only [List.getElem?_toArray, List.getElem?_cons_succ, List.getElem?_cons_zero]; rfl) (fun hi => ?_)
            refine wpAnyH_take (v := ?_) hi (by kernel_rfl) (by kernel_rfl) (by kernel_rfl) (fun _ _ _ h => h) (Or.inl ⟨by rfl, ?_⟩) (by assumption) ?_
            rotate_left
            · intro w hSw; (try dsimp only at hSw); go_simp; try (with_reducible rfl)
            clear hi; try simp only [Act.put, List.setIfInBounds_toArray, List.set_cons_zero, List.set_cons_succ]
            refine hand_op (i := 43) (by simp only [List.getElem?_toArray, List.getElem?_cons_succ, List.getElem?_cons_zero]; rfl) (fun hi => ?_)
            refine wpAnyH_take (v := ?_) hi (by kernel_rfl) (by kernel_rfl) (by kernel_rfl) (fun _ _ _ h => h) (Or.inl ⟨by rfl, ?_⟩) (by assumption) ?_
            rotate_left
            · intro w hSw; (try dsimp only at hSw); go_simp; try (with_reducible rfl)
            clear hi; try simp only [Act.put, List.setIfInBounds_toArray, List.set_cons_zero, List.set_cons_succ]
            refine hand_op (i := 44) (by simp only [List.getElem?_toArray, List.getElem?_cons_succ, List.getElem?_cons_zero]; rfl) (fun hi => ?_)
            refine wpAnyH_take (v := ?_) hi (by kernel_rfl) (by kernel_rfl) (by kernel_rfl) (fun _ _ _ h => h) (Or.inl ⟨by rfl, ?_⟩) (by assumption) ?_
            rotate_left
            · intro w hSw; (try dsimp only at hSw); go_simp; try (with_reducible rfl)
            clear hi; try simp only [Act.put, List.setIfInBounds_toArray, List.set_cons_zero, List.set_cons_succ]
            refine hand_op (i := 45) (by simp only [List.getElem?_toArray, List.getElem?_cons_succ, List.getElem?_cons_zero]; rfl) (fun hi => ?_)
            refine wpAnyH_ready (rs := [45]) (by kernel_rfl) (by simp) ?_
            refine AllReadyH.cons hi (fun K hK => ?_) AllReadyH.nil
            go_simp
            (go_at_call 15; (with_reducible refine (lattice_Same.calls 64 b1 A1 c1 r1 b2 A2 c2 r2 true _ (HROW2.out _ HB27.out).1 HL1.out (HROW2.out _ HB27.out).2.1 HL2.out FSAB.out).mono ?_); rintro e w28 ⟨rfl, hb28⟩; have HB28 : Aside0 (Below W17.heap.size W17 w28) := ⟨GL.below_then HB27.out HB27.out.size hb28⟩; clear hb28)
            try (go_wp2_with fail)
            refine hK.out _ _ ?_ (fun hHeld => ?_)
            · (first | exact HS2.out _ HB30.out | exact HS2.out _ HB29.out | exact HS2.out _ HB28.out | exact HS2.out _ HB27.out | exact HS2.out _ HB26.out | exact HS2.out _ HB25.out | exact HS2.out _ HB24.out | exact HS2.out _ HB23.out | exact HS2.out _ HB22.out | exact HS2.out _ HB21.out | exact HS2.out _ HB20.out | exact HS2.out _ HD2.out | exact HS2.out _ (Below.refl _ _) | fail)
            clear hK K hi; try simp only [Act.put, List.setIfInBounds_toArray, List.set_cons_zero, List.set_cons_succ]
            refine hand_op (i := 46) (by simp only [List.getElem?_toArray, List.getElem?_cons_succ, List.getElem?_cons_zero]; rfl) (fun hi => ?_)
            refine wpAnyH_take (v := ?_) hi (by kernel_rfl) (by kernel_rfl) (by kernel_rfl) (fun _ _ _ h => h) (Or.inl ⟨by rfl, ?_⟩) (by assumption) ?_
            rotate_left
            · intro w hSw; (try dsimp only at hSw); go_simp; try (with_reducible rfl)
            clear hi; try simp only [Act.put, List.setIfInBounds_toArray, List.set_cons_zero, List.set_cons_succ]
            refine hand_op (i := 47) (by simp only [List.getElem?_toArray, List.getElem?_cons_succ, List.getElem?_cons_zero]; rfl) (fun hi => ?_)
            refine wpAnyH_take (v := ?_) hi (by kernel_rfl) (by kernel_rfl) (by kernel_rfl) (fun _ _ _ h => h) (Or.inl ⟨by rfl, ?_⟩) (by assumption) ?_
            rotate_left
            · intro w hSw; (try dsimp only at hSw); go_simp; try (with_reducible rfl)
            clear hi; try simp only [Act.put, List.setIfInBounds_toArray, List.set_cons_zero, List.set_cons_succ]
            refine hand_op (i := 48) (by simp only [List.getElem?_toArray, List.getElem?_cons_succ, List.getElem?_cons_zero]; rfl) (fun hi => ?_)
            refine wpAnyH_take (v := ?_) hi (by kernel_rfl) (by kernel_rfl) (by kernel_rfl) (fun _ _ _ h => h) (Or.inl ⟨by rfl, ?_⟩) (by assumption) ?_
            rotate_left
            · intro w hSw; (try dsimp only at hSw); go_simp; try (with_reducible rfl)
            clear hi; try simp only [Act.put, List.setIfInBounds_toArray, List.set_cons_zero, List.set_cons_succ]
            refine hand_op (i := 49) (by simp only [List.getElem?_toArray, List.getElem?_cons_succ, List.getElem?_cons_zero]; rfl) (fun hi => ?_)
            refine wpAnyH_take (v := ?_) hi (by kernel_rfl) (by kernel_rfl) (by kernel_rfl) (fun _ _ _ h => h) (Or.inl ⟨by rfl, ?_⟩) (by assumption) ?_
            rotate_left
            · intro w hSw; (try dsimp only at hSw); go_simp; try (with_reducible rfl)
            clear hi; try simp only [Act.put, List.setIfInBounds_toArray, List.set_cons_zero, List.set_cons_succ]
            refine hand_op (i := 50) (by simp only [List.getElem?_toArray, List.getElem?_cons_succ, List.getElem?_cons_zero]; rfl) (fun hi => ?_)
            refine wpAnyH_take (v := ?_) hi (by kernel_rfl) (by kernel_rfl) (by kernel_rfl) (fun _ _ _ h => h) (Or.inl ⟨by rfl, ?_⟩) (by assumption) ?_
            rotate_left
            · intro w hSw; (try dsimp only at hSw); go_simp; try (with_reducible rfl)
            clear hi; try simp only [Act.put, List.setIfInBounds_toArray, List.set_cons_zero, List.set_cons_succ]
            refine hand_op (i := 51) (by simp only [List.getElem?_toArray, List.getElem?_cons_succ, List.getElem?_cons_zero]; rfl) (fun hi => ?_)
            refine wpAnyH_take (v := ?_) hi (by kernel_rfl) (by kernel_rfl) (by kernel_rfl) (fun _ _ _ h => h) (Or.inl ⟨by rfl, ?_⟩) (by assumption) ?_
            rotate_left
            · intro w hSw; (try dsimp only at hSw); go_simp; try (with_reducible rfl)
            clear hi; try simp only [Act.put, List.setIfInBounds_toArray, List.set_cons_zero, List.set_cons_succ]
            refine hand_op (i := 52) (by simp only [List.getElem?_toArray, List.getElem?_cons_succ, List.getElem?_cons_zero]; rfl) (fun hi => ?_)
            refine wpAnyH_ready (rs := [52]) (by kernel_rfl) (by simp) ?_
            refine AllReadyH.cons hi (fun K hK => ?_) AllReadyH.nil
            go_simp
            (go_at_call 17; (with_reducible refine (lattice_Below.calls 64 t b1 A1 c1 r1 b2 A2 c2 r2 true _ (HROW2.out _ HB28.out).1 HL1.out (HROW2.out _ HB28.out).2.1 HL2.out FAB.out).mono ?_); rintro e w29 ⟨rfl, hb29⟩; have HB29 : Aside0 (Below W17.heap.size W17 w29) := ⟨GL.below_then HB28.out HB28.out.size hb29⟩; clear hb29)
            try (go_wp2_with fail)
            refine hK.out _ _ ?_ (fun hHeld => ?_)
            · (first | exact HS2.out _ HB30.out | exact HS2.out _ HB29.out | exact HS2.out _ HB28.out | exact HS2.out _ HB27.out | exact HS2.out _ HB26.out | exact HS2.out _ HB25.out | exact HS2.out _ HB24.out | exact HS2.out _ HB23.out | exact HS2.out _ HB22.out | exact HS2.out _ HB21.out | exact HS2.out _ HB20.out | exact HS2.out _ HD2.out | exact HS2.out _ (Below.refl _ _) | fail)
            clear hK K hi; try simp only [Act.put, List.setIfInBounds_toArray, List.set_cons_zero, List.set_cons_succ]
            refine hand_op (i := 53) (by simp only [List.getElem?_toArray, List.getElem?_cons_succ, List.getElem?_cons_zero]; rfl) (fun hi => ?_)
            refine wpAnyH_take (v := ?_) hi (by kernel_rfl) (by kernel_rfl) (by kernel_rfl) (fun _ _ _ h => h) (Or.inl ⟨by rfl, ?_⟩) (by assumption) ?_
            rotate_left
            · intro w hSw; (try dsimp only at hSw); go_simp; try (with_reducible rfl)
            clear hi; try simp only [Act.put, List.setIfInBounds_toArray, List.set_cons_zero, List.set_cons_succ]
            refine hand_op (i := 54) (by simp only [List.getElem?_toArray, List.getElem?_cons_succ, List.getElem?_cons_zero]; rfl) (fun hi => ?_)
            refine wpAnyH_take (v := ?_) hi (by kernel_rfl) (by kernel_rfl) (by kernel_rfl) (fun _ _ _ h => h) (Or.inl ⟨by rfl, ?_⟩) (by assumption) ?_
            rotate_left
            · intro w hSw; (try dsimp only at hSw); go_simp; try (with_reducible rfl)
            clear hi; try simp only [Act.put, List.setIfInBounds_toArray, List.set_cons_zero, List.set_cons_succ]
            refine hand_op (i := 55) (by simp only [List.getElem?_toArray, List.getElem?_cons_succ, List.getElem?_cons_zero]; rfl) (fun hi => ?_)
            refine wpAnyH_take (v := ?_) hi (by kernel_rfl) (by kernel_rfl) (by kernel_rfl) (fun _ _ _ h => h) (Or.inl ⟨by rfl, ?_⟩) (by assumption) ?_
            rotate_left
            · intro w hSw; (try dsimp only at hSw); go_simp; try (with_reducible rfl)
            clear hi; try simp only [Act.put, List.setIfInBounds_toArray, List.set_cons_zero, List.set_cons_succ]
            refine hand_op (i := 56) (by simp only [List.getElem?_toArray, List.getElem?_cons_succ, List.getElem?_cons_zero]; rfl) (fun hi => ?_)
            refine wpAnyH_take (v := ?_) hi (by kernel_rfl) (by kernel_rfl) (by kernel_rfl) (fun _ _ _ h => h) (Or.inl ⟨by rfl, ?_⟩) (by assumption) ?_
            rotate_left
            · intro w hSw; (try dsimp only at hSw); go_simp; try (with_reducible rfl)
            clear hi; try simp only [Act.put, List.setIfInBounds_toArray, List.set_cons_zero, List.set_cons_succ]
            refine hand_op (i := 57) (by simp only [List.getElem?_toArray, List.getElem?_cons_succ, List.getElem?_cons_zero]; rfl) (fun hi => ?_)
            refine wpAnyH_take (v := ?_) hi (by kernel_rfl) (by kernel_rfl) (by kernel_rfl) (fun _ _ _ h => h) (Or.inl ⟨by rfl, ?_⟩) (by assumption) ?_
            rotate_left
            · intro w hSw; (try dsimp only at hSw); go_simp; try (with_reducible rfl)
            clear hi; try simp only [Act.put, List.setIfInBounds_toArray, List.set_cons_zero, List.set_cons_succ]
            refine hand_op (i := 58) (by simp only [List.getElem?_toArray, List.getElem?_cons_succ, List.getElem?_cons_zero]; rfl) (fun hi => ?_)
            refine wpAnyH_ready (rs := [58]) (by kernel_rfl) (by simp) ?_
            refine AllReadyH.cons hi (fun K hK => ?_) AllReadyH.nil
            go_simp
            (go_at_call 17; (with_reducible refine (lattice_Below.calls 64 t b2 A2 c2 r2 b3 A3 c3 r3 false _ (HROW2.out _ HB29.out).2.1 HL2.out (HROW2.out _ HB29.out).2.2.1 HL3.out FBC.out).mono ?_); rintro e w30 ⟨rfl, hb30⟩; have HB30 : Aside0 (Below W17.heap.size W17 w30) := ⟨GL.below_then HB29.out HB29.out.size hb30⟩; clear hb30)
            try (go_wp2_with fail)
            refine hK.out _ _ ?_ (fun hHeld => ?_)
            · (first | exact HS2.out _ HB30.out | exact HS2.out _ HB29.out | exact HS2.out _ HB28.out | exact HS2.out _ HB27.out | exact HS2.out _ HB26.out | exact HS2.out _ HB25.out | exact HS2.out _ HB24.out | exact HS2.out _ HB23.out | exact HS2.out _ HB22.out | exact HS2.out _ HB21.out | exact HS2.out _ HB20.out | exact HS2.out _ HD2.out | exact HS2.out _ (Below.refl _ _) | fail)
            clear hK K hi; try simp only [Act.put, List.setIfInBounds_toArray, List.set_cons_zero, List.set_cons_succ]
            refine hand_op (i := 59) (by simp only [List.getElem?_toArray, List.getElem?_cons_succ, List.getElem?_cons_zero]; rfl) (fun hi => ?_)
            refine wpAnyH_take (v := ?_) hi (by kernel_rfl) (by kernel_rfl) (by kernel_rfl) (fun _ _ _ h => h) (Or.inl ⟨by rfl, ?_⟩) (by assumption) ?_
            rotate_left
            · intro w hSw; (try dsimp only at hSw); go_simp; try (with_reducible rfl)
            clear hi; try simp only [Act.put, List.setIfInBounds_toArray, List.set_cons_zero, List.set_cons_succ]
            refine hand_op (i := 60) (by simp only [List.getElem?_toArray, List.getElem?_cons_succ, List.getElem?_cons_zero]; rfl) (fun hi => ?_)
            refine wpAnyH_take (v := ?_) hi (by kernel_rfl) (by kernel_rfl) (by kernel_rfl) (fun _ _ _ h => h) (Or.inl ⟨by rfl, ?_⟩) (by assumption) ?_
            rotate_left
            · intro w hSw; (try dsimp only at hSw); go_simp; try (with_reducible rfl)
            clear hi; try simp only [Act.put, List.setIfInBounds_toArray, List.set_cons_zero, List.set_cons_succ]
            refine hand_op (i := 61) (by simp only [List.getElem?_toArray, List.getElem?_cons_succ, List.getElem?_cons_zero]; rfl) (fun hi => ?_)
            refine wpAnyH_take (v := ?_) hi (by kernel_rfl) (by kernel_rfl) (by kernel_rfl) (fun _ _ _ h => h) (Or.inl ⟨by rfl, ?_⟩) (by assumption) ?_
            rotate_left
            · intro w hSw; (try dsimp only at hSw); go_simp; try (with_reducible rfl)
            clear hi; try simp only [Act.put, List.setIfInBounds_toArray, List.set_cons_zero, List.set_cons_succ]
            refine hand_op (i := 62) (by simp only [List.getElem?_toArray, List.getElem?_cons_succ, List.getElem?_cons_zero]; rfl) (fun hi => ?_)
            refine wpAnyH_take (v := undef) hi (by kernel_rfl) (by kernel_rfl) (by kernel_rfl) (fun _ _ _ h => h) (Or.inr ⟨by rfl, rfl⟩) (by assumption) ?_
            clear hi; try simp only [Act.put, List.setIfInBounds_toArray, List.set_cons_zero, List.set_cons_succ]
            refine hand_op (i := 63) (by simp only [List.getElem?_toArray, List.getElem?_cons_succ, List.getElem?_cons_zero]; rfl) (fun hi => ?_)
            refine wpAnyH_take (v := undef) hi (by kernel_rfl) (by kernel_rfl) (by kernel_rfl) (fun _ _ _ h => h) (Or.inr ⟨by rfl, rfl⟩) (by assumption) ?_
            clear hi; try simp only [Act.put, List.setIfInBounds_toArray, List.set_cons_zero, List.set_cons_succ]
            refine hand_op (i := 64) (by simp only [List.getElem?_toArray, List.getElem?_cons_succ, List.getElem?_cons_zero]; rfl) (fun hi => ?_)
            refine wpAnyH_take (v := undef) hi (by kernel_rfl) (by kernel_rfl) (by kernel_rfl) (fun _ _ _ h => h) (Or.inr ⟨by rfl, rfl⟩) (by assumption) ?_
            clear hi; try simp only [Act.put, List.setIfInBounds_toArray, List.set_cons_zero, List.set_cons_succ]
            refine hand_op (i := 65) (by simp only [List.getElem?_toArray, List.getElem?_cons_succ, List.getElem?_cons_zero]; rfl) (fun hi => ?_)
            refine wpAnyH_take (v := undef) hi (by kernel_rfl) (by kernel_rfl) (by kernel_rfl) (fun _ _ _ h => h) (Or.inr ⟨by rfl, rfl⟩) (by assumption) ?_
            clear hi; try simp only [Act.put, List.setIfInBounds_toArray, List.set_cons_zero, List.set_cons_succ]
            refine hand_op (i := 66) (by simp only [List.getElem?_toArray, List.getElem?_cons_succ, List.getElem?_cons_zero]; rfl) (fun hi => ?_)
            refine wpAnyH_take (v := ?_) hi (by kernel_rfl) (by kernel_rfl) (by kernel_rfl) (fun _ _ _ h => h) (Or.inl ⟨by rfl, ?_⟩) (by assumption) ?_
            rotate_left
            · intro w hSw; (try dsimp only at hSw); go_simp; try (with_reducible rfl)
            clear hi; try simp only [Act.put, List.setIfInBounds_toArray, List.set_cons_zero, List.set_cons_succ]
            refine hand_op (i := 67) (by simp only [List.getElem?_toArray, List.getElem?_cons_succ, List.getElem?_cons_zero]; rfl) (fun hi => ?_)
            refine wpAnyH_take (v := ?_) hi (by kernel_rfl) (by kernel_rfl) (by kernel_rfl) (fun _ _ _ h => h) (Or.inl ⟨by rfl, ?_⟩) (by assumption) ?_
            rotate_left
            · intro w hSw; (try dsimp only at hSw); go_simp; try (with_reducible rfl)
            clear hi; try simp only [Act.put, List.setIfInBounds_toArray, List.set_cons_zero, List.set_cons_succ]
            refine hand_op (i := 68) (by simp only [List.getElem?_toArray, List.getElem?_cons_succ, List.getElem?_cons_zero]; rfl) (fun hi => ?_)
            refine wpAnyH_take (v := ?_) hi (by kernel_rfl) (by kernel_rfl) (by kernel_rfl) (fun _ _ _ h => h) (Or.inl ⟨by rfl, ?_⟩) (by assumption) ?_
            rotate_left
            · intro w hSw; (try dsimp only at hSw); go_simp; try (with_reducible rfl)
            clear hi; try simp only [Act.put, List.setIfInBounds_toArray, List.set_cons_zero, List.set_cons_succ]
            refine wpAnyH_done (by kernel_rfl) ?_ _
            all_goals (go_wp2_with fail)
            all_goals go_ret
            all_goals exact ⟨rfl, (HROW2.out _ HB30.out).2.2.2.2.2⟩
       | true =>
         rw [hr] at FBC
         rw [htran hp hr] at FAC
         have FBC := Aside0.mk FBC
         have FAC := Aside0.mk FAC
         cases hq : belowS t b2 r2 b1 r1 with
         | false =>
           rw [hq] at FBA2
           have FBA2 := Aside0.mk FBA2
           clear hanti htran FSAB hp hr hq
           as_aux_lemma =>
            refine wp_region_held_drew (S := (fun W' => W'.cell? ⟨w.heap.size, 0, none⟩ = some (.bool b1) ∧ W'.cell? ⟨w.heap.size, 1, none⟩ = some (.slice A1 r1.length c1) ∧ W'.cell? ⟨w.heap.size + 1, 0, none⟩ = some (.bool b2) ∧ W'.cell? ⟨w.heap.size + 1, 1, none⟩ = some (.slice A2 r2.length c2) ∧ W'.cell? ⟨w.heap.size + 1 + 1, 0, none⟩ = some (.bool b3) ∧ W'.cell? ⟨w.heap.size + 1 + 1, 1, none⟩ = some (.slice A3 r3.length c3) ∧ W'.cell? ⟨w5.heap.size, 0, none⟩ = some (.bool bx) ∧ W'.cell? ⟨w5.heap.size, 1, none⟩ = some (.slice Ax rx.length cx) ∧ W'.cell? ⟨w6.heap.size, 0, none⟩ = some (.bool by_) ∧ W'.cell? ⟨w6.heap.size, 1, none⟩ = some (.slice Ay ry.length cy) ∧ W'.cell? ⟨w16.heap.size, 0, none⟩ = some (.bool true) ∧ W'.cell? ⟨w16.heap.size, 1, none⟩ = some (.slice At rt.length ct))) (by kernel_rfl) ?_ (fun hHeld => ?_)
            · (first | exact HS2.out _ HB30.out | exact HS2.out _ HB29.out | exact HS2.out _ HB28.out | exact HS2.out _ HB27.out | exact HS2.out _ HB26.out | exact HS2.out _ HB25.out | exact HS2.out _ HB24.out | exact HS2.out _ HB23.out | exact HS2.out _ HB22.out | exact HS2.out _ HB21.out | exact HS2.out _ HB20.out | exact HS2.out _ HD2.out | exact HS2.out _ (Below.refl _ _) | fail)
            refine hand_op (i := 0) (by simp only [List.getElem?_toArray, List.getElem?_cons_succ, List.getElem?_cons_zero]; rfl) (fun hi => ?_)
            refine wpAnyH_take (v := ?_) hi (by kernel_rfl) (by kernel_rfl) (by kernel_rfl) (fun _ _ _ h => h) (Or.inl ⟨by rfl, ?_⟩) (by assumption) ?_
            rotate_left
            · intro w hSw; (try dsimp only at hSw); go_simp; try (with_reducible rfl)
            clear hi; try simp only [Act.put, List.setIfInBounds_toArray, List.set_cons_zero, List.set_cons_succ]
            refine hand_op (i := 1) (by simp only [List.getElem?_toArray, List.getElem?_cons_succ, List.getElem?_cons_zero]; rfl) (fun hi => ?_)
            refine wpAnyH_take (v := ?_) hi (by kernel_rfl) (by kernel_rfl) (by kernel_rfl) (fun _ _ _ h => h) (Or.inl ⟨by rfl, ?_⟩) (by assumption) ?_
            rotate_left
            · intro w hSw; (try dsimp only at hSw); go_simp; try (with_reducible rfl)
            clear hi; try simp only [Act.put, List.setIfInBounds_toArray, List.set_cons_zero, List.set_cons_succ]
            refine hand_op (i := 2) (by simp only [List.getElem?_toArray, List.getElem?_cons_succ, List.getElem?_cons_zero]; rfl) (fun hi => ?_)
            refine wpAnyH_take (v := ?_) hi (by kernel_rfl) (by kernel_rfl) (by kernel_rfl) (fun _ _ _ h => h) (Or.inl ⟨by rfl, ?_⟩) (by assumption) ?_
            rotate_left
            · intro w hSw; (try dsimp only at hSw); go_simp; try (with_reducible rfl)
            clear hi; try simp only [Act.put, List.setIfInBounds_toArray, List.set_cons_zero, List.set_cons_succ]
            refine hand_op (i := 3) (by simp only [List.getElem?_toArray, List.getElem?_cons_succ, List.getElem?_cons_zero]; rfl) (fun hi => ?_)
            refine wpAnyH_ready (rs := [3]) (by kernel_rfl) (by simp) ?_
            refine AllReadyH.cons hi (fun K hK => ?_) AllReadyH.nil
            go_simp
            (go_at_call 17; (with_reducible refine (lattice_Below.calls 64 t b1 A1 c1 r1 bx Ax cx rx true _ (HROW2.out _ HD2.out).1 HL1.out (HROW2.out _ HD2.out).2.2.2.1 HLX.out B1.out).mono ?_); rintro e w20 ⟨rfl, hb20⟩; have HB20 : Aside0 (Below W17.heap.size W17 w20) := ⟨GL.below_then HD2.out HD2.out.size hb20⟩; clear hb20)
            try (go_wp2_with fail)
            refine hK.out _ _ ?_ (fun hHeld => ?_)
            · (first | exact HS2.out _ HB30.out | exact HS2.out _ HB29.out | exact HS2.out _ HB28.out | exact HS2.out _ HB27.out | exact HS2.out _ HB26.out | exact HS2.out _ HB25.out | exact HS2.out _ HB24.out | exact HS2.out _ HB23.out | exact HS2.out _ HB22.out | exact HS2.out _ HB21.out | exact HS2.out _ HB20.out | exact HS2.out _ HD2.out | exact HS2.out _ (Below.refl _ _) | fail)
            clear hK K hi; try simp only [Act.put, List.setIfInBounds_toArray, List.set_cons_zero, List.set_cons_succ]
            refine hand_op (i := 4) (by simp only [List.getElem?_toArray, List.getElem?_cons_succ, List.getElem?_cons_zero]; rfl) (fun hi => ?_)
            refine wpAnyH_take (v := ?_) hi (by kernel_rfl) (by kernel_rfl) (by kernel_rfl) (fun _ _ _ h => h) (Or.inl ⟨by rfl, ?_⟩) (by assumption) ?_
            rotate_left
            · intro w hSw; (try dsimp only at hSw); go_simp; try (with_reducible rfl)
            clear hi; try simp only [Act.put, List.setIfInBounds_toArray, List.set_cons_zero, List.set_cons_succ]
            refine hand_op (i := 5) (by simp only [List.getElem?_toArray, List.getElem?_cons_succ, List.getElem?_cons_zero]; rfl) (fun hi => ?_)
            refine wpAnyH_take (v := ?_) hi (by kernel_rfl) (by kernel_rfl) (by kernel_rfl) (fun _ _ _ h => h) (Or.inl ⟨by rfl, ?_⟩) (by assumption) ?_
            rotate_left
            · intro w hSw; (try dsimp only at hSw); go_simp; try (with_reducible rfl)
            clear hi; try simp only [Act.put, List.setIfInBounds_toArray, List.set_cons_zero, List.set_cons_succ]
            refine hand_op (i := 6) (by simp only [List.getElem?_toArray, List.getElem?_cons_succ, List.getElem?_cons_zero]; rfl) (fun hi => ?_)
            refine wpAnyH_take (v := ?_) hi (by kernel_rfl) (by kernel_rfl) (by kernel_rfl) (fun _ _ _ h => h) (Or.inl ⟨by rfl, ?_⟩) (by assumption) ?_
            rotate_left
            · intro w hSw; (try dsimp only at hSw); go_simp; try (with_reducible rfl)
            clear hi; try simp only [Act.put, List.setIfInBounds_toArray, List.set_cons_zero, List.set_cons_succ]
            refine hand_op (i := 7) (by simp only [List.getElem?_toArray, List.getElem?_cons_succ, List.getElem?_cons_zero]; rfl) (fun hi => ?_)
            refine wpAnyH_take (v := ?_) hi (by kernel_rfl) (by kernel_rfl) (by kernel_rfl) (fun _ _ _ h => h) (Or.inl ⟨by rfl, ?_⟩) (by assumption) ?_
            rotate_left
            · intro w hSw; (try dsimp only at hSw); go_simp; try (with_reducible rfl)
            clear hi; try simp only [Act.put, List.setIfInBounds_toArray, List.set_cons_zero, List.set_cons_succ]
            refine hand_op (i := 8) (by simp only [List.getElem?_toArray, List.getElem?_cons_succ, List.getElem?_cons_zero]; rfl) (fun hi => ?_)
            refine wpAnyH_ready (rs := [8]) (by kernel_rfl) (by simp) ?_
            refine AllReadyH.cons hi (fun K hK => ?_) AllReadyH.nil
            go_simp
            (go_at_call 17; (with_reducible refine (lattice_Below.calls 64 t b2 A2 c2 r2 bx Ax cx rx true _ (HROW2.out _ HB20.out).2.1 HL2.out (HROW2.out _ HB20.out).2.2.2.1 HLX.out B2.out).mono ?_); rintro e w21 ⟨rfl, hb21⟩; have HB21 : Aside0 (Below W17.heap.size W17 w21) := ⟨GL.below_then HB20.out HB20.out.size hb21⟩; clear hb21)
            try (go_wp2_with fail)
            refine hK.out _ _ ?_ (fun hHeld => ?_)
            · (first | exact HS2.out _ HB30.out | exact HS2.out _ HB29.out | exact HS2.out _ HB28.out | exact HS2.out _ HB27.out | exact HS2.out _ HB26.out | exact HS2.out _ HB25.out | exact HS2.out _ HB24.out | exact HS2.out _ HB23.out | exact HS2.out _ HB22.out | exact HS2.out _ HB21.out | exact HS2.out _ HB20.out | exact HS2.out _ HD2.out | exact HS2.out _ (Below.refl _ _) | fail)
            clear hK K hi; try simp only [Act.put, List.setIfInBounds_toArray, List.set_cons_zero, List.set_cons_succ]
            refine hand_op (i := 9) (by simp only [List.getElem?_toArray, List.getElem?_cons_succ, List.getElem?_cons_zero]; rfl) (fun hi => ?_)
            refine wpAnyH_take (v := ?_) hi (by kernel_rfl) (by kernel_rfl) (by kernel_rfl) (fun _ _ _ h => h) (Or.inl ⟨by rfl, ?_⟩) (by assumption) ?_
            rotate_left
            · intro w hSw; (try dsimp only at hSw); go_simp; try (with_reducible rfl)
            clear hi; try simp only [Act.put, List.setIfInBounds_toArray, List.set_cons_zero, List.set_cons_succ]
            refine hand_op (i := 10) (by simp only [List.getElem?_toArray, List.getElem?_cons_succ, List.getElem?_cons_zero]; rfl) (fun hi => ?_)
            refine wpAnyH_take (v := ?_) hi (by kernel_rfl) (by kernel_rfl) (by kernel_rfl) (fun _ _ _ h => h) (Or.inl ⟨by rfl, ?_⟩) (by assumption) ?_
            rotate_left
            · intro w hSw; (try dsimp only at hSw); go_simp; try (with_reducible rfl)
            clear hi; try simp only [Act.put, List.setIfInBounds_toArray, List.set_cons_zero, List.set_cons_succ]
            refine hand_op (i := 11) (by simp only [List.getElem?_toArray, List.getElem?_cons_succ, List.getElem?_cons_zero]; rfl) (fun hi => ?_)
            refine wpAnyH_take (v := ?_) hi (by kernel_rfl) (by kernel_rfl) (by kernel_rfl) (fun _ _ _ h => h) (Or.inl ⟨by rfl, ?_⟩) (by assumption) ?_
            rotate_left
            · intro w hSw; (try dsimp only at hSw); go_simp; try (with_reducible rfl)
            clear hi; try simp only [Act.put, List.setIfInBounds_toArray, List.set_cons_zero, List.set_cons_succ]
            refine hand_op (i := 12) (by simp only [List.getElem?_toArray, List.getElem?_cons_succ, List.getElem?_cons_zero]; rfl) (fun hi => ?_)
            refine wpAnyH_take (v := ?_) hi (by kernel_rfl) (by kernel_rfl) (by kernel_rfl) (fun _ _ _ h => h) (Or.inl ⟨by rfl, ?_⟩) (by assumption) ?_
            rotate_left
            · intro w hSw; (try dsimp only at hSw); go_simp; try (with_reducible rfl)
            clear hi; try simp only [Act.put, List.setIfInBounds_toArray, List.set_cons_zero, List.set_cons_succ]
            refine hand_op (i := 14) (by simp only [List.getElem?_toArray, List.getElem?_cons_succ, List.getElem?_cons_zero]; rfl) (fun hi => ?_)
            refine wpAnyH_take (v := ?_) hi (by kernel_rfl) (by kernel_rfl) (by kernel_rfl) (fun _ _ _ h => h) (Or.inl ⟨by rfl, ?_⟩) (by assumption) ?_
            rotate_left
            · intro w hSw; (try dsimp only at hSw); go_simp; try (with_reducible rfl)
            clear hi; try simp only [Act.put, List.setIfInBounds_toArray, List.set_cons_zero, List.set_cons_succ]
            refine hand_op (i := 13) (by simp only [List.getElem?_toArray, List.getElem?_cons_succ, List.getElem?_cons_zero]; rfl) (fun hi => ?_)
            refine wpAnyH_ready (rs := [13]) (by kernel_rfl) (by simp) ?_
            refine AllReadyH.cons hi (fun K hK => ?_) AllReadyH.nil
            go_simp
            (go_at_call 18; (with_reducible refine (lattice_Bottom.calls n false [] _ rfl).mono ?_); rintro e w22 ⟨v22, rfl, hr22, hb22⟩; obtain ⟨Ab, cb, rfl⟩ := Kd.R_slice hr22; have HBOT : Aside0 (Kd.C (Kd.int .i64) w22 Ab ([] : List Int).length [] ∧ ([] : List Int).length ≤ cb) := ⟨⟨(Kd.R_reads' hr22).2.2, (Kd.R_reads' hr22).2.1⟩⟩; clear hr22; have HB22 : Aside0 (Below W17.heap.size W17 w22) := ⟨GL.below_then HB21.out HB21.out.size hb22⟩; clear hb22)
            try (go_wp2_with fail)
            refine hK.out _ _ ?_ (fun hHeld => ?_)
            · (first | exact HS2.out _ HB30.out | exact HS2.out _ HB29.out | exact HS2.out _ HB28.out | exact HS2.out _ HB27.out | exact HS2.out _ HB26.out | exact HS2.out _ HB25.out | exact HS2.out _ HB24.out | exact HS2.out _ HB23.out | exact HS2.out _ HB22.out | exact HS2.out _ HB21.out | exact HS2.out _ HB20.out | exact HS2.out _ HD2.out | exact HS2.out _ (Below.refl _ _) | fail)
            clear hK K hi; try simp only [Act.put, List.setIfInBounds_toArray, List.set_cons_zero, List.set_cons_succ]
            refine hand_op (i := 15) (by simp only [List.getElem?_toArray, List.getElem?_cons_succ, List.getElem?_cons_zero]; rfl) (fun hi => ?_)
            refine wpAnyH_ready (rs := [15]) (by kernel_rfl) (by simp) ?_
            refine AllReadyH.cons hi (fun K hK => ?_) AllReadyH.nil
            go_simp
            (go_at_call 17; (with_reducible refine (below_bot t Ab cb b1 A1 c1 r1 _ HBOT.out (HROW2.out _ HB22.out).1 HL1.out B3.out).mono ?_); rintro e w23 ⟨rfl, hb23⟩; have HB23 : Aside0 (Below W17.heap.size W17 w23) := ⟨GL.below_then HB22.out HB22.out.size hb23⟩; clear hb23)
            try (go_wp2_with fail)
            refine hK.out _ _ ?_ (fun hHeld => ?_)
            · (first | exact HS2.out _ HB30.out | exact HS2.out _ HB29.out | exact HS2.out _ HB28.out | exact HS2.out _ HB27.out | exact HS2.out _ HB26.out | exact HS2.out _ HB25.out | exact HS2.out _ HB24.out | exact HS2.out _ HB23.out | exact HS2.out _ HB22.out | exact HS2.out _ HB21.out | exact HS2.out _ HB20.out | exact HS2.out _ HD2.out | exact HS2.out _ (Below.refl _ _) | fail)
            clear hK K hi; try simp only [Act.put, List.setIfInBounds_toArray, List.set_cons_zero, List.set_cons_succ]
            refine hand_op (i := 16) (by simp only [List.getElem?_toArray, List.getElem?_cons_succ, List.getElem?_cons_zero]; rfl) (fun hi => ?_)
            refine wpAnyH_take (v := ?_) hi (by kernel_rfl) (by kernel_rfl) (by kernel_rfl) (fun _ _ _ h => h) (Or.inl ⟨by rfl, ?_⟩) (by assumption) ?_
            rotate_left
            · intro w hSw; (try dsimp only at hSw); go_simp; try (with_reducible rfl)
            clear hi; try simp only [Act.put, List.setIfInBounds_toArray, List.set_cons_zero, List.set_cons_succ]
            refine hand_op (i := 17) (by simp only [List.getElem?_toArray, List.getElem?_cons_succ, List.getElem?_cons_zero]; rfl) (fun hi => ?_)
            refine wpAnyH_take (v := ?_) hi (by kernel_rfl) (by kernel_rfl) (by kernel_rfl) (fun _ _ _ h => h) (Or.inl ⟨by rfl, ?_⟩) (by assumption) ?_
            rotate_left
            · intro w hSw; (try dsimp only at hSw); go_simp; try (with_reducible rfl)
            clear hi; try simp only [Act.put, List.setIfInBounds_toArray, List.set_cons_zero, List.set_cons_succ]
            refine hand_op (i := 18) (by simp only [List.getElem?_toArray, List.getElem?_cons_succ, List.getElem?_cons_zero]; rfl) (fun hi => ?_)
            refine wpAnyH_take (v := ?_) hi (by kernel_rfl) (by kernel_rfl) (by kernel_rfl) (fun _ _ _ h => h) (Or.inl ⟨by rfl, ?_⟩) (by assumption) ?_
            rotate_left
            · intro w hSw; (try dsimp only at hSw); go_simp; try (with_reducible rfl)
            clear hi; try simp only [Act.put, List.setIfInBounds_toArray, List.set_cons_zero, List.set_cons_succ]
            refine hand_op (i := 19) (by simp only [List.getElem?_toArray, List.getElem?_cons_succ, List.getElem?_cons_zero]; rfl) (fun hi => ?_)
            refine wpAnyH_take (v := ?_) hi (by kernel_rfl) (by kernel_rfl) (by kernel_rfl) (fun _ _ _ h => h) (Or.inl ⟨by rfl, ?_⟩) (by assumption) ?_
            rotate_left
            · intro w hSw; (try dsimp only at hSw); go_simp; try (with_reducible rfl)
            clear hi; try simp only [Act.put, List.setIfInBounds_toArray, List.set_cons_zero, List.set_cons_succ]
            refine hand_op (i := 20) (by simp only [List.getElem?_toArray, List.getElem?_cons_succ, List.getElem?_cons_zero]; rfl) (fun hi => ?_)
            refine wpAnyH_take (v := ?_) hi (by kernel_rfl) (by kernel_rfl) (by kernel_rfl) (fun _ _ _ h => h) (Or.inl ⟨by rfl, ?_⟩) (by assumption) ?_
            rotate_left
            · intro w hSw; (try dsimp only at hSw); go_simp; try (with_reducible rfl)
            clear hi; try simp only [Act.put, List.setIfInBounds_toArray, List.set_cons_zero, List.set_cons_succ]
            refine hand_op (i := 21) (by simp only [List.getElem?_toArray, List.getElem?_cons_succ, List.getElem?_cons_zero]; rfl) (fun hi => ?_)
            refine wpAnyH_ready (rs := [21]) (by kernel_rfl) (by simp) ?_
            refine AllReadyH.cons hi (fun K hK => ?_) AllReadyH.nil
            go_simp
            (go_at_call 17; (with_reducible refine (lattice_Below.calls 64 t b1 A1 c1 r1 true At ct rt true _ (HROW2.out _ HB23.out).1 HL1.out (HROW2.out _ HB23.out).2.2.2.2.1 HLT.out B4.out).mono ?_); rintro e w24 ⟨rfl, hb24⟩; have HB24 : Aside0 (Below W17.heap.size W17 w24) := ⟨GL.below_then HB23.out HB23.out.size hb24⟩; clear hb24)
            try (go_wp2_with fail)
            refine hK.out _ _ ?_ (fun hHeld => ?_)
            · (first | exact HS2.out _ HB30.out | exact HS2.out _ HB29.out | exact HS2.out _ HB28.out | exact HS2.out _ HB27.out | exact HS2.out _ HB26.out | exact HS2.out _ HB25.out | exact HS2.out _ HB24.out | exact HS2.out _ HB23.out | exact HS2.out _ HB22.out | exact HS2.out _ HB21.out | exact HS2.out _ HB20.out | exact HS2.out _ HD2.out | exact HS2.out _ (Below.refl _ _) | fail)
            clear hK K hi; try simp only [Act.put, List.setIfInBounds_toArray, List.set_cons_zero, List.set_cons_succ]
            refine hand_op (i := 22) (by simp only [List.getElem?_toArray, List.getElem?_cons_succ, List.getElem?_cons_zero]; rfl) (fun hi => ?_)
            refine wpAnyH_take (v := ?_) hi (by kernel_rfl) (by kernel_rfl) (by kernel_rfl) (fun _ _ _ h => h) (Or.inl ⟨by rfl, ?_⟩) (by assumption) ?_
            rotate_left
            · intro w hSw; (try dsimp only at hSw); go_simp; try (with_reducible rfl)
            clear hi; try simp only [Act.put, List.setIfInBounds_toArray, List.set_cons_zero, List.set_cons_succ]
            refine hand_op (i := 23) (by simp only [List.getElem?_toArray, List.getElem?_cons_succ, List.getElem?_cons_zero]; rfl) (fun hi => ?_)
            refine wpAnyH_take (v := ?_) hi (by kernel_rfl) (by kernel_rfl) (by kernel_rfl) (fun _ _ _ h => h) (Or.inl ⟨by rfl, ?_⟩) (by assumption) ?_
            rotate_left
            · intro w hSw; (try dsimp only at hSw); go_simp; try (with_reducible rfl)
            clear hi; try simp only [Act.put, List.setIfInBounds_toArray, List.set_cons_zero, List.set_cons_succ]
            refine hand_op (i := 24) (by simp only [List.getElem?_toArray, List.getElem?_cons_succ, List.getElem?_cons_zero]; rfl) (fun hi => ?_)
            refine wpAnyH_take (v := ?_) hi (by kernel_rfl) (by kernel_rfl) (by kernel_rfl) (fun _ _ _ h => h) (Or.inl ⟨by rfl, ?_⟩) (by assumption) ?_
            rotate_left
            · intro w hSw; (try dsimp only at hSw); go_simp; try (with_reducible rfl)
            clear hi; try simp only [Act.put, List.setIfInBounds_toArray, List.set_cons_zero, List.set_cons_succ]
            refine hand_op (i := 25) (by simp only [List.getElem?_toArray, List.getElem?_cons_succ, List.getElem?_cons_zero]; rfl) (fun hi => ?_)
            refine wpAnyH_take (v := ?_) hi (by kernel_rfl) (by kernel_rfl) (by kernel_rfl) (fun _ _ _ h => h) (Or.inl ⟨by rfl, ?_⟩) (by assumption) ?_
            rotate_left
            · intro w hSw; (try dsimp only at hSw); go_simp; try (with_reducible rfl)
            clear hi; try simp only [Act.put, List.setIfInBounds_toArray, List.set_cons_zero, List.set_cons_succ]
            refine hand_op (i := 26) (by simp only [List.getElem?_toArray, List.getElem?_cons_succ, List.getElem?_cons_zero]; rfl) (fun hi => ?_)
            refine wpAnyH_take (v := ?_) hi (by kernel_rfl) (by kernel_rfl) (by kernel_rfl) (fun _ _ _ h => h) (Or.inl ⟨by rfl, ?_⟩) (by assumption) ?_
            rotate_left
            · intro w hSw; (try dsimp only at hSw); go_simp; try (with_reducible rfl)
            clear hi; try simp only [Act.put, List.setIfInBounds_toArray, List.set_cons_zero, List.set_cons_succ]
            refine hand_op (i := 27) (by simp only [List.getElem?_toArray, List.getElem?_cons_succ, List.getElem?_cons_zero]; rfl) (fun hi => ?_)
            refine wpAnyH_ready (rs := [27]) (by kernel_rfl) (by simp) ?_
            refine AllReadyH.cons hi (fun K hK => ?_) AllReadyH.nil
            go_simp
            (go_at_call 17; (with_reducible refine (lattice_Below.calls 64 t b1 A1 c1 r1 b1 A1 c1 r1 true _ (HROW2.out _ HB24.out).1 HL1.out (HROW2.out _ HB24.out).1 HL1.out B5.out).mono ?_); rintro e w25 ⟨rfl, hb25⟩; have HB25 : Aside0 (Below W17.heap.size W17 w25) := ⟨GL.below_then HB24.out HB24.out.size hb25⟩; clear hb25)
            try (go_wp2_with fail)
            refine hK.out _ _ ?_ (fun hHeld => ?_)
            · (first | exact HS2.out _ HB30.out | exact HS2.out _ HB29.out | exact HS2.out _ HB28.out | exact HS2.out _ HB27.out | exact HS2.out _ HB26.out | exact HS2.out _ HB25.out | exact HS2.out _ HB24.out | exact HS2.out _ HB23.out | exact HS2.out _ HB22.out | exact HS2.out _ HB21.out | exact HS2.out _ HB20.out | exact HS2.out _ HD2.out | exact HS2.out _ (Below.refl _ _) | fail)
            clear hK K hi; try simp only [Act.put, List.setIfInBounds_toArray, List.set_cons_zero, List.set_cons_succ]
            refine hand_op (i := 28) (by simp only [List.getElem?_toArray, List.getElem?_cons_succ, List.getElem?_cons_zero]; rfl) (fun hi => ?_)
            refine wpAnyH_take (v := ?_) hi (by kernel_rfl) (by kernel_rfl) (by kernel_rfl) (fun _ _ _ h => h) (Or.inl ⟨by rfl, ?_⟩) (by assumption) ?_
            rotate_left
            · intro w hSw; (try dsimp only at hSw); go_simp; try (with_reducible rfl)
            clear hi; try simp only [Act.put, List.setIfInBounds_toArray, List.set_cons_zero, List.set_cons_succ]
            refine hand_op (i := 29) (by simp only [List.getElem?_toArray, List.getElem?_cons_succ, List.getElem?_cons_zero]; rfl) (fun hi => ?_)
            refine wpAnyH_take (v := ?_) hi (by kernel_rfl) (by kernel_rfl) (by kernel_rfl) (fun _ _ _ h => h) (Or.inl ⟨by rfl, ?_⟩) (by assumption) ?_
            rotate_left
            · intro w hSw; (try dsimp only at hSw); go_simp; try (with_reducible rfl)
            clear hi; try simp only [Act.put, List.setIfInBounds_toArray, List.set_cons_zero, List.set_cons_succ]
            refine hand_op (i := 30) (by simp only [List.getElem?_toArray, List.getElem?_cons_succ, List.getElem?_cons_zero]; rfl) (fun hi => ?_)
            refine wpAnyH_take (v := ?_) hi (by kernel_rfl) (by kernel_rfl) (by kernel_rfl) (fun _ _ _ h => h) (Or.inl ⟨by rfl, ?_⟩) (by assumption) ?_
            rotate_left
            · intro w hSw; (try dsimp only at hSw); go_simp; try (with_reducible rfl)
            clear hi; try simp only [Act.put, List.setIfInBounds_toArray, List.set_cons_zero, List.set_cons_succ]
            refine hand_op (i := 31) (by simp only [List.getElem?_toArray, List.getElem?_cons_succ, List.getElem?_cons_zero]; rfl) (fun hi => ?_)
            refine wpAnyH_take (v := ?_) hi (by kernel_rfl) (by kernel_rfl) (by kernel_rfl) (fun _ _ _ h => h) (Or.inl ⟨by rfl, ?_⟩) (by assumption) ?_
            rotate_left
            · intro w hSw; (try dsimp only at hSw); go_simp; try (with_reducible rfl)
            clear hi; try simp only [Act.put, List.setIfInBounds_toArray, List.set_cons_zero, List.set_cons_succ]
            refine hand_op (i := 32) (by simp only [List.getElem?_toArray, List.getElem?_cons_succ, List.getElem?_cons_zero]; rfl) (fun hi => ?_)
            refine wpAnyH_take (v := ?_) hi (by kernel_rfl) (by kernel_rfl) (by kernel_rfl) (fun _ _ _ h => h) (Or.inl ⟨by rfl, ?_⟩) (by assumption) ?_
            rotate_left
            · intro w hSw; (try dsimp only at hSw); go_simp; try (with_reducible rfl)
            clear hi; try simp only [Act.put, List.setIfInBounds_toArray, List.set_cons_zero, List.set_cons_succ]
            refine hand_op (i := 33) (by simp only [List.getElem?_toArray, List.getElem?_cons_succ, List.getElem?_cons_zero]; rfl) (fun hi => ?_)
            refine wpAnyH_ready (rs := [33]) (by kernel_rfl) (by simp) ?_
            refine AllReadyH.cons hi (fun K hK => ?_) AllReadyH.nil
            go_simp
            (go_at_call 17; (with_reducible refine (lattice_Below.calls 64 t b1 A1 c1 r1 b2 A2 c2 r2 true _ (HROW2.out _ HB25.out).1 HL1.out (HROW2.out _ HB25.out).2.1 HL2.out FAB.out).mono ?_); rintro e w26 ⟨rfl, hb26⟩; have HB26 : Aside0 (Below W17.heap.size W17 w26) := ⟨GL.below_then HB25.out HB25.out.size hb26⟩; clear hb26)
            try (go_wp2_with fail)
            refine hK.out _ _ ?_ (fun hHeld => ?_)
            · (first | exact HS2.out _ HB30.out | exact HS2.out _ HB29.out | exact HS2.out _ HB28.out | exact HS2.out _ HB27.out | exact HS2.out _ HB26.out | exact HS2.out _ HB25.out | exact HS2.out _ HB24.out | exact HS2.out _ HB23.out | exact HS2.out _ HB22.out | exact HS2.out _ HB21.out | exact HS2.out _ HB20.out | exact HS2.out _ HD2.out | exact HS2.out _ (Below.refl _ _) | fail)
            clear hK K hi; try simp only [Act.put, List.setIfInBounds_toArray, List.set_cons_zero, List.set_cons_succ]
            refine hand_op (i := 34) (by simp only [List.getElem?_toArray, List.getElem?_cons_succ, List.getElem?_cons_zero]; rfl) (fun hi => ?_)
            refine wpAnyH_take (v := ?_) hi (by kernel_rfl) (by kernel_rfl) (by kernel_rfl) (fun _ _ _ h => h) (Or.inl ⟨by rfl, ?_⟩) (by assumption) ?_
            rotate_left
            · intro w hSw; (try dsimp only at hSw); go_simp; try (with_reducible rfl)
            clear hi; try simp only [Act.put, List.setIfInBounds_toArray, List.set_cons_zero, List.set_cons_succ]
            refine hand_op (i := 35) (by simp only [List.getElem?_toArray, List.getElem?_cons_succ, List.getElem?_cons_zero]; rfl) (fun hi => ?_)
            refine wpAnyH_take (v := ?_) hi (by kernel_rfl) (by kernel_rfl) (by kernel_rfl) (fun _ _ _ h => h) (Or.inl ⟨by rfl, ?_⟩) (by assumption) ?_
            rotate_left
            · intro w hSw; (try dsimp only at hSw); go_simp; try (with_reducible rfl)
            clear hi; try simp only [Act.put, List.setIfInBounds_toArray, List.set_cons_zero, List.set_cons_succ]
            refine hand_op (i := 36) (by simp only [List.getElem?_toArray, List.getElem?_cons_succ, List.getElem?_cons_zero]; rfl) (fun hi => ?_)
            refine wpAnyH_take (v := ?_) hi (by kernel_rfl) (by kernel_rfl) (by kernel_rfl) (fun _ _ _ h => h) (Or.inl ⟨by rfl, ?_⟩) (by assumption) ?_
            rotate_left
            · intro w hSw; (try dsimp only at hSw); go_simp; try (with_reducible rfl)
            clear hi; try simp only [Act.put, List.setIfInBounds_toArray, List.set_cons_zero, List.set_cons_succ]
            refine hand_op (i := 37) (by simp only [List.getElem?_toArray, List.getElem?_cons_succ, List.getElem?_cons_zero]; rfl) (fun hi => ?_)
            refine wpAnyH_take (v := ?_) hi (by kernel_rfl) (by kernel_rfl) (by kernel_rfl) (fun _ _ _ h => h) (Or.inl ⟨by rfl, ?_⟩) (by assumption) ?_
            rotate_left
            · intro w hSw; (try dsimp only at hSw); go_simp; try (with_reducible rfl)
            clear hi; try simp only [Act.put, List.setIfInBounds_toArray, List.set_cons_zero, List.set_cons_succ]
            refine hand_op (i := 38) (by simp only [List.getElem?_toArray, List.getElem?_cons_succ, List.getElem?_cons_zero]; rfl) (fun hi => ?_)
            refine wpAnyH_take (v := ?_) hi (by kernel_rfl) (by kernel_rfl) (by kernel_rfl) (fun _ _ _ h => h) (Or.inl ⟨by rfl, ?_⟩) (by assumption) ?_
            rotate_left
            · intro w hSw; (try dsimp only at hSw); go_simp; try (with_reducible rfl)
            clear hi; try simp only [Act.put, List.setIfInBounds_toArray, List.set_cons_zero, List.set_cons_succ]
            refine hand_op (i := 39) (by simp only [List.getElem?_toArray, List.getElem?_cons_succ, List.getElem?_cons_zero]; rfl) (fun hi => ?_)
            refine wpAnyH_ready (rs := [39]) (by kernel_rfl) (by simp) ?_
            refine AllReadyH.cons hi (fun K hK => ?_) AllReadyH.nil
            go_simp
            (go_at_call 17; (with_reducible refine (lattice_Below.calls 64 t b2 A2 c2 r2 b1 A1 c1 r1 false _ (HROW2.out _ HB26.out).2.1 HL2.out (HROW2.out _ HB26.out).1 HL1.out FBA2.out).mono ?_); rintro e w27 ⟨rfl, hb27⟩; have HB27 : Aside0 (Below W17.heap.size W17 w27) := ⟨GL.below_then HB26.out HB26.out.size hb27⟩; clear hb27)
            try (go_wp2_with fail)
            refine hK.out _ _ ?_ (fun hHeld => ?_)
            · (first | exact HS2.out _ HB30.out | exact HS2.out _ HB29.out | exact HS2.out _ HB28.out | exact HS2.out _ HB27.out | exact HS2.out _ HB26.out | exact HS2.out _ HB25.out | exact HS2.out _ HB24.out | exact HS2.out _ HB23.out | exact HS2.out _ HB22.out | exact HS2.out _ HB21.out | exact HS2.out _ HB20.out | exact HS2.out _ HD2.out | exact HS2.out _ (Below.refl _ _) | fail)
            clear hK K hi; try simp only [Act.put, List.setIfInBounds_toArray, List.set_cons_zero, List.set_cons_succ]
            refine hand_op (i := 40) (by simp only [List.getElem?_toArray, List.getElem?_cons_succ, List.getElem?_cons_zero]; rfl) (fun hi => ?_)
            refine wpAnyH_take (v := ?_) hi (by kernel_rfl) (by kernel_rfl) (by kernel_rfl) (fun _ _ _ h => h) (Or.inl ⟨by rfl, ?_⟩) (by assumption) ?_
            rotate_left
            · intro w hSw; (try dsimp only at hSw); go_simp; try (with_reducible rfl)
            clear hi; try simp only [Act.put, List.setIfInBounds_toArray, List.set_cons_zero, List.set_cons_succ]
            refine hand_op (i := 41) (by simp only [List.getElem?_toArray, List.getElem?_cons_succ, List.getElem?_cons_zero]; rfl) (fun hi => ?_)
            refine wpAnyH_take (v := ?_) hi (by kernel_rfl) (by kernel_rfl) (by kernel_rfl) (fun _ _ _ h => h) (Or.inl ⟨by rfl, ?_⟩) (by assumption) ?_
            rotate_left
            · intro w hSw; (try dsimp only at hSw); go_simp; try (with_reducible rfl)
            clear hi; try simp only [Act.put, List.setIfInBounds_toArray, List.set_cons_zero, List.set_cons_succ]
            refine hand_op (i := 42) (by simp only [List.getElem?_toArray, List.getElem?_cons_succ, List.getElem?_cons_zero]; rfl) (fun hi => ?_)
            refine wpAnyH_take (v := ?_) hi (by kernel_rfl) (by kernel_rfl) (by kernel_rfl) (fun _ _ _ h => h) (Or.inl ⟨by rfl, ?_⟩) (by assumption) ?_
            rotate_left
            · intro w hSw; (try dsimp only at hSw); go_simp; try (with_reducible rfl)
            clear hi; try simp only [Act.put, List.setIfInBounds_toArray, List.set_cons_zero, List.set_cons_succ]
            refine hand_op (i := 43) (by simp only [List.getElem?_toArray, List.getElem?_cons_succ, List.getElem?_cons_zero]; rfl) (fun hi => ?_)
            refine wpAnyH_take (v := undef) hi (by kernel_rfl) (by kernel_rfl) (by kernel_rfl) (fun _ _ _ h => h) (Or.inr ⟨by rfl, rfl⟩) (by assumption) ?_
            clear hi; try simp only [Act.put, List.setIfInBounds_toArray, List.set_cons_zero, List.set_cons_succ]
            refine hand_op (i := 44) (by simp only [List.getElem?_toArray, List.getElem?_cons_succ, List.getElem?_cons_zero]; rfl) (fun hi => ?_)
            refine wpAnyH_take (v := undef) hi (by kernel_rfl) (by kernel_rfl) (by kernel_rfl) (fun _ _ _ h => h) (Or.inr ⟨by rfl, rfl⟩) (by assumption) ?_
            clear hi; try simp only [Act.put, List.setIfInBounds_toArray, List.set_cons_zero, List.set_cons_succ]
            refine hand_op (i := 45) (by simp only [List.getElem?_toArray, List.getElem?_cons_succ, List.getElem?_cons_zero]; rfl) (fun hi => ?_)
            refine wpAnyH_take (v := undef) hi (by kernel_rfl) (by kernel_rfl) (by kernel_rfl) (fun _ _ _ h => h) (Or.inr ⟨by rfl, rfl⟩) (by assumption) ?_
            clear hi; try simp only [Act.put, List.setIfInBounds_toArray, List.set_cons_zero, List.set_cons_succ]
            refine hand_op (i := 46) (by simp only [List.getElem?_toArray, List.getElem?_cons_succ, List.getElem?_cons_zero]; rfl) (fun hi => ?_)
            refine wpAnyH_take (v := ?_) hi (by kernel_rfl) (by kernel_rfl) (by kernel_rfl) (fun _ _ _ h => h) (Or.inl ⟨by rfl, ?_⟩) (by assumption) ?_
            rotate_left
            · intro w hSw; (try dsimp only at hSw); go_simp; try (with_reducible rfl)
            clear hi; try simp only [Act.put, List.setIfInBounds_toArray, List.set_cons_zero, List.set_cons_succ]
            refine hand_op (i := 47) (by simp only [List.getElem?_toArray, List.getElem?_cons_succ, List.getElem?_cons_zero]; rfl) (fun hi => ?_)
            refine wpAnyH_take (v := ?_) hi (by kernel_rfl) (by kernel_rfl) (by kernel_rfl) (fun _ _ _ h => h) (Or.inl ⟨by rfl, ?_⟩) (by assumption) ?_
            rotate_left
            · intro w hSw; (try dsimp only at hSw); go_simp; try (with_reducible rfl)
            clear hi; try simp only [Act.put, List.setIfInBounds_toArray, List.set_cons_zero, List.set_cons_succ]
            refine hand_op (i := 48) (by simp only [List.getElem?_toArray, List.getElem?_cons_succ, List.getElem?_cons_zero]; rfl) (fun hi => ?_)
            refine wpAnyH_take (v := ?_) hi (by kernel_rfl) (by kernel_rfl) (by kernel_rfl) (fun _ _ _ h => h) (Or.inl ⟨by rfl, ?_⟩) (by assumption) ?_
            rotate_left
            · intro w hSw; (try dsimp only at hSw); go_simp; try (with_reducible rfl)
            clear hi; try simp only [Act.put, List.setIfInBounds_toArray, List.set_cons_zero, List.set_cons_succ]
            refine hand_op (i := 49) (by simp only [List.getElem?_toArray, List.getElem?_cons_succ, List.getElem?_cons_zero]; rfl) (fun hi => ?_)
            refine wpAnyH_take (v := ?_) hi (by kernel_rfl) (by kernel_rfl) (by kernel_rfl) (fun _ _ _ h => h) (Or.inl ⟨by rfl, ?_⟩) (by assumption) ?_
            rotate_left
            · intro w hSw; (try dsimp only at hSw); go_simp; try (with_reducible rfl)
            clear hi; try simp only [Act.put, List.setIfInBounds_toArray, List.set_cons_zero, List.set_cons_succ]
            refine hand_op (i := 50) (by simp only [List.getElem?_toArray, List.getElem?_cons_succ, List.getElem?_cons_zero]; rfl) (fun hi => ?_)
            refine wpAnyH_take (v := ?_) hi (by kernel_rfl) (by kernel_rfl) (by kernel_rfl) (fun _ _ _ h => h) (Or.inl ⟨by rfl, ?_⟩) (by assumption) ?_
            rotate_left
            · intro w hSw; (try dsimp only at hSw); go_simp; try (with_reducible rfl)
            clear hi; try simp only [Act.put, List.setIfInBounds_toArray, List.set_cons_zero, List.set_cons_succ]
            refine hand_op (i := 51) (by simp only [List.getElem?_toArray, List.getElem?_cons_succ, List.getElem?_cons_zero]; rfl) (fun hi => ?_)
            refine wpAnyH_take (v := ?_) hi (by kernel_rfl) (by kernel_rfl) (by kernel_rfl) (fun _ _ _ h => h) (Or.inl ⟨by rfl, ?_⟩) (by assumption) ?_
            rotate_left
            · intro w hSw; (try dsimp only at hSw); go_simp; try (with_reducible rfl)
            clear hi; try simp only [Act.put, List.setIfInBounds_toArray, List.set_cons_zero, List.set_cons_succ]
            refine hand_op (i := 52) (by simp only [List.getElem?_toArray, List.getElem?_cons_succ, List.getElem?_cons_zero]; rfl) (fun hi => ?_)
            refine wpAnyH_ready (rs := [52]) (by kernel_rfl) (by simp) ?_
            refine AllReadyH.cons hi (fun K hK => ?_) AllReadyH.nil
            go_simp
            (go_at_call 17; (with_reducible refine (lattice_Below.calls 64 t b1 A1 c1 r1 b2 A2 c2 r2 true _ (HROW2.out _ HB27.out).1 HL1.out (HROW2.out _ HB27.out).2.1 HL2.out FAB.out).mono ?_); rintro e w28 ⟨rfl, hb28⟩; have HB28 : Aside0 (Below W17.heap.size W17 w28) := ⟨GL.below_then HB27.out HB27.out.size hb28⟩; clear hb28)
            try (go_wp2_with fail)
            refine hK.out _ _ ?_ (fun hHeld => ?_)
            · (first | exact HS2.out _ HB30.out | exact HS2.out _ HB29.out | exact HS2.out _ HB28.out | exact HS2.out _ HB27.out | exact HS2.out _ HB26.out | exact HS2.out _ HB25.out | exact HS2.out _ HB24.out | exact HS2.out _ HB23.out | exact HS2.out _ HB22.out | exact HS2.out _ HB21.out | exact HS2.out _ HB20.out | exact HS2.out _ HD2.out | exact HS2.out _ (Below.refl _ _) | fail)
            clear hK K hi; try simp only [Act.put, List.setIfInBounds_toArray, List.set_cons_zero, List.set_cons_succ]
            refine hand_op (i := 53) (by simp only [List.getElem?_toArray, List.getElem?_cons_succ, List.getElem?_cons_zero]; rfl) (fun hi => ?_)
            refine wpAnyH_take (v := ?_) hi (by kernel_rfl) (by kernel_rfl) (by kernel_rfl) (fun _ _ _ h => h) (Or.inl ⟨by rfl, ?_⟩) (by assumption) ?_
            rotate_left
            · intro w hSw; (try dsimp only at hSw); go_simp; try (with_reducible rfl)
            clear hi; try simp only [Act.put, List.setIfInBounds_toArray, List.set_cons_zero, List.set_cons_succ]
            refine hand_op (i := 54) (by simp only [List.getElem?_toArray, List.getElem?_cons_succ, List.getElem?_cons_zero]; rfl) (fun hi => ?_)
            refine wpAnyH_take (v := ?_) hi (by kernel_rfl) (by kernel_rfl) (by kernel_rfl) (fun _ _ _ h => h) (Or.inl ⟨by rfl, ?_⟩) (by assumption) ?_
            rotate_left
            · intro w hSw; (try dsimp only at hSw); go_simp; try (with_reducible rfl)
            clear hi; try simp only [Act.put, List.setIfInBounds_toArray, List.set_cons_zero, List.set_cons_succ]
            refine hand_op (i := 55) (by simp only [List.getElem?_toArray, List.getElem?_cons_succ, List.getElem?_cons_zero]; rfl) (fun hi => ?_)
            refine wpAnyH_take (v := ?_) hi (by kernel_rfl) (by kernel_rfl) (by kernel_rfl) (fun _ _ _ h => h) (Or.inl ⟨by rfl, ?_⟩) (by assumption) ?_
            rotate_left
            · intro w hSw; (try dsimp only at hSw); go_simp; try (with_reducible rfl)
            clear hi; try simp only [Act.put, List.setIfInBounds_toArray, List.set_cons_zero, List.set_cons_succ]
            refine hand_op (i := 56) (by simp only [List.getElem?_toArray, List.getElem?_cons_succ, List.getElem?_cons_zero]; rfl) (fun hi => ?_)
            refine wpAnyH_take (v := ?_) hi (by kernel_rfl) (by kernel_rfl) (by kernel_rfl) (fun _ _ _ h => h) (Or.inl ⟨by rfl, ?_⟩) (by assumption) ?_
            rotate_left
            · intro w hSw; (try dsimp only at hSw); go_simp; try (with_reducible rfl)
            clear hi; try simp only [Act.put, List.setIfInBounds_toArray, List.set_cons_zero, List.set_cons_succ]
            refine hand_op (i := 57) (by simp only [List.getElem?_toArray, List.getElem?_cons_succ, List.getElem?_cons_zero]; rfl) (fun hi => ?_)
            refine wpAnyH_take (v := ?_) hi (by kernel_rfl) (by kernel_rfl) (by kernel_rfl) (fun _ _ _ h => h) (Or.inl ⟨by rfl, ?_⟩) (by assumption) ?_
            rotate_left
            · intro w hSw; (try dsimp only at hSw); go_simp; try (with_reducible rfl)
            clear hi; try simp only [Act.put, List.setIfInBounds_toArray, List.set_cons_zero, List.set_cons_succ]
            refine hand_op (i := 58) (by simp only [List.getElem?_toArray, List.getElem?_cons_succ, List.getElem?_cons_zero]; rfl) (fun hi => ?_)
            refine wpAnyH_ready (rs := [58]) (by kernel_rfl) (by simp) ?_
            refine AllReadyH.cons hi (fun K hK => ?_) AllReadyH.nil
            go_simp
            (go_at_call 17; (with_reducible refine (lattice_Below.calls 64 t b2 A2 c2 r2 b3 A3 c3 r3 true _ (HROW2.out _ HB28.out).2.1 HL2.out (HROW2.out _ HB28.out).2.2.1 HL3.out FBC.out).mono ?_); rintro e w29 ⟨rfl, hb29⟩; have HB29 : Aside0 (Below W17.heap.size W17 w29) := ⟨GL.below_then HB28.out HB28.out.size hb29⟩; clear hb29)
            try (go_wp2_with fail)
            refine hK.out _ _ ?_ (fun hHeld => ?_)
            · (first | exact HS2.out _ HB30.out | exact HS2.out _ HB29.out | exact HS2.out _ HB28.out | exact HS2.out _ HB27.out | exact HS2.out _ HB26.out | exact HS2.out _ HB25.out | exact HS2.out _ HB24.out | exact HS2.out _ HB23.out | exact HS2.out _ HB22.out | exact HS2.out _ HB21.out | exact HS2.out _ HB20.out | exact HS2.out _ HD2.out | exact HS2.out _ (Below.refl _ _) | fail)
            clear hK K hi; try simp only [Act.put, List.setIfInBounds_toArray, List.set_cons_zero, List.set_cons_succ]
            refine hand_op (i := 59) (by simp only [List.getElem?_toArray, List.getElem?_cons_succ, List.getElem?_cons_zero]; rfl) (fun hi => ?_)
            refine wpAnyH_take (v := ?_) hi (by kernel_rfl) (by kernel_rfl) (by kernel_rfl) (fun _ _ _ h => h) (Or.inl ⟨by rfl, ?_⟩) (by assumption) ?_
            rotate_left
            · intro w hSw; (try dsimp only at hSw); go_simp; try (with_reducible rfl)
            clear hi; try simp only [Act.put, List.setIfInBounds_toArray, List.set_cons_zero, List.set_cons_succ]
            refine hand_op (i := 60) (by simp only [List.getElem?_toArray, List.getElem?_cons_succ, List.getElem?_cons_zero]; rfl) (fun hi => ?_)
            refine wpAnyH_take (v := ?_) hi (by kernel_rfl) (by kernel_rfl) (by kernel_rfl) (fun _ _ _ h => h) (Or.inl ⟨by rfl, ?_⟩) (by assumption) ?_
            rotate_left
            · intro w hSw; (try dsimp only at hSw); go_simp; try (with_reducible rfl)
            clear hi; try simp only [Act.put, List.setIfInBounds_toArray, List.set_cons_zero, List.set_cons_succ]
            refine hand_op (i := 61) (by simp only [List.getElem?_toArray, List.getElem?_cons_succ, List.getElem?_cons_zero]; rfl) (fun hi => ?_)
            refine wpAnyH_take (v := ?_) hi (by kernel_rfl) (by kernel_rfl) (by kernel_rfl) (fun _ _ _ h => h) (Or.inl ⟨by rfl, ?_⟩) (by assumption) ?_
            rotate_left
            · intro w hSw; (try dsimp only at hSw); go_simp; try (with_reducible rfl)
            clear hi; try simp only [Act.put, List.setIfInBounds_toArray, List.set_cons_zero, List.set_cons_succ]
            refine hand_op (i := 62) (by simp only [List.getElem?_toArray, List.getElem?_cons_succ, List.getElem?_cons_zero]; rfl) (fun hi => ?_)
            refine wpAnyH_take (v := ?_) hi (by kernel_rfl) (by kernel_rfl) (by kernel_rfl) (fun _ _ _ h => h) (Or.inl ⟨by rfl, ?_⟩) (by assumption) ?_
            rotate_left
            · intro w hSw; (try dsimp only at hSw); go_simp; try (with_reducible rfl)
            clear hi; try simp only [Act.put, List.setIfInBounds_toArray, List.set_cons_zero, List.set_cons_succ]
            refine hand_op (i := 63) (by simp only [List.getElem?_toArray, List.getElem?_cons_succ, List.getElem?_cons_zero]; rfl) (fun hi => ?_)
            refine wpAnyH_take (v := ?_) hi (by kernel_rfl) (by kernel_rfl) (by kernel_rfl) (fun _ _ _ h => h) (Or.inl ⟨by rfl, ?_⟩) (by assumption) ?_
            rotate_left
            · intro w hSw; (try dsimp only at hSw); go_simp; try (with_reducible rfl)
            clear hi; try simp only [Act.put, List.setIfInBounds_toArray, List.set_cons_zero, List.set_cons_succ]
            refine hand_op (i := 64) (by simp only [List.getElem?_toArray, List.getElem?_cons_succ, List.getElem?_cons_zero]; rfl) (fun hi => ?_)
            refine wpAnyH_take (v := ?_) hi (by kernel_rfl) (by kernel_rfl) (by kernel_rfl) (fun _ _ _ h => h) (Or.inl ⟨by rfl, ?_⟩) (by assumption) ?_
            rotate_left
            · intro w hSw; (try dsimp only at hSw); go_simp; try (with_reducible rfl)
            clear hi; try simp only [Act.put, List.setIfInBounds_toArray, List.set_cons_zero, List.set_cons_succ]
            refine hand_op (i := 65) (by simp only [List.getElem?_toArray, List.getElem?_cons_succ, List.getElem?_cons_zero]; rfl) (fun hi => ?_)
            refine wpAnyH_ready (rs := [65]) (by kernel_rfl) (by simp) ?_
            refine AllReadyH.cons hi (fun K hK => ?_) AllReadyH.nil
            go_simp
            (go_at_call 17; (with_reducible refine (lattice_Below.calls 64 t b1 A1 c1 r1 b3 A3 c3 r3 true _ (HROW2.out _ HB29.out).1 HL1.out (HROW2.out _ HB29.out).2.2.1 HL3.out FAC.out).mono ?_); rintro e w30 ⟨rfl, hb30⟩; have HB30 : Aside0 (Below W17.heap.size W17 w30) := ⟨GL.below_then HB29.out HB29.out.size hb30⟩; clear hb30)
            try (go_wp2_with fail)
            refine hK.out _ _ ?_ (fun hHeld => ?_)
            · (first | exact HS2.out _ HB30.out | exact HS2.out _ HB29.out | exact HS2.out _ HB28.out | exact HS2.out _ HB27.out | exact HS2.out _ HB26.out | exact HS2.out _ HB25.out | exact HS2.out _ HB24.out | exact HS2.out _ HB23.out | exact HS2.out _ HB22.out | exact HS2.out _ HB21.out | exact HS2.out _ HB20.out | exact HS2.out _ HD2.out | exact HS2.out _ (Below.refl _ _) | fail)
            clear hK K hi; try simp only [Act.put, List.setIfInBounds_toArray, List.set_cons_zero, List.set_cons_succ]
            refine hand_op (i := 66) (by simp only [List.getElem?_toArray, List.getElem?_cons_succ, List.getElem?_cons_zero]; rfl) (fun hi => ?_)
            refine wpAnyH_take (v := ?_) hi (by kernel_rfl) (by kernel_rfl) (by kernel_rfl) (fun _ _ _ h => h) (Or.inl ⟨by rfl, ?_⟩) (by assumption) ?_
            rotate_left
            · intro w hSw; (try dsimp only at hSw); go_simp; try (with_reducible rfl)
            clear hi; try simp only [Act.put, List.setIfInBounds_toArray, List.set_cons_zero, List.set_cons_succ]
            refine hand_op (i := 67) (by simp only [List.getElem?_toArray, List.getElem?_cons_succ, List.getElem?_cons_zero]; rfl) (fun hi => ?_)
            refine wpAnyH_take (v := ?_) hi (by kernel_rfl) (by kernel_rfl) (by kernel_rfl) (fun _ _ _ h => h) (Or.inl ⟨by rfl, ?_⟩) (by assumption) ?_
            rotate_left
            · intro w hSw; (try dsimp only at hSw); go_simp; try (with_reducible rfl)
            clear hi; try simp only [Act.put, List.setIfInBounds_toArray, List.set_cons_zero, List.set_cons_succ]
            refine hand_op (i := 68) (by simp only [List.getElem?_toArray, List.getElem?_cons_succ, List.getElem?_cons_zero]; rfl) (fun hi => ?_)
            refine wpAnyH_take (v := ?_) hi (by kernel_rfl) (by kernel_rfl) (by kernel_rfl) (fun _ _ _ h => h) (Or.inl ⟨by rfl, ?_⟩) (by assumption) ?_
            rotate_left
            · intro w hSw; (try dsimp only at hSw); go_simp; try (with_reducible rfl)
            clear hi; try simp only [Act.put, List.setIfInBounds_toArray, List.set_cons_zero, List.set_cons_succ]
            refine wpAnyH_done (by kernel_rfl) ?_ _
            all_goals (go_wp2_with fail)
            all_goals go_ret
            all_goals exact ⟨rfl, (HROW2.out _ HB30.out).2.2.2.2.2⟩
         | true =>
           rw [hq] at FBA2
           rw [hanti hp hq] at FSAB
           have FBA2 := Aside0.mk FBA2
           have FSAB := Aside0.mk FSAB
           clear hanti htran hp hr hq
           as_aux_lemma =>
            refine wp_region_held_drew (S := (fun W' => W'.cell? ⟨w.heap.size, 0, none⟩ = some (.bool b1) ∧ W'.cell? ⟨w.heap.size, 1, none⟩ = some (.slice A1 r1.length c1) ∧ W'.cell? ⟨w.heap.size + 1, 0, none⟩ = some (.bool b2) ∧ W'.cell? ⟨w.heap.size + 1, 1, none⟩ = some (.slice A2 r2.length c2) ∧ W'.cell? ⟨w.heap.size + 1 + 1, 0, none⟩ = some (.bool b3) ∧ W'.cell? ⟨w.heap.size + 1 + 1, 1, none⟩ = some (.slice A3 r3.length c3) ∧ W'.cell? ⟨w5.heap.size, 0, none⟩ = some (.bool bx) ∧ W'.cell? ⟨w5.heap.size, 1, none⟩ = some (.slice Ax rx.length cx) ∧ W'.cell? ⟨w6.heap.size, 0, none⟩ = some (.bool by_) ∧ W'.cell? ⟨w6.heap.size, 1, none⟩ = some (.slice Ay ry.length cy) ∧ W'.cell? ⟨w16.heap.size, 0, none⟩ = some (.bool true) ∧ W'.cell? ⟨w16.heap.size, 1, none⟩ = some (.slice At rt.length ct))) (by kernel_rfl) ?_ (fun hHeld => ?_)
            · (first | exact HS2.out _ HB31.out | exact HS2.out _ HB30.out | exact HS2.out _ HB29.out | exact HS2.out _ HB28.out | exact HS2.out _ HB27.out | exact HS2.out _ HB26.out | exact HS2.out _ HB25.out | exact HS2.out _ HB24.out | exact HS2.out _ HB23.out | exact HS2.out _ HB22.out | exact HS2.out _ HB21.out | exact HS2.out _ HB20.out | exact HS2.out _ HD2.out | exact HS2.out _ (Below.refl _ _) | fail)
            refine hand_op (i := 0) (by simp only [List.getElem?_toArray, List.getElem?_cons_succ, List.getElem?_cons_zero]; rfl) (fun hi => ?_)
            refine wpAnyH_take (v := ?_) hi (by kernel_rfl) (by kernel_rfl) (by kernel_rfl) (fun _ _ _ h => h) (Or.inl ⟨by rfl, ?_⟩) (by assumption) ?_
            rotate_left
            · intro w hSw; (try dsimp only at hSw); go_simp; try (with_reducible rfl)
            clear hi; try simp only [Act.put, List.setIfInBounds_toArray, List.set_cons_zero, List.set_cons_succ]
            refine hand_op (i := 1) (by simp only [List.getElem?_toArray, List.getElem?_cons_succ, List.getElem?_cons_zero]; rfl) (fun hi => ?_)
            refine wpAnyH_take (v := ?_) hi (by kernel_rfl) (by kernel_rfl) (by kernel_rfl) (fun _ _ _ h => h) (Or.inl ⟨by rfl, ?_⟩) (by assumption) ?_
            rotate_left
            · intro w hSw; (try dsimp only at hSw); go_simp; try (with_reducible rfl)
            clear hi; try simp only [Act.put, List.setIfInBounds_toArray, List.set_cons_zero, List.set_cons_succ]
            refine hand_op (i := 2) (by simp only [List.getElem?_toArray, List.getElem?_cons_succ, List.getElem?_cons_zero]; rfl) (fun hi => ?_)
            refine wpAnyH_take (v := ?_) hi (by kernel_rfl) (by kernel_rfl) (by kernel_rfl) (fun _ _ _ h => h) (Or.inl ⟨by rfl, ?_⟩) (by assumption) ?_
            rotate_left
            · intro w hSw; (try dsimp only at hSw); go_simp; try (with_reducible rfl)
            clear hi; try simp only [Act.put, List.setIfInBounds_toArray, List.set_cons_zero, List.set_cons_succ]
            refine hand_op (i := 3) (by simp only [List.getElem?_toArray, List.getElem?_cons_succ, List.getElem?_cons_zero]; rfl) (fun hi => ?_)
            refine wpAnyH_ready (rs := [3]) (by kernel_rfl) (by simp) ?_
            refine AllReadyH.cons hi (fun K hK => ?_) AllReadyH.nil
            go_simp
            (go_at_call 17; (with_reducible refine (lattice_Below.calls 64 t b1 A1 c1 r1 bx Ax cx rx true _ (HROW2.out _ HD2.out).1 HL1.out (HROW2.out _ HD2.out).2.2.2.1 HLX.out B1.out).mono ?_); rintro e w20 ⟨rfl, hb20⟩; have HB20 : Aside0 (Below W17.heap.size W17 w20) := ⟨GL.below_then HD2.out HD2.out.size hb20⟩; clear hb20)
            try (go_wp2_with fail)
            refine hK.out _ _ ?_ (fun hHeld => ?_)
            · (first | exact HS2.out _ HB31.out | exact HS2.out _ HB30.out | exact HS2.out _ HB29.out | exact HS2.out _ HB28.out | exact HS2.out _ HB27.out | exact HS2.out _ HB26.out | exact HS2.out _ HB25.out | exact HS2.out _ HB24.out | exact HS2.out _ HB23.out | exact HS2.out _ HB22.out | exact HS2.out _ HB21.out | exact HS2.out _ HB20.out | exact HS2.out _ HD2.out | exact HS2.out _ (Below.refl _ _) | fail)
            clear hK K hi; try simp only [Act.put, List.setIfInBounds_toArray, List.set_cons_zero, List.set_cons_succ]
            refine hand_op (i := 4) (by simp only [List.getElem?_toArray, List.getElem?_cons_succ, List.getElem?_cons_zero]; rfl) (fun hi => ?_)
            refine wpAnyH_take (v := ?_) hi (by kernel_rfl) (by kernel_rfl) (by kernel_rfl) (fun _ _ _ h => h) (Or.inl ⟨by rfl, ?_⟩) (by assumption) ?_
            rotate_left
            · intro w hSw; (try dsimp only at hSw); go_simp; try (with_reducible rfl)
            clear hi; try simp only [Act.put, List.setIfInBounds_toArray, List.set_cons_zero, List.set_cons_succ]
            refine hand_op (i := 5) (by simp only [List.getElem?_toArray, List.getElem?_cons_succ, List.getElem?_cons_zero]; rfl) (fun hi => ?_)
            refine wpAnyH_take (v := ?_) hi (by kernel_rfl) (by kernel_rfl) (by kernel_rfl) (fun _ _ _ h => h) (Or.inl ⟨by rfl, ?_⟩) (by assumption) ?_
            rotate_left
            · intro w hSw; (try dsimp only at hSw); go_simp; try (with_reducible rfl)
            clear hi; try simp only [Act.put, List.setIfInBounds_toArray, List.set_cons_zero, List.set_cons_succ]
            refine hand_op (i := 6) (by simp only [List.getElem?_toArray, List.getElem?_cons_succ, List.getElem?_cons_zero]; rfl) (fun hi => ?_)
            refine wpAnyH_take (v := ?_) hi (by kernel_rfl) (by kernel_rfl) (by kernel_rfl) (fun _ _ _ h => h) (Or.inl ⟨by rfl, ?_⟩) (by assumption) ?_
            rotate_left
            · intro w hSw; (try dsimp only at hSw); go_simp; try (with_reducible rfl)
            clear hi; try simp only [Act.put, List.setIfInBounds_toArray, List.set_cons_zero, List.set_cons_succ]
            refine hand_op (i := 7) (by simp only [List.getElem?_toArray, List.getElem?_cons_succ, List.getElem?_cons_zero]; rfl) (fun hi => ?_)
            refine wpAnyH_take (v := ?_) hi (by kernel_rfl) (by kernel_rfl) (by kernel_rfl) (fun _ _ _ h => h) (Or.inl ⟨by rfl, ?_⟩) (by assumption) ?_
            rotate_left
            · intro w hSw; (try dsimp only at hSw); go_simp; try (with_reducible rfl)
            clear hi; try simp only [Act.put, List.setIfInBounds_toArray, List.set_cons_zero, List.set_cons_succ]
            refine hand_op (i := 8) (by simp only [List.getElem?_toArray, List.getElem?_cons_succ, List.getElem?_cons_zero]; rfl) (fun hi => ?_)
            refine wpAnyH_ready (rs := [8]) (by kernel_rfl) (by simp) ?_
            refine AllReadyH.cons hi (fun K hK => ?_) AllReadyH.nil
            go_simp
            (go_at_call 17; (with_reducible refine (lattice_Below.calls 64 t b2 A2 c2 r2 bx Ax cx rx true _ (HROW2.out _ HB20.out).2.1 HL2.out (HROW2.out _ HB20.out).2.2.2.1 HLX.out B2.out).mono ?_); rintro e w21 ⟨rfl, hb21⟩; have HB21 : Aside0 (Below W17.heap.size W17 w21) := ⟨GL.below_then HB20.out HB20.out.size hb21⟩; clear hb21)
            try (go_wp2_with fail)
            refine hK.out _ _ ?_ (fun hHeld => ?_)
            · (first | exact HS2.out _ HB31.out | exact HS2.out _ HB30.out | exact HS2.out _ HB29.out | exact HS2.out _ HB28.out | exact HS2.out _ HB27.out | exact HS2.out _ HB26.out | exact HS2.out _ HB25.out | exact HS2.out _ HB24.out | exact HS2.out _ HB23.out | exact HS2.out _ HB22.out | exact HS2.out _ HB21.out | exact HS2.out _ HB20.out | exact HS2.out _ HD2.out | exact HS2.out _ (Below.refl _ _) | fail)
            clear hK K hi; try simp only [Act.put, List.setIfInBounds_toArray, List.set_cons_zero, List.set_cons_succ]
            refine hand_op (i := 9) (by simp only [List.getElem?_toArray, List.getElem?_cons_succ, List.getElem?_cons_zero]; rfl) (fun hi => ?_)
            refine wpAnyH_take (v := ?_) hi (by kernel_rfl) (by kernel_rfl) (by kernel_rfl) (fun _ _ _ h => h) (Or.inl ⟨by rfl, ?_⟩) (by assumption) ?_
            rotate_left
            · intro w hSw; (try dsimp only at hSw); go_simp; try (with_reducible rfl)
            clear hi; try simp only [Act.put, List.setIfInBounds_toArray, List.set_cons_zero, List.set_cons_succ]
            refine hand_op (i := 10) (by simp only [List.getElem?_toArray, List.getElem?_cons_succ, List.getElem?_cons_zero]; rfl) (fun hi => ?_)
            refine wpAnyH_take (v := ?_) hi (by kernel_rfl) (by kernel_rfl) (by kernel_rfl) (fun _ _ _ h => h) (Or.inl ⟨by rfl, ?_⟩) (by assumption) ?_
            rotate_left
            · intro w hSw; (try dsimp only at hSw); go_simp; try (with_reducible rfl)
            clear hi; try simp only [Act.put, List.setIfInBounds_toArray, List.set_cons_zero, List.set_cons_succ]
            refine hand_op (i := 11) (by simp only [List.getElem?_toArray, List.getElem?_cons_succ, List.getElem?_cons_zero]; rfl) (fun hi => ?_)
            refine wpAnyH_take (v := ?_) hi (by kernel_rfl) (by kernel_rfl) (by kernel_rfl) (fun _ _ _ h => h) (Or.inl ⟨by rfl, ?_⟩) (by assumption) ?_
            rotate_left
            · intro w hSw; (try dsimp only at hSw); go_simp; try (with_reducible rfl)
            clear hi; try simp only [Act.put, List.setIfInBounds_toArray, List.set_cons_zero, List.set_cons_succ]
            refine hand_op (i := 12) (by simp only [List.getElem?_toArray, List.getElem?_cons_succ, List.getElem?_cons_zero]; rfl) (fun hi => ?_)
            refine wpAnyH_take (v := ?_) hi (by kernel_rfl) (by kernel_rfl) (by kernel_rfl) (fun _ _ _ h => h) (Or.inl ⟨by rfl, ?_⟩) (by assumption) ?_
            rotate_left
            · intro w hSw; (try dsimp only at hSw); go_simp; try (with_reducible rfl)
            clear hi; try simp only [Act.put, List.setIfInBounds_toArray, List.set_cons_zero, List.set_cons_succ]
            refine hand_op (i := 14) (by simp only [List.getElem?_toArray, List.getElem?_cons_succ, List.getElem?_cons_zero]; rfl) (fun hi => ?_)
            refine wpAnyH_take (v := ?_) hi (by kernel_rfl) (by kernel_rfl) (by kernel_rfl) (fun _ _ _ h => h) (Or.inl ⟨by rfl, ?_⟩) (by assumption) ?_
            rotate_left
            · intro w hSw; (try dsimp only at hSw); go_simp; try (with_reducible rfl)
            clear hi; try simp only [Act.put, List.setIfInBounds_toArray, List.set_cons_zero, List.set_cons_succ]
            refine hand_op (i := 13) (by simp only [List.getElem?_toArray, List.getElem?_cons_succ, List.getElem?_cons_zero]; rfl) (fun hi => ?_)
            refine wpAnyH_ready (rs := [13]) (by kernel_rfl) (by simp) ?_
            refine AllReadyH.cons hi (fun K hK => ?_) AllReadyH.nil
            go_simp
            (go_at_call 18; (with_reducible refine (lattice_Bottom.calls n false [] _ rfl).mono ?_); rintro e w22 ⟨v22, rfl, hr22, hb22⟩; obtain ⟨Ab, cb, rfl⟩ := Kd.R_slice hr22; have HBOT : Aside0 (Kd.C (Kd.int .i64) w22 Ab ([] : List Int).length [] ∧ ([] : List Int).length ≤ cb) := ⟨⟨(Kd.R_reads' hr22).2.2, (Kd.R_reads' hr22).2.1⟩⟩; clear hr22; have HB22 : Aside0 (Below W17.heap.size W17 w22) := ⟨GL.below_then HB21.out HB21.out.size hb22⟩; clear hb22)
            try (go_wp2_with fail)
            refine hK.out _ _ ?_ (fun hHeld => ?_)
            · (first | exact HS2.out _ HB31.out | exact HS2.out _ HB30.out | exact HS2.out _ HB29.out | exact HS2.out _ HB28.out | exact HS2.out _ HB27.out | exact HS2.out _ HB26.out | exact HS2.out _ HB25.out | exact HS2.out _ HB24.out | exact HS2.out _ HB23.out | exact HS2.out _ HB22.out | exact HS2.out _ HB21.out | exact HS2.out _ HB20.out | exact HS2.out _ HD2.out | exact HS2.out _ (Below.refl _ _) | fail)
            clear hK K hi; try simp only [Act.put, List.setIfInBounds_toArray, List.set_cons_zero, List.set_cons_succ]
            refine hand_op (i := 15) (by simp only [List.getElem?_toArray, List.getElem?_cons_succ, List.getElem?_cons_zero]; rfl) (fun hi => ?_)
            refine wpAnyH_ready (rs := [15]) (by kernel_rfl) (by simp) ?_
            refine AllReadyH.cons hi (fun K hK => ?_) AllReadyH.nil
            go_simp
            (go_at_call 17; (with_reducible refine (below_bot t Ab cb b1 A1 c1 r1 _ HBOT.out (HROW2.out _ HB22.out).1 HL1.out B3.out).mono ?_); rintro e w23 ⟨rfl, hb23⟩; have HB23 : Aside0 (Below W17.heap.size W17 w23) := ⟨GL.below_then HB22.out HB22.out.size hb23⟩; clear hb23)
            try (go_wp2_with fail)
            refine hK.out _ _ ?_ (fun hHeld => ?_)
            · (first | exact HS2.out _ HB31.out | exact HS2.out _ HB30.out | exact HS2.out _ HB29.out | exact HS2.out _ HB28.out | exact HS2.out _ HB27.out | exact HS2.out _ HB26.out | exact HS2.out _ HB25.out | exact HS2.out _ HB24.out | exact HS2.out _ HB23.out | exact HS2.out _ HB22.out | exact HS2.out _ HB21.out | exact HS2.out _ HB20.out | exact HS2.out _ HD2.out | exact HS2.out _ (Below.refl _ _) | fail)
            clear hK K hi; try simp only [Act.put, List.setIfInBounds_toArray, List.set_cons_zero, List.set_cons_succ]
            refine hand_op (i := 16) (by simp only [List.getElem?_toArray, List.getElem?_cons_succ, List.getElem?_cons_zero]; rfl) (fun hi => ?_)
            refine wpAnyH_take (v := ?_) hi (by kernel_rfl) (by kernel_rfl) (by kernel_rfl) (fun _ _ _ h => h) (Or.inl ⟨by rfl, ?_⟩) (by assumption) ?_
            rotate_left
            · intro w hSw; (try dsimp only at hSw); go_simp; try (with_reducible rfl)
            clear hi; try simp only [Act.put, List.setIfInBounds_toArray, List.set_cons_zero, List.set_cons_succ]
            refine hand_op (i := 17) (by simp only [List.getElem?_toArray, List.getElem?_cons_succ, List.getElem?_cons_zero]; rfl) (fun hi => ?_)
            refine wpAnyH_take (v := ?_) hi (by kernel_rfl) (by kernel_rfl) (by kernel_rfl) (fun _ _ _ h => h) (Or.inl ⟨by rfl, ?_⟩) (by assumption) ?_
            rotate_left
            · intro w hSw; (try dsimp only at hSw); go_simp; try (with_reducible rfl)
            clear hi; try simp only [Act.put, List.setIfInBounds_toArray, List.set_cons_zero, List.set_cons_succ]
            refine hand_op (i := 18) (by simp only [List.getElem?_toArray, List.getElem?_cons_succ, List.getElem?_cons_zero]; rfl) (fun hi => ?_)
            refine wpAnyH_take (v := ?_) hi (by kernel_rfl) (by kernel_rfl) (by kernel_rfl) (fun _ _ _ h => h) (Or.inl ⟨by rfl, ?_⟩) (by assumption) ?_
            rotate_left
            · intro w hSw; (try dsimp only at hSw); go_simp; try (with_reducible rfl)
            clear hi; try simp only [Act.put, List.setIfInBounds_toArray, List.set_cons_zero, List.set_cons_succ]
            refine hand_op (i := 19) (by simp only [List.getElem?_toArray, List.getElem?_cons_succ, List.getElem?_cons_zero]; rfl) (fun hi => ?_)
            refine wpAnyH_take (v := ?_) hi (by kernel_rfl) (by kernel_rfl) (by kernel_rfl) (fun _ _ _ h => h) (Or.inl ⟨by rfl, ?_⟩) (by assumption) ?_
            rotate_left
            · intro w hSw; (try dsimp only at hSw); go_simp; try (with_reducible rfl)
            clear hi; try simp only [Act.put, List.setIfInBounds_toArray, List.set_cons_zero, List.set_cons_succ]
            refine hand_op (i := 20) (by simp only [List.getElem?_toArray, List.getElem?_cons_succ, List.getElem?_cons_zero]; rfl) (fun hi => ?_)
            refine wpAnyH_take (v := ?_) hi (by kernel_rfl) (by kernel_rfl) (by kernel_rfl) (fun _ _ _ h => h) (Or.inl ⟨by rfl, ?_⟩) (by assumption) ?_
            rotate_left
            · intro w hSw; (try dsimp only at hSw); go_simp; try (with_reducible rfl)
            clear hi; try simp only [Act.put, List.setIfInBounds_toArray, List.set_cons_zero, List.set_cons_succ]
            refine hand_op (i := 21) (by simp only [List.getElem?_toArray, List.getElem?_cons_succ, List.getElem?_cons_zero]; rfl) (fun hi => ?_)
            refine wpAnyH_ready (rs := [21]) (by kernel_rfl) (by simp) ?_
            refine AllReadyH.cons hi (fun K hK => ?_) AllReadyH.nil
            go_simp
            (go_at_call 17; (with_reducible refine (lattice_Below.calls 64 t b1 A1 c1 r1 true At ct rt true _ (HROW2.out _ HB23.out).1 HL1.out (HROW2.out _ HB23.out).2.2.2.2.1 HLT.out B4.out).mono ?_); rintro e w24 ⟨rfl, hb24⟩; have HB24 : Aside0 (Below W17.heap.size W17 w24) := ⟨GL.below_then HB23.out HB23.out.size hb24⟩; clear hb24)
            try (go_wp2_with fail)
            refine hK.out _ _ ?_ (fun hHeld => ?_)
            · (first | exact HS2.out _ HB31.out | exact HS2.out _ HB30.out | exact HS2.out _ HB29.out | exact HS2.out _ HB28.out | exact HS2.out _ HB27.out | exact HS2.out _ HB26.out | exact HS2.out _ HB25.out | exact HS2.out _ HB24.out | exact HS2.out _ HB23.out | exact HS2.out _ HB22.out | exact HS2.out _ HB21.out | exact HS2.out _ HB20.out | exact HS2.out _ HD2.out | exact HS2.out _ (Below.refl _ _) | fail)
            clear hK K hi; try simp only [Act.put, List.setIfInBounds_toArray, List.set_cons_zero, List.set_cons_succ]
            refine hand_op (i := 22) (by simp only [List.getElem?_toArray, List.getElem?_cons_succ, List.getElem?_cons_zero]; rfl) (fun hi => ?_)
            refine wpAnyH_take (v := ?_) hi (by kernel_rfl) (by kernel_rfl) (by kernel_rfl) (fun _ _ _ h => h) (Or.inl ⟨by rfl, ?_⟩) (by assumption) ?_
            rotate_left
            · intro w hSw; (try dsimp only at hSw); go_simp; try (with_reducible rfl)
            clear hi; try simp only [Act.put, List.setIfInBounds_toArray, List.set_cons_zero, List.set_cons_succ]
            refine hand_op (i := 23) (by simp only [List.getElem?_toArray, List.getElem?_cons_succ, List.getElem?_cons_zero]; rfl) (fun hi => ?_)
            refine wpAnyH_take (v := ?_) hi (by kernel_rfl) (by kernel_rfl) (by kernel_rfl) (fun _ _ _ h => h) (Or.inl ⟨by rfl, ?_⟩) (by assumption) ?_
            rotate_left
            · intro w hSw; (try dsimp only at hSw); go_simp; try (with_reducible rfl)
            clear hi; try simp only [Act.put, List.setIfInBounds_toArray, List.set_cons_zero, List.set_cons_succ]
            refine hand_op (i := 24) (by simp only [List.getElem?_toArray, List.getElem?_cons_succ, List.getElem?_cons_zero]; rfl) (fun hi => ?_)
            refine wpAnyH_take (v := ?_) hi (by kernel_rfl) (by kernel_rfl) (by kernel_rfl) (fun _ _ _ h => h) (Or.inl ⟨by rfl, ?_⟩) (by assumption) ?_
            rotate_left
            · intro w hSw; (try dsimp only at hSw); go_simp; try (with_reducible rfl)
            clear hi; try simp only [Act.put, List.setIfInBounds_toArray, List.set_cons_zero, List.set_cons_succ]
            refine hand_op (i := 25) (by simp only [List.getElem?_toArray, List.getElem?_cons_succ, List.getElem?_cons_zero]; rfl) (fun hi => ?_)
            refine wpAnyH_take (v := ?_) hi (by kernel_rfl) (by kernel_rfl) (by kernel_rfl) (fun _ _ _ h => h) (Or.inl ⟨by rfl, ?_⟩) (by assumption) ?_
            rotate_left
            · intro w hSw; (try dsimp only at hSw); go_simp; try (with_reducible rfl)
            clear hi; try simp only [Act.put, List.setIfInBounds_toArray, List.set_cons_zero, List.set_cons_succ]
            refine hand_op (i := 26) (by simp only [List.getElem?_toArray, List.getElem?_cons_succ, List.getElem?_cons_zero]; rfl) (fun hi => ?_)
            refine wpAnyH_take (v := ?_) hi (by kernel_rfl) (by kernel_rfl) (by kernel_rfl) (fun _ _ _ h => h) (Or.inl ⟨by rfl, ?_⟩) (by assumption) ?_
            rotate_left
            · intro w hSw; (try dsimp only at hSw); go_simp; try (with_reducible rfl)
            clear hi; try simp only [Act.put, List.setIfInBounds_toArray, List.set_cons_zero, List.set_cons_succ]
            refine hand_op (i := 27) (by simp only [List.getElem?_toArray, List.getElem?_cons_succ, List.getElem?_cons_zero]; rfl) (fun hi => ?_)
            refine wpAnyH_ready (rs := [27]) (by kernel_rfl) (by simp) ?_
            refine AllReadyH.cons hi (fun K hK => ?_) AllReadyH.nil
            go_simp
            (go_at_call 17; (with_reducible refine (lattice_Below.calls 64 t b1 A1 c1 r1 b1 A1 c1 r1 true _ (HROW2.out _ HB24.out).1 HL1.out (HROW2.out _ HB24.out).1 HL1.out B5.out).mono ?_); rintro e w25 ⟨rfl, hb25⟩; have HB25 : Aside0 (Below W17.heap.size W17 w25) := ⟨GL.below_then HB24.out HB24.out.size hb25⟩; clear hb25)
            try (go_wp2_with fail)
            refine hK.out _ _ ?_ (fun hHeld => ?_)
            · (first | exact HS2.out _ HB31.out | exact HS2.out _ HB30.out | exact HS2.out _ HB29.out | exact HS2.out _ HB28.out | exact HS2.out _ HB27.out | exact HS2.out _ HB26.out | exact HS2.out _ HB25.out | exact HS2.out _ HB24.out | exact HS2.out _ HB23.out | exact HS2.out _ HB22.out | exact HS2.out _ HB21.out | exact HS2.out _ HB20.out | exact HS2.out _ HD2.out | exact HS2.out _ (Below.refl _ _) | fail)
            clear hK K hi; try simp only [Act.put, List.setIfInBounds_toArray, List.set_cons_zero, List.set_cons_succ]
            refine hand_op (i := 28) (by simp only [List.getElem?_toArray, List.getElem?_cons_succ, List.getElem?_cons_zero]; rfl) (fun hi => ?_)
            refine wpAnyH_take (v := ?_) hi (by kernel_rfl) (by kernel_rfl) (by kernel_rfl) (fun _ _ _ h => h) (Or.inl ⟨by rfl, ?_⟩) (by assumption) ?_
            rotate_left
            · intro w hSw; (try dsimp only at hSw); go_simp; try (with_reducible rfl)
            clear hi; try simp only [Act.put, List.setIfInBounds_toArray, List.set_cons_zero, List.set_cons_succ]
            refine hand_op (i := 29) (by simp only [List.getElem?_toArray, List.getElem?_cons_succ, List.getElem?_cons_zero]; rfl) (fun hi => ?_)
            refine wpAnyH_take (v := ?_) hi (by kernel_rfl) (by kernel_rfl) (by kernel_rfl) (fun _ _ _ h => h) (Or.inl ⟨by rfl, ?_⟩) (by assumption) ?_
            rotate_left
            · intro w hSw; (try dsimp only at hSw); go_simp; try (with_reducible rfl)
            clear hi; try simp only [Act.put, List.setIfInBounds_toArray, List.set_cons_zero, List.set_cons_succ]
            refine hand_op (i := 30) (by simp only [List.getElem?_toArray, List.getElem?_cons_succ, List.getElem?_cons_zero]; rfl) (fun hi => ?_)
            refine wpAnyH_take (v := ?_) hi (by kernel_rfl) (by kernel_rfl) (by kernel_rfl) (fun _ _ _ h => h) (Or.inl ⟨by rfl, ?_⟩) (by assumption) ?_
            rotate_left
            · intro w hSw; (try dsimp only at hSw); go_simp; try (with_reducible rfl)
            clear hi; try simp only [Act.put, List.setIfInBounds_toArray, List.set_cons_zero, List.set_cons_succ]
            refine hand_op (i := 31) (by simp only [List.getElem?_toArray, List.getElem?_cons_succ, List.getElem?_cons_zero]; rfl) (fun hi => ?_)
            refine wpAnyH_take (v := ?_) hi (by kernel_rfl) (by kernel_rfl) (by kernel_rfl) (fun _ _ _ h => h) (Or.inl ⟨by rfl, ?_⟩) (by assumption) ?_
            rotate_left
            · intro w hSw; (try dsimp only at hSw); go_simp; try (with_reducible rfl)
            clear hi; try simp only [Act.put, List.setIfInBounds_toArray, List.set_cons_zero, List.set_cons_succ]
            refine hand_op (i := 32) (by simp only [List.getElem?_toArray, List.getElem?_cons_succ, List.getElem?_cons_zero]; rfl) (fun hi => ?_)
            refine wpAnyH_take (v := ?_) hi (by kernel_rfl) (by kernel_rfl) (by kernel_rfl) (fun _ _ _ h => h) (Or.inl ⟨by rfl, ?_⟩) (by assumption) ?_
            rotate_left
            · intro w hSw; (try dsimp only at hSw); go_simp; try (with_reducible rfl)
            clear hi; try simp only [Act.put, List.setIfInBounds_toArray, List.set_cons_zero, List.set_cons_succ]
            refine hand_op (i := 33) (by simp only [List.getElem?_toArray, List.getElem?_cons_succ, List.getElem?_cons_zero]; rfl) (fun hi => ?_)
            refine wpAnyH_ready (rs := [33]) (by kernel_rfl) (by simp) ?_
            refine AllReadyH.cons hi (fun K hK => ?_) AllReadyH.nil
            go_simp
            (go_at_call 17; (with_reducible refine (lattice_Below.calls 64 t b1 A1 c1 r1 b2 A2 c2 r2 true _ (HROW2.out _ HB25.out).1 HL1.out (HROW2.out _ HB25.out).2.1 HL2.out FAB.out).mono ?_); rintro e w26 ⟨rfl, hb26⟩; have HB26 : Aside0 (Below W17.heap.size W17 w26) := ⟨GL.below_then HB25.out HB25.out.size hb26⟩; clear hb26)
            try (go_wp2_with fail)
            refine hK.out _ _ ?_ (fun hHeld => ?_)
            · (first | exact HS2.out _ HB31.out | exact HS2.out _ HB30.out | exact HS2.out _ HB29.out | exact HS2.out _ HB28.out | exact HS2.out _ HB27.out | exact HS2.out _ HB26.out | exact HS2.out _ HB25.out | exact HS2.out _ HB24.out | exact HS2.out _ HB23.out | exact HS2.out _ HB22.out | exact HS2.out _ HB21.out | exact HS2.out _ HB20.out | exact HS2.out _ HD2.out | exact HS2.out _ (Below.refl _ _) | fail)
            clear hK K hi; try simp only [Act.put, List.setIfInBounds_toArray, List.set_cons_zero, List.set_cons_succ]
            refine hand_op (i := 34) (by simp only [List.getElem?_toArray, List.getElem?_cons_succ, List.getElem?_cons_zero]; rfl) (fun hi => ?_)
            refine wpAnyH_take (v := ?_) hi (by kernel_rfl) (by kernel_rfl) (by kernel_rfl) (fun _ _ _ h => h) (Or.inl ⟨by rfl, ?_⟩) (by assumption) ?_
            rotate_left
            · intro w hSw; (try dsimp only at hSw); go_simp; try (with_reducible rfl)
            clear hi; try simp only [Act.put, List.setIfInBounds_toArray, List.set_cons_zero, List.set_cons_succ]
            refine hand_op (i := 35) (by simp only [List.getElem?_toArray, List.getElem?_cons_succ, List.getElem?_cons_zero]; rfl) (fun hi => ?_)
            refine wpAnyH_take (v := ?_) hi (by kernel_rfl) (by kernel_rfl) (by kernel_rfl) (fun _ _ _ h => h) (Or.inl ⟨by rfl, ?_⟩) (by assumption) ?_
            rotate_left
            · intro w hSw; (try dsimp only at hSw); go_simp; try (with_reducible rfl)
            clear hi; try simp only [Act.put, List.setIfInBounds_toArray, List.set_cons_zero, List.set_cons_succ]
            refine hand_op (i := 36) (by simp only [List.getElem?_toArray, List.getElem?_cons_succ, List.getElem?_cons_zero]; rfl) (fun hi => ?_)
            refine wpAnyH_take (v := ?_) hi (by kernel_rfl) (by kernel_rfl) (by kernel_rfl) (fun _ _ _ h => h) (Or.inl ⟨by rfl, ?_⟩) (by assumption) ?_
            rotate_left
            · intro w hSw; (try dsimp only at hSw); go_simp; try (with_reducible rfl)
            clear hi; try simp only [Act.put, List.setIfInBounds_toArray, List.set_cons_zero, List.set_cons_succ]
            refine hand_op (i := 37) (by simp only [List.getElem?_toArray, List.getElem?_cons_succ, List.getElem?_cons_zero]; rfl) (fun hi => ?_)
            refine wpAnyH_take (v := ?_) hi (by kernel_rfl) (by kernel_rfl) (by kernel_rfl) (fun _ _ _ h => h) (Or.inl ⟨by rfl, ?_⟩) (by assumption) ?_
            rotate_left
            · intro w hSw; (try dsimp only at hSw); go_simp; try (with_reducible rfl)
            clear hi; try simp only [Act.put, List.setIfInBounds_toArray, List.set_cons_zero, List.set_cons_succ]
            refine hand_op (i := 38) (by simp only [List.getElem?_toArray, List.getElem?_cons_succ, List.getElem?_cons_zero]; rfl) (fun hi => ?_)
            refine wpAnyH_take (v := ?_) hi (by kernel_rfl) (by kernel_rfl) (by kernel_rfl) (fun _ _ _ h => h) (Or.inl ⟨by rfl, ?_⟩) (by assumption) ?_
            rotate_left
            · intro w hSw; (try dsimp only at hSw); go_simp; try (with_reducible rfl)
            clear hi; try simp only [Act.put, List.setIfInBounds_toArray, List.set_cons_zero, List.set_cons_succ]
            refine hand_op (i := 39) (by simp only [List.getElem?_toArray, List.getElem?_cons_succ, List.getElem?_cons_zero]; rfl) (fun hi => ?_)
            refine wpAnyH_ready (rs := [39]) (by kernel_rfl) (by simp) ?_
            refine AllReadyH.cons hi (fun K hK => ?_) AllReadyH.nil
            go_simp
            (go_at_call 17; (with_reducible refine (lattice_Below.calls 64 t b2 A2 c2 r2 b1 A1 c1 r1 true _ (HROW2.out _ HB26.out).2.1 HL2.out (HROW2.out _ HB26.out).1 HL1.out FBA2.out).mono ?_); rintro e w27 ⟨rfl, hb27⟩; have HB27 : Aside0 (Below W17.heap.size W17 w27) := ⟨GL.below_then HB26.out HB26.out.size hb27⟩; clear hb27)
            try (go_wp2_with fail)
            refine hK.out _ _ ?_ (fun hHeld => ?_)
            · (first | exact HS2.out _ HB31.out | exact HS2.out _ HB30.out | exact HS2.out _ HB29.out | exact HS2.out _ HB28.out | exact HS2.out _ HB27.out | exact HS2.out _ HB26.out | exact HS2.out _ HB25.out | exact HS2.out _ HB24.out | exact HS2.out _ HB23.out | exact HS2.out _ HB22.out | exact HS2.out _ HB21.out | exact HS2.out _ HB20.out | exact HS2.out _ HD2.out | exact HS2.out _ (Below.refl _ _) | fail)
            clear hK K hi; try simp only [Act.put, List.setIfInBounds_toArray, List.set_cons_zero, List.set_cons_succ]
            refine hand_op (i := 40) (by simp only [List.getElem?_toArray, List.getElem?_cons_succ, List.getElem?_cons_zero]; rfl) (fun hi => ?_)
            refine wpAnyH_take (v := ?_) hi (by kernel_rfl) (by kernel_rfl) (by kernel_rfl) (fun _ _ _ h => h) (Or.inl ⟨by rfl, ?_⟩) (by assumption) ?_
            rotate_left
            · intro w hSw; (try dsimp only at hSw); go_simp; try (with_reducible rfl)
            clear hi; try simp only [Act.put, List.setIfInBounds_toArray, List.set_cons_zero, List.set_cons_succ]
            refine hand_op (i := 41) (by simp only [List.getElem?_toArray, List.getElem?_cons_succ, List.getElem?_cons_zero]; rfl) (fun hi => ?_)
            refine wpAnyH_take (v := ?_) hi (by kernel_rfl) (by kernel_rfl) (by kernel_rfl) (fun _ _ _ h => h) (Or.inl ⟨by rfl, ?_⟩) (by assumption) ?_
            rotate_left
            · intro w hSw; (try dsimp only at hSw); go_simp; try (with_reducible rfl)
            clear hi; try simp only [Act.put, List.setIfInBounds_toArray, List.set_cons_zero, List.set_cons_succ]
            refine hand_op (i := 42) (by simp only [List.getElem?_toArray, List.getElem?_cons_succ, List.getElem?_cons_zero]; rfl) (fun hi => ?_)
            refine wpAnyH_take (v := ?_) hi (by kernel_rfl) (by kernel_rfl) (by kernel_rfl) (fun _ _ _ h => h) (Or.inl ⟨by rfl, ?_⟩) (by assumption) ?_
            rotate_left
            · intro w hSw; (try dsimp only at hSw); go_simp; try (with_reducible rfl)
            clear hi; try simp only [Act.put, List.setIfInBounds_toArray, List.set_cons_zero, List.set_cons_succ]
            refine hand_op (i := 43) (by simp only [List.getElem?_toArray, List.getElem?_cons_succ, List.getElem?_cons_zero]; rfl) (fun hi => ?_)
            refine wpAnyH_take (v := ?_) hi (by kernel_rfl) (by kernel_rfl) (by kernel_rfl) (fun _ _ _ h => h) (Or.inl ⟨by rfl, ?_⟩) (by assumption) ?_
            rotate_left
            · intro w hSw; (try dsimp only at hSw); go_simp; try (with_reducible rfl)
            clear hi; try simp only [Act.put, List.setIfInBounds_toArray, List.set_cons_zero, List.set_cons_succ]
            refine hand_op (i := 44) (by simp only [List.getElem?_toArray, List.getElem?_cons_succ, List.getElem?_cons_zero]; rfl) (fun hi => ?_)
            refine wpAnyH_take (v := ?_) hi (by kernel_rfl) (by kernel_rfl) (by kernel_rfl) (fun _ _ _ h => h) (Or.inl ⟨by rfl, ?_⟩) (by assumption) ?_
            rotate_left
            · intro w hSw; (try dsimp only at hSw); go_simp; try (with_reducible rfl)
            clear hi; try simp only [Act.put, List.setIfInBounds_toArray, List.set_cons_zero, List.set_cons_succ]
            refine hand_op (i := 45) (by simp only [List.getElem?_toArray, List.getElem?_cons_succ, List.getElem?_cons_zero]; rfl) (fun hi => ?_)
            refine wpAnyH_ready (rs := [45]) (by kernel_rfl) (by simp) ?_
            refine AllReadyH.cons hi (fun K hK => ?_) AllReadyH.nil
            go_simp
            (go_at_call 15; (with_reducible refine (lattice_Same.calls 64 b1 A1 c1 r1 b2 A2 c2 r2 true _ (HROW2.out _ HB27.out).1 HL1.out (HROW2.out _ HB27.out).2.1 HL2.out FSAB.out).mono ?_); rintro e w28 ⟨rfl, hb28⟩; have HB28 : Aside0 (Below W17.heap.size W17 w28) := ⟨GL.below_then HB27.out HB27.out.size hb28⟩; clear hb28)
            try (go_wp2_with fail)
            refine hK.out _ _ ?_ (fun hHeld => ?_)
            · (first | exact HS2.out _ HB31.out | exact HS2.out _ HB30.out | exact HS2.out _ HB29.out | exact HS2.out _ HB28.out | exact HS2.out _ HB27.out | exact HS2.out _ HB26.out | exact HS2.out _ HB25.out | exact HS2.out _ HB24.out | exact HS2.out _ HB23.out | exact HS2.out _ HB22.out | exact HS2.out _ HB21.out | exact HS2.out _ HB20.out | exact HS2.out _ HD2.out | exact HS2.out _ (Below.refl _ _) | fail)
            clear hK K hi; try simp only [Act.put, List.setIfInBounds_toArray, List.set_cons_zero, List.set_cons_succ]
            refine hand_op (i := 46) (by simp only [List.getElem?_toArray, List.getElem?_cons_succ, List.getElem?_cons_zero]; rfl) (fun hi => ?_)
            refine wpAnyH_take (v := ?_) hi (by kernel_rfl) (by kernel_rfl) (by kernel_rfl) (fun _ _ _ h => h) (Or.inl ⟨by rfl, ?_⟩) (by assumption) ?_
            rotate_left
            · intro w hSw; (try dsimp only at hSw); go_simp; try (with_reducible rfl)
            clear hi; try simp only [Act.put, List.setIfInBounds_toArray, List.set_cons_zero, List.set_cons_succ]
            refine hand_op (i := 47) (by simp only [List.getElem?_toArray, List.getElem?_cons_succ, List.getElem?_cons_zero]; rfl) (fun hi => ?_)
            refine wpAnyH_take (v := ?_) hi (by kernel_rfl) (by kernel_rfl) (by kernel_rfl) (fun _ _ _ h => h) (Or.inl ⟨by rfl, ?_⟩) (by assumption) ?_
            rotate_left
            · intro w hSw; (try dsimp only at hSw); go_simp; try (with_reducible rfl)
            clear hi; try simp only [Act.put, List.setIfInBounds_toArray, List.set_cons_zero, List.set_cons_succ]
            refine hand_op (i := 48) (by simp only [List.getElem?_toArray, List.getElem?_cons_succ, List.getElem?_cons_zero]; rfl) (fun hi => ?_)
            refine wpAnyH_take (v := ?_) hi (by kernel_rfl) (by kernel_rfl) (by kernel_rfl) (fun _ _ _ h => h) (Or.inl ⟨by rfl, ?_⟩) (by assumption) ?_
            rotate_left
            · intro w hSw; (try dsimp only at hSw); go_simp; try (with_reducible rfl)
            clear hi; try simp only [Act.put, List.setIfInBounds_toArray, List.set_cons_zero, List.set_cons_succ]
            refine hand_op (i := 49) (by simp only [List.getElem?_toArray, List.getElem?_cons_succ, List.getElem?_cons_zero]; rfl) (fun hi => ?_)
            refine wpAnyH_take (v := ?_) hi (by kernel_rfl) (by kernel_rfl) (by kernel_rfl) (fun _ _ _ h => h) (Or.inl ⟨by rfl, ?_⟩) (by assumption) ?_
            rotate_left
            · intro w hSw; (try dsimp only at hSw); go_simp; try (with_reducible rfl)
            clear hi; try simp only [Act.put, List.setIfInBounds_toArray, List.set_cons_zero, List.set_cons_succ]
            refine hand_op (i := 50) (by simp only [List.getElem?_toArray, List.getElem?_cons_succ, List.getElem?_cons_zero]; rfl) (fun hi => ?_)
            refine wpAnyH_take (v := ?_) hi (by kernel_rfl) (by kernel_rfl) (by kernel_rfl) (fun _ _ _ h => h) (Or.inl ⟨by rfl, ?_⟩) (by assumption) ?_
            rotate_left
            · intro w hSw; (try dsimp only at hSw); go_simp; try (with_reducible rfl)
            clear hi; try simp only [Act.put, List.setIfInBounds_toArray, List.set_cons_zero, List.set_cons_succ]
            refine hand_op (i := 51) (by simp only [List.getElem?_toArray, List.getElem?_cons_succ, List.getElem?_cons_zero]; rfl) (fun hi => ?_)
            refine wpAnyH_take (v := ?_) hi (by kernel_rfl) (by kernel_rfl) (by kernel_rfl) (fun _ _ _ h => h) (Or.inl ⟨by rfl, ?_⟩) (by assumption) ?_
            rotate_left
            · intro w hSw; (try dsimp only at hSw); go_simp; try (with_reducible rfl)
            clear hi; try simp only [Act.put, List.setIfInBounds_toArray, List.set_cons_zero, List.set_cons_succ]
            refine hand_op (i := 52) (by simp only [List.getElem?_toArray, List.getElem?_cons_succ, List.getElem?_cons_zero]; rfl) (fun hi => ?_)
            refine wpAnyH_ready (rs := [52]) (by kernel_rfl) (by simp) ?_
            refine AllReadyH.cons hi (fun K hK => ?_) AllReadyH.nil
            go_simp
            (go_at_call 17; (with_reducible refine (lattice_Below.calls 64 t b1 A1 c1 r1 b2 A2 c2 r2 true _ (HROW2.out _ HB28.out).1 HL1.out (HROW2.out _ HB28.out).2.1 HL2.out FAB.out).mono ?_); rintro e w29 ⟨rfl, hb29⟩; have HB29 : Aside0 (Below W17.heap.size W17 w29) := ⟨GL.below_then HB28.out HB28.out.size hb29⟩; clear hb29)
            try (go_wp2_with fail)
            refine hK.out _ _ ?_ (fun hHeld => ?_)
            · (first | exact HS2.out _ HB31.out | exact HS2.out _ HB30.out | exact HS2.out _ HB29.out | exact HS2.out _ HB28.out | exact HS2.out _ HB27.out | exact HS2.out _ HB26.out | exact HS2.out _ HB25.out | exact HS2.out _ HB24.out | exact HS2.out _ HB23.out | exact HS2.out _ HB22.out | exact HS2.out _ HB21.out | exact HS2.out _ HB20.out | exact HS2.out _ HD2.out | exact HS2.out _ (Below.refl _ _) | fail)
            clear hK K hi; try simp only [Act.put, List.setIfInBounds_toArray, List.set_cons_zero, List.set_cons_succ]
            refine hand_op (i := 53) (by simp only [List.getElem?_toArray, List.getElem?_cons_succ, List.getElem?_cons_zero]; rfl) (fun hi => ?_)
            refine wpAnyH_take (v := ?_) hi (by kernel_rfl) (by kernel_rfl) (by kernel_rfl) (fun _ _ _ h => h) (Or.inl ⟨by rfl, ?_⟩) (by assumption) ?_
            rotate_left
            · intro w hSw; (try dsimp only at hSw); go_simp; try (with_reducible rfl)
            clear hi; try simp only [Act.put, List.setIfInBounds_toArray, List.set_cons_zero, List.set_cons_succ]
            refine hand_op (i := 54) (by simp only [List.getElem?_toArray, List.getElem?_cons_succ, List.getElem?_cons_zero]; rfl) (fun hi => ?_)
            refine wpAnyH_take (v := ?_) hi (by kernel_rfl) (by kernel_rfl) (by kernel_rfl) (fun _ _ _ h => h) (Or.inl ⟨by rfl, ?_⟩) (by assumption) ?_
            rotate_left
            · intro w hSw; (try dsimp only at hSw); go_simp; try (with_reducible rfl)
            clear hi; try simp only [Act.put, List.setIfInBounds_toArray, List.set_cons_zero, List.set_cons_succ]
            refine hand_op (i := 55) (by simp only [List.getElem?_toArray, List.getElem?_cons_succ, List.getElem?_cons_zero]; rfl) (fun hi => ?_)
            refine wpAnyH_take (v := ?_) hi (by kernel_rfl) (by kernel_rfl) (by kernel_rfl) (fun _ _ _ h => h) (Or.inl ⟨by rfl, ?_⟩) (by assumption) ?_
            rotate_left
            · intro w hSw; (try dsimp only at hSw); go_simp; try (with_reducible rfl)
            clear hi; try simp only [Act.put, List.setIfInBounds_toArray, List.set_cons_zero, List.set_cons_succ]
            refine hand_op (i := 56) (by simp only [List.getElem?_toArray, List.getElem?_cons_succ, List.getElem?_cons_zero]; rfl) (fun hi => ?_)
            refine wpAnyH_take (v := ?_) hi (by kernel_rfl) (by kernel_rfl) (by kernel_rfl) (fun _ _ _ h => h) (Or.inl ⟨by rfl, ?_⟩) (by assumption) ?_
            rotate_left
            · intro w hSw; (try dsimp only at hSw); go_simp; try (with_reducible rfl)
            clear hi; try simp only [Act.put, List.setIfInBounds_toArray, List.set_cons_zero, List.set_cons_succ]
            refine hand_op (i := 57) (by simp only [List.getElem?_toArray, List.getElem?_cons_succ, List.getElem?_cons_zero]; rfl) (fun hi => ?_)
            refine wpAnyH_take (v := ?_) hi (by kernel_rfl) (by kernel_rfl) (by kernel_rfl) (fun _ _ _ h => h) (Or.inl ⟨by rfl, ?_⟩) (by assumption) ?_
            rotate_left
            · intro w hSw; (try dsimp only at hSw); go_simp; try (with_reducible rfl)
            clear hi; try simp only [Act.put, List.setIfInBounds_toArray, List.set_cons_zero, List.set_cons_succ]
            refine hand_op (i := 58) (by simp only [List.getElem?_toArray, List.getElem?_cons_succ, List.getElem?_cons_zero]; rfl) (fun hi => ?_)
            refine wpAnyH_ready (rs := [58]) (by kernel_rfl) (by simp) ?_
            refine AllReadyH.cons hi (fun K hK => ?_) AllReadyH.nil
            go_simp
            (go_at_call 17; (with_reducible refine (lattice_Below.calls 64 t b2 A2 c2 r2 b3 A3 c3 r3 true _ (HROW2.out _ HB29.out).2.1 HL2.out (HROW2.out _ HB29.out).2.2.1 HL3.out FBC.out).mono ?_); rintro e w30 ⟨rfl, hb30⟩; have HB30 : Aside0 (Below W17.heap.size W17 w30) := ⟨GL.below_then HB29.out HB29.out.size hb30⟩; clear hb30)
            try (go_wp2_with fail)
            refine hK.out _ _ ?_ (fun hHeld => ?_)
            · (first | exact HS2.out _ HB31.out | exact HS2.out _ HB30.out | exact HS2.out _ HB29.out | exact HS2.out _ HB28.out | exact HS2.out _ HB27.out | exact HS2.out _ HB26.out | exact HS2.out _ HB25.out | exact HS2.out _ HB24.out | exact HS2.out _ HB23.out | exact HS2.out _ HB22.out | exact HS2.out _ HB21.out | exact HS2.out _ HB20.out | exact HS2.out _ HD2.out | exact HS2.out _ (Below.refl _ _) | fail)
            clear hK K hi; try simp only [Act.put, List.setIfInBounds_toArray, List.set_cons_zero, List.set_cons_succ]
            refine hand_op (i := 59) (by simp only [List.getElem?_toArray, List.getElem?_cons_succ, List.getElem?_cons_zero]; rfl) (fun hi => ?_)
            refine wpAnyH_take (v := ?_) hi (by kernel_rfl) (by kernel_rfl) (by kernel_rfl) (fun _ _ _ h => h) (Or.inl ⟨by rfl, ?_⟩) (by assumption) ?_
            rotate_left
            · intro w hSw; (try dsimp only at hSw); go_simp; try (with_reducible rfl)
            clear hi; try simp only [Act.put, List.setIfInBounds_toArray, List.set_cons_zero, List.set_cons_succ]
            refine hand_op (i := 60) (by simp only [List.getElem?_toArray, List.getElem?_cons_succ, List.getElem?_cons_zero]; rfl) (fun hi => ?_)
            refine wpAnyH_take (v := ?_) hi (by kernel_rfl) (by kernel_rfl) (by kernel_rfl) (fun _ _ _ h => h) (Or.inl ⟨by rfl, ?_⟩) (by assumption) ?_
            rotate_left
            · intro w hSw; (try dsimp only at hSw); go_simp; try (with_reducible rfl)
            clear hi; try simp only [Act.put, List.setIfInBounds_toArray, List.set_cons_zero, List.set_cons_succ]
            refine hand_op (i := 61) (by simp only [List.getElem?_toArray, List.getElem?_cons_succ, List.getElem?_cons_zero]; rfl) (fun hi => ?_)
            refine wpAnyH_take (v := ?_) hi (by kernel_rfl) (by kernel_rfl) (by kernel_rfl) (fun _ _ _ h => h) (Or.inl ⟨by rfl, ?_⟩) (by assumption) ?_
            rotate_left
            · intro w hSw; (try dsimp only at hSw); go_simp; try (with_reducible rfl)
            clear hi; try simp only [Act.put, List.setIfInBounds_toArray, List.set_cons_zero, List.set_cons_succ]
            refine hand_op (i := 62) (by simp only [List.getElem?_toArray, List.getElem?_cons_succ, List.getElem?_cons_zero]; rfl) (fun hi => ?_)
            refine wpAnyH_take (v := ?_) hi (by kernel_rfl) (by kernel_rfl) (by kernel_rfl) (fun _ _ _ h => h) (Or.inl ⟨by rfl, ?_⟩) (by assumption) ?_
            rotate_left
            · intro w hSw; (try dsimp only at hSw); go_simp; try (with_reducible rfl)
            clear hi; try simp only [Act.put, List.setIfInBounds_toArray, List.set_cons_zero, List.set_cons_succ]
            refine hand_op (i := 63) (by simp only [List.getElem?_toArray, List.getElem?_cons_succ, List.getElem?_cons_zero]; rfl) (fun hi => ?_)
            refine wpAnyH_take (v := ?_) hi (by kernel_rfl) (by kernel_rfl) (by kernel_rfl) (fun _ _ _ h => h) (Or.inl ⟨by rfl, ?_⟩) (by assumption) ?_
            rotate_left
            · intro w hSw; (try dsimp only at hSw); go_simp; try (with_reducible rfl)
            clear hi; try simp only [Act.put, List.setIfInBounds_toArray, List.set_cons_zero, List.set_cons_succ]
            refine hand_op (i := 64) (by simp only [List.getElem?_toArray, List.getElem?_cons_succ, List.getElem?_cons_zero]; rfl) (fun hi => ?_)
            refine wpAnyH_take (v := ?_) hi (by kernel_rfl) (by kernel_rfl) (by kernel_rfl) (fun _ _ _ h => h) (Or.inl ⟨by rfl, ?_⟩) (by assumption) ?_
            rotate_left
            · intro w hSw; (try dsimp only at hSw); go_simp; try (with_reducible rfl)
            clear hi; try simp only [Act.put, List.setIfInBounds_toArray, List.set_cons_zero, List.set_cons_succ]
            refine hand_op (i := 65) (by simp only [List.getElem?_toArray, List.getElem?_cons_succ, List.getElem?_cons_zero]; rfl) (fun hi => ?_)
            refine wpAnyH_ready (rs := [65]) (by kernel_rfl) (by simp) ?_
            refine AllReadyH.cons hi (fun K hK => ?_) AllReadyH.nil
            go_simp
            (go_at_call 17; (with_reducible refine (lattice_Below.calls 64 t b1 A1 c1 r1 b3 A3 c3 r3 true _ (HROW2.out _ HB30.out).1 HL1.out (HROW2.out _ HB30.out).2.2.1 HL3.out FAC.out).mono ?_); rintro e w31 ⟨rfl, hb31⟩; have HB31 : Aside0 (Below W17.heap.size W17 w31) := ⟨GL.below_then HB30.out HB30.out.size hb31⟩; clear hb31)
            try (go_wp2_with fail)
            refine hK.out _ _ ?_ (fun hHeld => ?_)
            · (first | exact HS2.out _ HB31.out | exact HS2.out _ HB30.out | exact HS2.out _ HB29.out | exact HS2.out _ HB28.out | exact HS2.out _ HB27.out | exact HS2.out _ HB26.out | exact HS2.out _ HB25.out | exact HS2.out _ HB24.out | exact HS2.out _ HB23.out | exact HS2.out _ HB22.out | exact HS2.out _ HB21.out | exact HS2.out _ HB20.out | exact HS2.out _ HD2.out | exact HS2.out _ (Below.refl _ _) | fail)
            clear hK K hi; try simp only [Act.put, List.setIfInBounds_toArray, List.set_cons_zero, List.set_cons_succ]
            refine hand_op (i := 66) (by simp only [List.getElem?_toArray, List.getElem?_cons_succ, List.getElem?_cons_zero]; rfl) (fun hi => ?_)
            refine wpAnyH_take (v := ?_) hi (by kernel_rfl) (by kernel_rfl) (by kernel_rfl) (fun _ _ _ h => h) (Or.inl ⟨by rfl, ?_⟩) (by assumption) ?_
            rotate_left
            · intro w hSw; (try dsimp only at hSw); go_simp; try (with_reducible rfl)
            clear hi; try simp only [Act.put, List.setIfInBounds_toArray, List.set_cons_zero, List.set_cons_succ]
            refine hand_op (i := 67) (by simp only [List.getElem?_toArray, List.getElem?_cons_succ, List.getElem?_cons_zero]; rfl) (fun hi => ?_)
            refine wpAnyH_take (v := ?_) hi (by kernel_rfl) (by kernel_rfl) (by kernel_rfl) (fun _ _ _ h => h) (Or.inl ⟨by rfl, ?_⟩) (by assumption) ?_
            rotate_left
            · intro w hSw; (try dsimp only at hSw); go_simp; try (with_reducible rfl)
            clear hi; try simp only [Act.put, List.setIfInBounds_toArray, List.set_cons_zero, List.set_cons_succ]
            refine hand_op (i := 68) (by simp only [List.getElem?_toArray, List.getElem?_cons_succ, List.getElem?_cons_zero]; rfl) (fun hi => ?_)
            refine wpAnyH_take (v := ?_) hi (by kernel_rfl) (by kernel_rfl) (by kernel_rfl) (fun _ _ _ h => h) (Or.inl ⟨by rfl, ?_⟩) (by assumption) ?_
            rotate_left
            · intro w hSw; (try dsimp only at hSw); go_simp; try (with_reducible rfl)
            clear hi; try simp only [Act.put, List.setIfInBounds_toArray, List.set_cons_zero, List.set_cons_succ]
            refine wpAnyH_done (by kernel_rfl) ?_ _
            all_goals (go_wp2_with fail)
            all_goals go_ret
            all_goals exact ⟨rfl, (HROW2.out _ HB31.out).2.2.2.2.2⟩
end Go.Proofs.Ytikipnbdccbnfaa
