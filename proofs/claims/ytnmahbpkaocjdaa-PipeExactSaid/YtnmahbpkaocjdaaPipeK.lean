/-
  'awake' of the laws on channels: it returns true.
-/
import Derived.Test.YtnmahbpkaocjdaaPipeJ
set_option linter.unusedVariables false
namespace Go.Proofs.Ytnmahbpkaocjdaa
open Go.RowKit Go.Proofs.YtnmahbpkaocjdaaW.PrintWords

set_option maxHeartbeats 1000000 in
theorem awake16 (w : World) : Calls Try.prog 8 #[] w fun e w' => e = .returned (.bool true) ∧ Below w.heap.size w w' := by
  go_enter Try.func8, Try.ntmps8
  go_wp2_with fail
  refine (New_rep w _ (Nat.le_refl _)).mono ?_
  rintro e w1 ⟨sb, rfl, hp1, hsb, hsb1, hu1⟩
  have H1 := Aside0.mk hp1
  have hs1 := hu1.size
  have HB1 := Aside0.mk hu1.below
  clear hp1 hu1
  go_wp2_with fail
  refine (One_make H1.out hs1 1 (by omega) (by omega)).mono ?_
  rintro e w2 ⟨rfl, h2, hu2⟩
  have H2 := Aside0.mk h2
  have HB2 := Aside0.mk (HB1.out.trans (hu2.belowAt (B := w.heap.size) (fun k hk => by rw [hk]; exact hsb) hs1))
  have hs2 := hu2.size
  clear h2 hu2
  go_wp2_with (go_at_call 13; refine Stand.stop ?_)
  refine Stand.go ?_
  obtain ⟨w3, hw3⟩ : ∃ w3, w3 = w2.alloc (.cells #[.int .i64 1, .int .i64 3, .int .i64 0, .int .i64 0, .string ⟨#[]⟩] 84) := ⟨_, rfl⟩
  rw [← hw3]
  have hl3 : pvk.R 84 w3 w2.heap.size (fun k => k = w2.heap.size) (.slice (some ⟨w2.heap.size, 0, none⟩) 1 1) [⟨1, 3, 0, 0, ⟨#[]⟩⟩] := by rw [hw3]; exact pv_lit w2 ⟨1, 3, 0, 0, ⟨#[]⟩⟩
  have ha3 : Below w2.heap.size w2 w3 := by rw [hw3]; exact (Below.refl _ _).alloc (Nat.le_refl _) _
  have hs3 : w3.heap.size = w2.heap.size + 1 := by rw [hw3, World.size_alloc]
  clear hw3
  have h3 := One.mono (H2.out.below ha3) (fp' := fun k => k < w2.heap.size ∧ w.heap.size ≤ k) (fun k hk => by omega)
  have hC3 := (Kd.R_reads' hl3).2.2
  have HB3 := Aside0.mk (below_then HB2.out (by omega) ha3)
  have HL3 := Aside0.mk hl3
  refine (One_push h3 (by omega) (by simp) (some ⟨w2.heap.size, 0, none⟩) 1 [⟨1, 3, 0, 0, ⟨#[]⟩⟩] (fun h => by cases h) hC3 (by simp)).mono ?_
  rintro e w4 ⟨rfl, h4, hu4⟩
  have hs4 := hu4.size
  have hl4 := Kd.R_upd HL3.out hu4 (fun k hk h => by omega)
  have H4 := Aside0.mk h4
  have HL4 := Aside0.mk hl4
  have HB4 := Aside0.mk (HB3.out.trans (hu4.belowAt (fun k hk => hk.2) (by omega)))
  clear h3 hC3 hl3 ha3 h4 hu4 hl4
  go_wp2_with fail
  refine (One_push_full H4.out (by simp) _).mono ?_
  rintro e w5 ⟨rfl, hs⟩
  have H5 := Aside0.mk (H4.out.below hs.below)
  have HL5 := Aside0.mk (Kd.R_below HL4.out hs.below)
  have HB5 := Aside0.mk (below_then HB4.out (by omega) hs.below)
  have hs5 := hs.below.size
  clear hs
  go_wp2_with fail
  refine (One_pop H5.out).mono ?_
  rintro e w6 ⟨A6, c6, rfl, hC6, h6, hu6⟩
  have H6 := Aside0.mk h6
  have HC6 := Aside0.mk hC6
  have HL6 := Aside0.mk (Kd.R_upd HL5.out hu6 (fun k hk h => by omega))
  have hs6 := hu6.size
  have HB6 := Aside0.mk (HB5.out.trans (hu6.belowAt (fun k hk => by omega) (by omega)))
  clear hC6 h6 hu6
  go_wp2_with fail
  refine (Same_eq _ _ _ _ _ [⟨1, 3, 0, 0, ⟨#[]⟩⟩] _ rfl HC6.out (Kd.R_reads' HL6.out).2.2).mono ?_
  rintro e w7 ⟨rfl, hs7⟩
  have H7 := Aside0.mk (H6.out.below hs7.below)
  have HB7 := Aside0.mk (below_then HB6.out (by omega) hs7.below)
  have hs7' := hs7.below.size
  clear hs7
  go_wp2_with fail
  refine (One_empty H7.out).mono ?_
  rintro e w8 ⟨rfl, rfl⟩
  go_wp2_with fail
  refine (One_full H7.out).mono ?_
  rintro e w8 ⟨rfl, hs8⟩
  have H8 := Aside0.mk (H7.out.below hs8.below)
  have HB8 := Aside0.mk (below_then HB7.out (by omega) hs8.below)
  have hs8' := hs8.below.size
  clear hs8
  go_wp2_with fail
  refine (One_full9 H8.out).mono ?_
  rintro e w9 ⟨rfl, hs9⟩
  have H9 := Aside0.mk (H8.out.below hs9.below)
  have HB9 := Aside0.mk (below_then HB8.out (by omega) hs9.below)
  clear hs9
  go_wp2_with fail
  refine (One_empty9 H9.out).mono ?_
  rintro e w10 ⟨rfl, rfl⟩
  go_wp2
  go_ret
  exact ⟨rfl, HB9.out⟩
end Go.Proofs.Ytnmahbpkaocjdaa
