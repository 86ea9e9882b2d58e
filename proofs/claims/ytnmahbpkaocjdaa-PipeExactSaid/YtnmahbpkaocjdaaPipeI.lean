/-
  What is more than is asked (great).
-/
import Derived.Test.YtnmahbpkaocjdaaPipeH
set_option linter.unusedVariables false
namespace Go.Proofs.Ytnmahbpkaocjdaa
open Go.RowKit Go.Proofs.YtnmahbpkaocjdaaW.PrintWords

def greatB (xs : List PV) : Bool := decide (20 < xs.length) || xs.any (fun x => decide (100 < x.s.size))

theorem great_calls (w : World) (k i n : Int) (A : Option Addr) (c : Nat) (xs : List PV) (h : pvk.C w A xs.length xs) :
    Calls Try.prog 12 #[.agg #[.int .i64 k, .int .i64 i, .int .i64 n, .slice A xs.length c]] w fun e w' => e = .returned (.bool (greatB xs)) ∧ Below w.heap.size w w' := by
  have hm := h.2.1
  by_cases hl : 20 < xs.length
  · have hg : greatB xs = true := by simp [greatB, hl]
    rw [hg]
    have h1 : (20 : Int) < (xs.length : Int) := by omega
    clear hg
    go_enter Try.func12, Try.ntmps12
    go_wp2
    go_ret
    exact ⟨rfl, (Below.refl _ _).alloc (Nat.le_refl _) _⟩
  · have h1 : ¬ ((20 : Int) < (xs.length : Int)) := by omega
    have hg : greatB xs = xs.any (fun x => decide (100 < x.s.size)) := by simp [greatB, hl]
    rw [hg]
    have H := Aside0.mk h
    clear h hg
    go_enter Try.func12, Try.ntmps12
    go_wp2
    go_loopg [3] xs.length (fun g v w' => ∃ j : Nat, j + g = xs.length ∧ v = .int .i64 (j : Int) ∧ Aside0 ((xs.take j).any (fun x => decide (100 < x.s.size)) = false) ∧ w' = w.alloc (.cells #[.int .i64 k, .int .i64 i, .int .i64 n, .slice A xs.length c] 34))
    case atStart => exact ⟨0, by omega, rfl, ⟨rfl⟩, rfl⟩
    case round =>
      obtain ⟨j, hj, rfl, hT, rfl⟩ := hrel
      by_cases hlt : j < xs.length
      · obtain ⟨b, o, rfl, hb⟩ := pv_cells (Kd.C_alloc H.out (.cells #[.int .i64 k, .int .i64 i, .int .i64 n, .slice A xs.length c] 34)) (by omega)
        obtain ⟨x0, x1, x2, x3, x4⟩ := hb j hlt
        have e0 : (0 : Int) ≤ (j : Int) := by omega
        have e1 : (j : Int) < (xs.length : Int) := by omega
        generalize hx : (xs[j]'hlt) = x at x0 x1 x2 x3 x4
        have HX := Aside0.mk hx
        clear hx hb x0 x1 x2 x3
        go_wp2
        · have hgt : (100 : Int) < (x.s.size : Int) := by assumption
          go_ret
          refine ⟨?_, (Below.refl _ _).alloc (Nat.le_refl _) _⟩
          have hany : xs.any (fun x => decide (100 < x.s.size)) = true := List.any_eq_true.2 ⟨x, by rw [← HX.out]; exact List.getElem_mem hlt, by simp; omega⟩
          rw [hany]
          rfl
        · have hgt : (x.s.size : Int) ≤ 100 := by assumption
          go_roundg (gk - 1)
          case measure => omega
          case rel =>
            refine ⟨j + 1, by omega, by go_num, ⟨?_⟩, rfl⟩
            rw [List.take_succ_eq_append_getElem hlt, List.any_append, hT.out, HX.out]
            simp
            omega
      · obtain rfl : j = xs.length := by omega
        have hfin := hT.out
        rw [List.take_length] at hfin
        have HF := Aside0.mk hfin
        clear hfin
        go_wp2
        go_ret
        exact ⟨by rw [HF.out]; rfl, (Below.refl _ _).alloc (Nat.le_refl _) _⟩
end Go.Proofs.Ytnmahbpkaocjdaa
