/-
  Scopes in memory: the document's; the calls that only read.
-/
import Derived.Test.YtnmahbpkaocjdaaScopeK
set_option linter.unusedVariables false
namespace Go.Proofs.Ytnmahbpkaocjdaa
open Go.RowKit Go.Proofs.YtnmahbpkaocjdaaW.PrintWords

structure UIn (w0 w : World) (col : Nat → Nat) (ub : Nat) (st : St) : Prop where
  c1 : col ub = 1
  blk : ∃ ov iv bv, w.heap[ub]? = some (.cells #[ov, iv, bv] 58 (0, 0)) ∧ intk.R 3 w w0.heap.size (fun k => col k = 2) ov st.outer ∧ intk.R 3 w w0.heap.size (fun k => col k = 3) iv st.inn ∧ obk.R 70 w w0.heap.size (fun k => col k = 4) bv st.objs
  lt : ∀ k, col k ≠ 0 → w0.heap.size ≤ k ∧ k < w.heap.size

/-- The document's scopes; all that they lead to is among F. -/
def USc (w0 w : World) (F : Nat → Prop) (ub : Nat) (st : St) : Prop := st.Good ∧ ∃ col, UIn w0 w col ub st ∧ ∀ k, col k ≠ 0 → F k

theorem UIn.upd {w0 w w1 : World} {col : Nat → Nat} {S : Nat → Prop} {ub : Nat} {st : St} (h : UIn w0 w col ub st) (hu : Upd S w w1) (hn : ∀ k, col k ≠ 0 → ¬ S k) : UIn w0 w1 col ub st where
  c1 := h.c1
  blk := by
    obtain ⟨ov, iv, bv, hb, hr1, hr2, hr3⟩ := h.blk
    exact ⟨ov, iv, bv, hu.blk hb (hn _ (by rw [h.c1]; decide)), Kd.R_upd hr1 hu (fun k hk => hn k (by rw [hk]; decide)), Kd.R_upd hr2 hu (fun k hk => hn k (by rw [hk]; decide)), Kd.R_upd hr3 hu (fun k hk => hn k (by rw [hk]; decide))⟩
  lt := fun k hk => ⟨(h.lt k hk).1, Nat.lt_of_lt_of_le (h.lt k hk).2 hu.size⟩
theorem USc.upd {w0 w w1 : World} {F S : Nat → Prop} {ub : Nat} {st : St} (h : USc w0 w F ub st) (hu : Upd S w w1) (hn : ∀ k, F k → ¬ S k) : USc w0 w1 F ub st := by
  obtain ⟨g, col, hI, hF⟩ := h
  exact ⟨g, col, hI.upd hu (fun k hk => hn k (hF k hk)), hF⟩
theorem USc.mono {w0 w : World} {F G : Nat → Prop} {ub : Nat} {st : St} (h : USc w0 w F ub st) (hn : ∀ k, w0.heap.size ≤ k → k < w.heap.size → F k → G k) : USc w0 w G ub st := by
  obtain ⟨g, col, hI, hF⟩ := h
  exact ⟨g, col, hI, fun k hk => hn k (hI.lt k hk).1 (hI.lt k hk).2 (hF k hk)⟩
theorem USc.below {w0 w w1 : World} {F : Nat → Prop} {ub : Nat} {st : St} (h : USc w0 w F ub st) (hb : Below w.heap.size w w1) : USc w0 w1 F ub st := h.upd (Upd.of_below hb (fun _ => False)) (fun _ _ h => h)

theorem UIn.cells {w0 w : World} {col : Nat → Nat} {ub : Nat} {st : St} (h : UIn w0 w col ub st) : ∃ A1 c1 A3 c3 A2 c2, w.cell? ⟨ub, 0, none⟩ = some (.slice A1 st.outer.length c1) ∧ w.cell? ⟨ub, 1, none⟩ = some (.slice A3 st.inn.length c3) ∧ w.cell? ⟨ub, 2, none⟩ = some (.slice A2 st.objs.length c2) ∧
    (∀ k : Nat, k < st.outer.length → ∃ lb, A1 = some ⟨lb, 0, none⟩ ∧ w.cell? ⟨lb, k, none⟩ = some (.int .i64 (st.out k))) ∧
    (∀ k : Nat, k < st.inn.length → ∃ lb, A3 = some ⟨lb, 0, none⟩ ∧ w.cell? ⟨lb, k, none⟩ = some (.int .i64 (st.inn.getD k 0))) ∧
    (∀ k : Nat, k < st.objs.length → ∃ lb, A2 = some ⟨lb, 0, none⟩ ∧ ObAt w lb (k * 13) (st.ob k)) := by
  obtain ⟨ov, iv, bv, hb, hr1, hr2, hr3⟩ := h.blk
  obtain ⟨A1, c1, rfl, _, h1⟩ := int_cell hr1
  obtain ⟨A3, c3, rfl, _, h3⟩ := int_cell hr2
  obtain ⟨A2, c2, rfl, _, h2⟩ := ob_cell hr3
  refine ⟨A1, c1, A3, c3, A2, c2, by rw [blk_cell hb]; rfl, by rw [blk_cell hb]; rfl, by rw [blk_cell hb]; rfl, fun k hk => ?_, h3, fun k hk => ?_⟩
  · obtain ⟨lb, hA, hc⟩ := h1 k hk
    refine ⟨lb, hA, ?_⟩
    rw [hc]
    simp [St.out]
  · obtain ⟨lb, hA, _, _, hc⟩ := h2 k hk
    exact ⟨lb, hA, hc⟩

section
variable {w0 w : World} {F : Nat → Prop} {ub : Nat} {st : St}

theorem u_has (h : USc w0 w F ub st) (i : Int) : Calls Try.prog 47 #[.pointer (some ⟨ub, 0, none⟩), .int .i64 i] w fun e w' => e = .returned (.bool (st.has i)) ∧ w = w' := by
  obtain ⟨_, col, hI, _⟩ := h
  obtain ⟨A1, c1, A3, c3, A2, c2, x0, _⟩ := hI.cells
  clear hI
  unfold St.has
  by_cases h1 : 1 ≤ i
  · go_enter Try.func47, Try.ntmps47
    go_wp2
    go_ret
    exact ⟨by simp [h1], rfl⟩
  · go_enter Try.func47, Try.ntmps47
    go_wp2
    go_ret
    exact ⟨by simp; omega, rfl⟩
theorem u_has_t (h : USc w0 w F ub st) (i : Int) (hh : st.has i = true) : Calls Try.prog 47 #[.pointer (some ⟨ub, 0, none⟩), .int .i64 i] w fun e w' => e = .returned (.bool true) ∧ w = w' := by
  have := u_has h i
  rw [hh] at this
  exact this
theorem u_has_f (h : USc w0 w F ub st) (i : Int) (hh : st.has i = false) : Calls Try.prog 47 #[.pointer (some ⟨ub, 0, none⟩), .int .i64 i] w fun e w' => e = .returned (.bool false) ∧ w = w' := by
  have := u_has h i
  rw [hh] at this
  exact this

theorem under_list : under.toList = [95] := by rw [ByteArray.toList_eq]; rfl
theorem bytes_under {a : ByteArray} (h : a = under) : (a.toList == [95]) = true := by rw [h, under_list]; rfl
theorem bytes_not_under {a : ByteArray} (h : a ≠ under) : (a.toList == [95]) = false := by
  have := bytes_ne h
  rwa [under_list] at this

set_option maxHeartbeats 1000000 in
theorem u_here (h : USc w0 w F ub st) (i : Int) (nm : ByteArray) : Calls Try.prog 34 #[.pointer (some ⟨ub, 0, none⟩), .int .i64 i, .string nm] w fun e w' => e = .returned (.int .i64 (st.here i nm : Int)) ∧ w = w' := by
  have hd := h
  obtain ⟨g, col, hI, _⟩ := hd
  obtain ⟨A1, c1, A3, c3, A2, c2, _, x1, x2, _, hc1, hc2⟩ := hI.cells
  have HC1 := Aside0.mk hc1
  have HC2 := Aside0.mk hc2
  have HLEN := Aside0.mk g.len
  have hpos := g.pos
  have hfew := g.few2
  obtain ⟨R, hR⟩ : ∃ R, R = st.here i nm := ⟨_, rfl⟩
  rw [← hR]
  have HR := Aside0.mk hR
  rw [g.len] at x1
  have H0 : Aside0 (st.hereUp i nm 1 = 0) := ⟨by unfold St.hereUp St.hereUp; simp⟩
  clear hI g h hc1 hc2 hR
  go_enter Try.func34, Try.ntmps34
  go_wp2_with fail
  go_loopg [7] st.objs.length (fun g v w' => w' = w ∧ ∃ j : Nat, v = .int .i64 (j : Int) ∧ j + g = st.objs.length + 1 ∧ 1 ≤ j ∧ j ≤ st.objs.length ∧ Aside0 (st.hereUp i nm j = 0))
  case atStart => exact ⟨rfl, 1, rfl, by omega, by omega, hpos, H0⟩
  case round =>
    obtain ⟨rfl, j, rfl, hj, hj1, hj2, hU⟩ := hrel
    clear H0
    by_cases hlt : j < st.objs.length
    · obtain ⟨lb, rfl, y0⟩ := HC1.out j (by rw [HLEN.out]; exact hlt)
      obtain ⟨lc, rfl, _, y1, _⟩ := HC2.out j hlt
      have j0 : (0 : Int) ≤ (j : Int) := by omega
      have j1 : (j : Int) < (st.objs.length : Int) := by omega
      by_cases h1 : st.inn.getD j 0 = i
      · by_cases h2 : (st.ob j).name = nm
        · by_cases h3 : nm = under
          · have hb3 := bytes_under h3
            have HU := Aside0.mk (St.hereUp_step hU.out (fun hh => hh.2.2 h3))
            rw [h1] at y0
            rw [h2] at y1
            clear h1 h2 h3 hU
            go_wp2_with fail
            go_roundg (gk - 1)
            case measure => omega
            case rel => exact ⟨rfl, j + 1, by go_num, by omega, by omega, by omega, HU⟩
          · have hb3 := bytes_not_under h3
            have hRj : R = j := by rw [HR.out]; exact St.here_of_hit hU.out (by omega) hlt ⟨h1, h2, h3⟩
            rw [h1] at y0
            rw [h2] at y1
            clear h1 h2 h3 hU HR
            subst hRj
            go_wp2_with fail
            go_ret
            exact ⟨rfl, rfl⟩
        · have hb2 := bytes_ne h2
          have HU := Aside0.mk (St.hereUp_step hU.out (fun hh => h2 hh.2.1))
          rw [h1] at y0
          generalize (st.ob j).name = n2 at y1 hb2
          clear h1 h2 hU
          go_wp2_with fail
          go_roundg (gk - 1)
          case measure => omega
          case rel => exact ⟨rfl, j + 1, by go_num, by omega, by omega, by omega, HU⟩
      · have HU := Aside0.mk (St.hereUp_step hU.out (fun hh => h1 hh.1))
        generalize st.inn.getD j 0 = n1 at y0 h1
        have hb1 : (n1 == i) = false := by simpa using h1
        clear hU
        go_wp2_with fail
        go_roundg (gk - 1)
        case measure => omega
        case rel => exact ⟨rfl, j + 1, by go_num, by omega, by omega, by omega, HU⟩
    · obtain rfl : j = st.objs.length := by omega
      have hR0 : R = 0 := by rw [HR.out]; exact hU.out
      subst hR0
      clear HR hU
      go_wp2_with fail
      go_ret
      exact ⟨rfl, rfl⟩
end
end Go.Proofs.Ytnmahbpkaocjdaa
