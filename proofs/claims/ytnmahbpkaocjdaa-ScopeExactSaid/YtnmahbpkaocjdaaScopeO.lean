/-
  Scopes: the document's Open and Put.
-/
import Derived.Test.YtnmahbpkaocjdaaScopeN
set_option linter.unusedVariables false
namespace Go.Proofs.Ytnmahbpkaocjdaa
open Go.RowKit Go.Proofs.YtnmahbpkaocjdaaW.PrintWords

section
variable {w0 w : World} {F : Nat → Prop} {ub : Nat} {st : St}

theorem u_open_f (h : USc w0 w F ub st) (i : Int) (hh : st.has i = false) : Calls Try.prog 41 #[.pointer (some ⟨ub, 0, none⟩), .int .i64 i] w fun e w' => e = .returned (.tuple #[.int .i64 0, .int .i64 1]) ∧ w = w' := by
  have HI := Aside0.mk h
  have HH := Aside0.mk hh
  clear h hh
  go_enter Try.func41, Try.ntmps41
  go_wp2_with (go_at_call 47; refine (u_has_f HI.out _ HH.out).mono ?_; rintro e w' ⟨rfl, rfl⟩)
  go_ret2
  exact ⟨rfl, rfl⟩

theorem u_open_t (h : USc w0 w F ub st) (h0 : w0.heap.size ≤ w.heap.size) (i : Int) (hh : st.has i = true) (hl : st.outer.length < 1000) :
    Calls Try.prog 41 #[.pointer (some ⟨ub, 0, none⟩), .int .i64 i] w fun e w' => e = .returned (.tuple #[.int .i64 (st.outer.length : Int), .int .i64 0]) ∧ Upd F w w' ∧ USc w0 w' (fun k => F k ∨ w.heap.size ≤ k) ub (st.open_ i) := by
  have hd := h
  obtain ⟨g, col, hI, hF⟩ := hd
  obtain ⟨ov, iv, bv, hb, hr1, hr2, hr3⟩ := hI.blk
  have HAPP := Aside0.mk (fun v1 w1 => UIn.app_outer (v1 := v1) (w1 := w1) hI h0 i hb hr1 hr2 hr3)
  have HG := Aside0.mk (g.open_ hh hl)
  have HF := Aside0.mk hF
  obtain ⟨A1, c1, hov, _, _⟩ := int_cell hr1
  subst hov
  have x0 : w.cell? ⟨ub, 0, none⟩ = some (.slice A1 st.outer.length c1) := by rw [blk_cell hb]; rfl
  have f0 : w.frozen? ⟨ub, 0, none⟩ = false := blk_frozen hb _
  have hlt : ub < w.heap.size := blk_lt hb
  have hne : some ub ≠ (Value.slice A1 st.outer.length c1).ownBlock := fun he => by { have h3 : col ub = 2 := hr1.1 ub he.symm; rw [hI.c1] at h3; cases h3 }
  have hp := g.o2
  have HR := Aside0.mk hr1
  have HNE := Aside0.mk hne
  have HI := Aside0.mk h
  have HH := Aside0.mk hh
  have HPS := Aside0.mk (show 0 < intk.sz by show 0 < 1; omega)
  clear g hI hb hr1 hr2 hr3 h hh hne hF
  go_enter Try.func41, Try.ntmps41
  go_wp2_with (first | (go_at_call 47; refine (u_has_t HI.out _ HH.out).mono ?_; rintro e w' ⟨rfl, rfl⟩) | (at_builtin; refine Stand.stop ?_))
  refine Stand.go ?_
  refine Kd.R_append intk (w0 := w) (W := w) w0.heap.size rfl (.tmp 14) (.tmp 16) 55 3 (.int .i64 0) 8 rfl Try.underlying55 info3 rfl HPS.out (by decide) (.slice A1 st.outer.length c1) st.outer i [.int .i64 i]
    (fun k => col k = 2 ∨ w.heap.size ≤ k) (fun _ => False) (by rfl) (by rfl) rfl (fun _ hj => hj.elim) (fun j hj => .inr hj) (Kd.R_mono HR.out (fun j hj => .inl hj)) (Below.refl _ _) h0 (by omega) ?_
  intro v1 w1 hr hb1 hg hat
  obtain ⟨hU, hu, _⟩ := HAPP.out v1 w1 hr hg
  have HFIN : Aside0 (Upd F w (w1.setCell ⟨ub, 0, none⟩ v1) ∧ USc w0 (w1.setCell ⟨ub, 0, none⟩ v1) (fun k => F k ∨ w.heap.size ≤ k) ub (st.open_ i)) := ⟨hu.mono (fun k _ hk => HF.out k hk), HG.out, _, hU, fun k hk => (newCol_ne hk).imp (fun h => HF.out k h.2) (fun h => h.1)⟩
  have x1 : w1.cell? ⟨ub, 0, none⟩ = some (.slice A1 st.outer.length c1) := (hg.cell_far _ hlt HNE.out).trans x0
  have f1 : w1.frozen? ⟨ub, 0, none⟩ = false := (hg.frozen_far _ hlt HNE.out).trans f0
  obtain ⟨A2, c2, hv1⟩ := Kd.R_slice hr
  rw [List.length_append, List.length_singleton] at hv1
  rw [hv1] at HFIN ⊢
  clear hr hb1 hg hat hv1 hU hu x0 f0
  go_wp2
  go_ret2
  exact ⟨by simp, HFIN.out⟩

theorem kind_f {k : Int} (h : isKindB k = false) : k < 1 ∨ (1 ≤ k ∧ 9 < k) := by
  unfold isKindB at h
  rw [Bool.and_eq_false_iff, decide_eq_false_iff_not, decide_eq_false_iff_not] at h
  omega
theorem kind_t {k : Int} (h : isKindB k = true) : 1 ≤ k ∧ k ≤ 9 := by
  unfold isKindB at h
  rw [Bool.and_eq_true, decide_eq_true_iff, decide_eq_true_iff] at h
  exact h

theorem u_put_bad (h : USc w0 w F ub st) (i : Int) (o : Ob) (hb : ¬ st.fits i o) : Calls Try.prog 42 #[.pointer (some ⟨ub, 0, none⟩), .int .i64 i, o.val] w fun e w' => e = .returned (.tuple #[.int .i64 0, .int .i64 1]) ∧ Below w.heap.size w w' := by
  have HI := Aside0.mk (h.below ((Below.refl _ _).alloc (Nat.le_refl _) o.cells))
  clear h
  unfold Ob.val
  unfold Ob.cells at HI
  by_cases h1 : st.has i = true
  · have H1 := Aside0.mk h1
    by_cases h2 : isKindB o.kind = true
    · obtain ⟨k1, k2⟩ := kind_t h2
      have h3 : o.name = ByteArray.empty := by
        by_cases h3 : o.name = ByteArray.empty
        · exact h3
        · exact absurd ⟨h1, h2, h3⟩ hb
      rw [h3] at HI ⊢
      clear hb h1 h2 h3
      go_enter Try.func42, Try.ntmps42
      go_wp2_with (first | (go_at_call 47; refine (u_has_t HI.out _ H1.out).mono ?_; rintro e w' ⟨rfl, rfl⟩))
      go_ret2
      exact ⟨rfl, (Below.refl _ _).alloc (Nat.le_refl _) _⟩
    · have h2' : isKindB o.kind = false := by simpa using h2
      rcases kind_f h2' with k1 | ⟨k1, k2⟩
      · clear hb h1 h2 h2'
        go_enter Try.func42, Try.ntmps42
        go_wp2_with (first | (go_at_call 47; refine (u_has_t HI.out _ H1.out).mono ?_; rintro e w' ⟨rfl, rfl⟩))
        go_ret2
        exact ⟨rfl, (Below.refl _ _).alloc (Nat.le_refl _) _⟩
      · clear hb h1 h2 h2'
        go_enter Try.func42, Try.ntmps42
        go_wp2_with (first | (go_at_call 47; refine (u_has_t HI.out _ H1.out).mono ?_; rintro e w' ⟨rfl, rfl⟩))
        go_ret2
        exact ⟨rfl, (Below.refl _ _).alloc (Nat.le_refl _) _⟩
  · have h1' : st.has i = false := by simpa using h1
    have H1 := Aside0.mk h1'
    clear hb h1 h1'
    go_enter Try.func42, Try.ntmps42
    go_wp2_with (first | (go_at_call 47; refine (u_has_f HI.out _ H1.out).mono ?_; rintro e w' ⟨rfl, rfl⟩))
    go_ret2
    exact ⟨rfl, (Below.refl _ _).alloc (Nat.le_refl _) _⟩

theorem u_put_twice (h : USc w0 w F ub st) (i : Int) (o : Ob) (hb : st.fits i o) (ht : st.here i o.name ≠ 0) : Calls Try.prog 42 #[.pointer (some ⟨ub, 0, none⟩), .int .i64 i, o.val] w fun e w' => e = .returned (.tuple #[.int .i64 0, .int .i64 8]) ∧ Below w.heap.size w w' := by
  have h' := h.below ((Below.refl _ _).alloc (Nat.le_refl _) o.cells)
  have HI := Aside0.mk h'
  obtain ⟨h1, h2, h3⟩ := hb
  have H1 := Aside0.mk h1
  obtain ⟨k1, k2⟩ := kind_t h2
  have HCALL := Aside0.mk (u_here h' i o.name)
  have hen : ¬ ((st.here i o.name : Int) = 0) := by omega
  have heb : ((st.here i o.name : Int) == 0) = false := by simpa using ht
  have hne := bytes_some h3
  clear h h1 h2 ht h'
  unfold Ob.val
  unfold Ob.cells at HI HCALL
  go_enter Try.func42, Try.ntmps42
  go_wp2_with (first | (go_at_call 47; refine (u_has_t HI.out _ H1.out).mono ?_; rintro e w' ⟨rfl, rfl⟩) | (go_at_call 34; refine HCALL.out.mono ?_; rintro e w' ⟨rfl, rfl⟩))
  go_ret2
  exact ⟨rfl, (Below.refl _ _).alloc (Nat.le_refl _) _⟩

def UPutDone (w0 : World) (F : Nat → Prop) (ub : Nat) (st : St) (i : Int) (o : Ob) (w w' : World) : Prop := Upd F w w' ∧ USc w0 w' (fun k => F k ∨ w.heap.size ≤ k) ub (st.put i o)
end
end Go.Proofs.Ytnmahbpkaocjdaa
