/-
  Scopes: Open.
-/
import Derived.Test.YtnmahbpkaocjdaaScopeD
set_option linter.unusedVariables false
namespace Go.Proofs.Ytnmahbpkaocjdaa
open Go.RowKit Go.Proofs.YtnmahbpkaocjdaaW.PrintWords

/-- New blocks get a colour. -/
def newCol (col : Nat → Nat) (n m c : Nat) : Nat → Nat := fun k => if k < n then col k else if k < m then c else 0
theorem newCol_old {col : Nat → Nat} {n m c d k : Nat} (hlt : ∀ k, col k ≠ 0 → k < n) (hd : d ≠ 0) (h : col k = d) : newCol col n m c k = d := by
  have := hlt k (by rw [h]; exact hd)
  unfold newCol
  rw [if_pos this, h]
theorem newCol_new {col : Nat → Nat} {n m c k : Nat} (h1 : n ≤ k) (h2 : k < m) : newCol col n m c k = c := by
  unfold newCol
  rw [if_neg (by omega), if_pos h2]
theorem newCol_ne {col : Nat → Nat} {n m c k : Nat} (h : newCol col n m c k ≠ 0) : (k < n ∧ col k ≠ 0) ∨ (n ≤ k ∧ k < m) := by
  unfold newCol at h
  by_cases h1 : k < n
  · rw [if_pos h1] at h; exact .inl ⟨h1, h⟩
  · rw [if_neg h1] at h
    by_cases h2 : k < m
    · exact .inr ⟨by omega, h2⟩
    · rw [if_neg h2] at h; exact absurd rfl h
theorem info3 : (Try.prog.info? 3).map (fun i => (i.zero, i.size, i.bytes)) = some (some (.int .i64 0), 1, 8) := by kernel_rfl

section
variable {w0 w : World} {F : Nat → Prop} {sb : Nat} {st : St}

theorem s_open_f (h : SRep w0 w F sb st) (i : Int) (hh : st.has i = false) : Calls Try.prog 35 #[.pointer (some ⟨sb, 0, none⟩), .int .i64 i] w fun e w' => e = .returned (.tuple #[.int .i64 0, .int .i64 1]) ∧ w = w' := by
  have HI := Aside0.mk h
  have HH := Aside0.mk hh
  clear h hh
  go_enter Try.func35, Try.ntmps35
  go_wp2_with (go_at_call 44; refine (s_has_f HI.out _ HH.out).mono ?_; rintro e w' ⟨rfl, rfl⟩)
  go_ret2
  exact ⟨rfl, rfl⟩

theorem open_fin {col : Nat → Nat} (g : st.Good) (hI : SIn w0 w col sb st) (hF : ∀ k, col k ≠ 0 → F k) (h0 : w0.heap.size ≤ w.heap.size) {i : Int} (hh : st.has i = true) (hl : st.outer.length < 1000)
    {ov bv : Value} {mb n : Nat} {D : DataW Unit} (hb : w.heap[sb]? = some (.cells #[ov, bv, .map (some mb)] 103 (0, 0))) (hr1 : intk.R 3 w w0.heap.size (fun k => col k = 3) ov st.outer) (hr2 : obk.R 70 w w0.heap.size (fun k => col k = 4) bv st.objs)
    (hc : col mb = 2) (hm : w.ownsMap Try.prog 105 (plainElem Try.prog 3) mb n D) (hn2 : n ≤ st.objs.length) (hv : MapView D st) {v1 : Value} {w1 : World}
    (hr : intk.R 3 w1 w0.heap.size (fun k => col k = 3 ∨ w.heap.size ≤ k) v1 (st.outer ++ [i])) (hg : w.grownBy w1 ov.ownBlock) :
    Upd F w (w1.setCell ⟨sb, 0, none⟩ v1) ∧ SRep w0 (w1.setCell ⟨sb, 0, none⟩ v1) (fun k => F k ∨ w.heap.size ≤ k) sb (st.open_ i) := by
  have hlt : ∀ k, col k ≠ 0 → k < w.heap.size := fun k hk => (hI.lt k hk).2
  have hsb : col sb ≠ 0 := by rw [hI.c1]; decide
  have hrow : ∀ k, ov.ownBlock = some k → col k = 3 := fun k hk => hr1.1 k hk
  have hu1 : Upd (fun k => ov.ownBlock = some k) w w1 := (Upd.refl _ w).grown hg (fun k hk => .inl hk)
  have hu : Upd (fun k => ov.ownBlock = some k ∨ k = sb) w (w1.setCell ⟨sb, 0, none⟩ v1) := (hu1.mono (T := fun k => ov.ownBlock = some k ∨ k = sb) (fun k _ hk => .inl hk)).setCell (.inl (.inr rfl)) _
  have hsz : (w1.setCell ⟨sb, 0, none⟩ v1).heap.size = w1.heap.size := by simp [World.setCell]
  have hs1 := hu1.size
  refine ⟨hu.mono (fun k _ hk => hk.elim (fun hk => hF k (by rw [hrow k hk]; decide)) (fun hk => hF k (by rw [hk]; exact hsb))), g.open_ hh hl, newCol col w.heap.size w1.heap.size 3, ⟨newCol_old hlt (by decide) hI.c1, ⟨v1, bv, mb, n, D, ?_, ?_, ?_, newCol_old hlt (by decide) hc, ownsMap_upd hm hu (fun h => ?_), hn2, hv.same (fun a nm => St.here_open i a nm)⟩, ?_⟩, ?_⟩
  · have hb1 : w1.heap[sb]? = some (.cells #[ov, bv, .map (some mb)] 103 (0, 0)) := hu1.blk hb (fun h => by have := hrow sb h; rw [hI.c1] at this; cases this)
    exact blk_put hb1 0 v1 rfl
  · refine Kd.R_far (p := ⟨sb, 0, none⟩) (Kd.R_mono (Kd.R_bound hr) (fun k hk => ?_)) (fun k hk he => ?_) v1
    · rcases hk.1 with h1 | h1
      · exact newCol_old hlt (by decide) h1
      · exact newCol_new h1 hk.2.2.1
    · have he' : k = sb := he
      subst he'
      rw [newCol_old hlt (by decide) hI.c1] at hk
      cases hk
  · exact Kd.R_mono (Kd.R_upd hr2 hu (fun k hk h => h.elim (fun h => by have := hrow k h; omega) (fun h => by rw [h, hI.c1] at hk; cases hk))) (fun k hk => newCol_old hlt (by decide) hk)
  · rcases h with h | h
    · have := hrow mb h
      omega
    · rw [h, hI.c1] at hc
      cases hc
  · intro k hk
    rw [hsz]
    rcases newCol_ne hk with ⟨h1, h2⟩ | ⟨h1, h2⟩
    · exact ⟨(hI.lt k h2).1, by omega⟩
    · exact ⟨by omega, h2⟩
  · intro k hk
    rcases newCol_ne hk with ⟨h1, h2⟩ | ⟨h1, h2⟩
    · exact .inl (hF k h2)
    · exact .inr h1

theorem s_open_t (h : SRep w0 w F sb st) (h0 : w0.heap.size ≤ w.heap.size) (i : Int) (hh : st.has i = true) (hl : st.outer.length < 1000) :
    Calls Try.prog 35 #[.pointer (some ⟨sb, 0, none⟩), .int .i64 i] w fun e w' => e = .returned (.tuple #[.int .i64 (st.outer.length : Int), .int .i64 0]) ∧ Upd F w w' ∧ SRep w0 w' (fun k => F k ∨ w.heap.size ≤ k) sb (st.open_ i) := by
  have hd := h
  obtain ⟨g, col, hI, hF⟩ := hd
  obtain ⟨ov, bv, mb, n, D, hb, hr1, hr2, hc, hm, hn2, hv⟩ := hI.blk
  have HFIN := Aside0.mk (fun v1 w1 => open_fin (v1 := v1) (w1 := w1) g hI hF h0 hh hl hb hr1 hr2 hc hm hn2 hv)
  obtain ⟨A1, c1, hov, _⟩ := int_cell hr1
  subst hov
  have x0 : w.cell? ⟨sb, 0, none⟩ = some (.slice A1 st.outer.length c1) := by rw [blk_cell hb]; rfl
  have f0 : w.frozen? ⟨sb, 0, none⟩ = false := blk_frozen hb _
  have hlt : sb < w.heap.size := blk_lt hb
  have hne : some sb ≠ (Value.slice A1 st.outer.length c1).ownBlock := fun he => by { have h3 : col sb = 3 := hr1.1 sb he.symm; rw [hI.c1] at h3; cases h3 }
  have hp := g.o2
  have hd : decide ((65536 : Int) < (st.outer.length : Int)) = false := by simp; omega
  have HR := Aside0.mk hr1
  have HNE := Aside0.mk hne
  have HI := Aside0.mk h
  have HH := Aside0.mk hh
  have HPS := Aside0.mk (show 0 < intk.sz by show 0 < 1; omega)
  clear g hI hb hr1 hr2 hc hm hn2 hv h hh hne hF
  go_enter Try.func35, Try.ntmps35
  go_wp2_with (first | (go_at_call 44; refine (s_has_t HI.out _ HH.out).mono ?_; rintro e w' ⟨rfl, rfl⟩) | (at_builtin; refine Stand.stop ?_))
  refine Stand.go ?_
  refine Kd.R_append intk (w0 := w) (W := w) w0.heap.size rfl (.tmp 25) (.tmp 27) 55 3 (.int .i64 0) 8 rfl Try.underlying55 info3 rfl HPS.out (by decide) (.slice A1 st.outer.length c1) st.outer i [.int .i64 i]
    (fun k => col k = 3 ∨ w.heap.size ≤ k) (fun _ => False) (by rfl) (by rfl) rfl (fun _ hj => hj.elim) (fun j hj => .inr hj) (Kd.R_mono HR.out (fun j hj => .inl hj)) (Below.refl _ _) h0 (by omega) ?_
  intro v1 w1 hr hb1 hg hat
  have hfin := HFIN.out v1 w1 hr hg
  have HF2 := Aside0.mk hfin
  have x1 : w1.cell? ⟨sb, 0, none⟩ = some (.slice A1 st.outer.length c1) := (hg.cell_far _ hlt HNE.out).trans x0
  have f1 : w1.frozen? ⟨sb, 0, none⟩ = false := (hg.frozen_far _ hlt HNE.out).trans f0
  obtain ⟨A2, c2, hv1⟩ := Kd.R_slice hr
  rw [List.length_append, List.length_singleton] at hv1
  rw [hv1] at HF2 ⊢
  clear hr hb1 hg hat hv1 hfin x0 f0
  go_wp2
  go_ret2
  exact ⟨by simp, HF2.out⟩
end
end Go.Proofs.Ytnmahbpkaocjdaa
