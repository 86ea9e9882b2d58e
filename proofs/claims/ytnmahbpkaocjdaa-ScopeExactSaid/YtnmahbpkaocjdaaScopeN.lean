/-
  Scopes: the document's rows grow. (Its three laws are printed by wip/tools/mkN.py.)
-/
import Derived.Test.YtnmahbpkaocjdaaScopeM
set_option linter.unusedVariables false
namespace Go.Proofs.Ytnmahbpkaocjdaa
open Go.RowKit Go.Proofs.YtnmahbpkaocjdaaW.PrintWords

section
variable {w0 w : World} {ub : Nat} {st : St}

theorem UIn.app_outer {col : Nat → Nat} (hI : UIn w0 w col ub st) (h0 : w0.heap.size ≤ w.heap.size) (i : Int) {ov iv bv : Value} (hb : w.heap[ub]? = some (.cells #[ov, iv, bv] 58 (0, 0))) (hr1 : intk.R 3 w w0.heap.size (fun k => col k = 2) ov st.outer) (hr2 : intk.R 3 w w0.heap.size (fun k => col k = 3) iv st.inn) (hr3 : obk.R 70 w w0.heap.size (fun k => col k = 4) bv st.objs)
    {v1 : Value} {w1 : World} (hr : intk.R 3 w1 w0.heap.size (fun k => col k = 2 ∨ w.heap.size ≤ k) v1 (st.outer ++ [i])) (hg : w.grownBy w1 ov.ownBlock) :
    UIn w0 (w1.setCell ⟨ub, 0, none⟩ v1) (newCol col w.heap.size w1.heap.size 2) ub { st with outer := st.outer ++ [i] } ∧ Upd (fun k => col k ≠ 0) w (w1.setCell ⟨ub, 0, none⟩ v1) ∧ (w1.setCell ⟨ub, 0, none⟩ v1).heap[ub]? = some (.cells #[v1, iv, bv] 58 (0, 0)) := by
  have hlt : ∀ k, col k ≠ 0 → k < w.heap.size := fun k hk => (hI.lt k hk).2
  have hrow : ∀ k, ov.ownBlock = some k → col k = 2 := fun k hk => hr1.1 k hk
  have hu1 : Upd (fun k => ov.ownBlock = some k) w w1 := (Upd.refl _ w).grown hg (fun k hk => .inl hk)
  have hu : Upd (fun k => col k = 2 ∨ k = ub) w (w1.setCell ⟨ub, 0, none⟩ v1) := (hu1.mono (T := fun k => col k = 2 ∨ k = ub) (fun k _ hk => .inl (hrow k hk))).setCell (.inl (.inr rfl)) _
  have hsz : (w1.setCell ⟨ub, 0, none⟩ v1).heap.size = w1.heap.size := by simp [World.setCell]
  have hs1 := hu1.size
  have hb1 : w1.heap[ub]? = some (.cells #[ov, iv, bv] 58 (0, 0)) := hu1.blk hb (fun h => by have := hrow ub h; rw [hI.c1] at this; cases this)
  have hb2 := blk_put hb1 0 v1 rfl
  refine ⟨⟨newCol_old hlt (by decide) hI.c1, ⟨v1, iv, bv, hb2, ?_, ?_, ?_⟩, ?_⟩, hu.mono (fun k _ hk => ?_), hb2⟩
  · refine Kd.R_far (p := ⟨ub, 0, none⟩) (Kd.R_mono (Kd.R_bound hr) (fun k hk => ?_)) (fun k hk he => ?_) v1
    · rcases hk.1 with h1 | h1
      · exact newCol_old hlt (by decide) h1
      · exact newCol_new h1 hk.2.2.1
    · have he' : k = ub := he
      subst he'
      rw [newCol_old hlt (by decide) hI.c1] at hk
      cases hk
  · exact Kd.R_mono (Kd.R_upd hr2 hu (fun k hk h => h.elim (fun h => by omega) (fun h => by rw [h, hI.c1] at hk; cases hk))) (fun k hk => newCol_old hlt (by decide) hk)
  · exact Kd.R_mono (Kd.R_upd hr3 hu (fun k hk h => h.elim (fun h => by omega) (fun h => by rw [h, hI.c1] at hk; cases hk))) (fun k hk => newCol_old hlt (by decide) hk)
  · intro k hk
    rw [hsz]
    rcases newCol_ne hk with ⟨h1, h2⟩ | ⟨h1, h2⟩
    · exact ⟨(hI.lt k h2).1, by omega⟩
    · exact ⟨by omega, h2⟩
  · rcases hk with hk | hk
    · rw [hk]; decide
    · rw [hk, hI.c1]; decide

theorem UIn.app_inn {col : Nat → Nat} (hI : UIn w0 w col ub st) (h0 : w0.heap.size ≤ w.heap.size) (i : Int) {ov iv bv : Value} (hb : w.heap[ub]? = some (.cells #[ov, iv, bv] 58 (0, 0))) (hr1 : intk.R 3 w w0.heap.size (fun k => col k = 2) ov st.outer) (hr2 : intk.R 3 w w0.heap.size (fun k => col k = 3) iv st.inn) (hr3 : obk.R 70 w w0.heap.size (fun k => col k = 4) bv st.objs)
    {v1 : Value} {w1 : World} (hr : intk.R 3 w1 w0.heap.size (fun k => col k = 3 ∨ w.heap.size ≤ k) v1 (st.inn ++ [i])) (hg : w.grownBy w1 iv.ownBlock) :
    UIn w0 (w1.setCell ⟨ub, 1, none⟩ v1) (newCol col w.heap.size w1.heap.size 3) ub { st with inn := st.inn ++ [i] } ∧ Upd (fun k => col k ≠ 0) w (w1.setCell ⟨ub, 1, none⟩ v1) ∧ (w1.setCell ⟨ub, 1, none⟩ v1).heap[ub]? = some (.cells #[ov, v1, bv] 58 (0, 0)) := by
  have hlt : ∀ k, col k ≠ 0 → k < w.heap.size := fun k hk => (hI.lt k hk).2
  have hrow : ∀ k, iv.ownBlock = some k → col k = 3 := fun k hk => hr2.1 k hk
  have hu1 : Upd (fun k => iv.ownBlock = some k) w w1 := (Upd.refl _ w).grown hg (fun k hk => .inl hk)
  have hu : Upd (fun k => col k = 3 ∨ k = ub) w (w1.setCell ⟨ub, 1, none⟩ v1) := (hu1.mono (T := fun k => col k = 3 ∨ k = ub) (fun k _ hk => .inl (hrow k hk))).setCell (.inl (.inr rfl)) _
  have hsz : (w1.setCell ⟨ub, 1, none⟩ v1).heap.size = w1.heap.size := by simp [World.setCell]
  have hs1 := hu1.size
  have hb1 : w1.heap[ub]? = some (.cells #[ov, iv, bv] 58 (0, 0)) := hu1.blk hb (fun h => by have := hrow ub h; rw [hI.c1] at this; cases this)
  have hb2 := blk_put hb1 1 v1 rfl
  refine ⟨⟨newCol_old hlt (by decide) hI.c1, ⟨ov, v1, bv, hb2, ?_, ?_, ?_⟩, ?_⟩, hu.mono (fun k _ hk => ?_), hb2⟩
  · exact Kd.R_mono (Kd.R_upd hr1 hu (fun k hk h => h.elim (fun h => by omega) (fun h => by rw [h, hI.c1] at hk; cases hk))) (fun k hk => newCol_old hlt (by decide) hk)
  · refine Kd.R_far (p := ⟨ub, 1, none⟩) (Kd.R_mono (Kd.R_bound hr) (fun k hk => ?_)) (fun k hk he => ?_) v1
    · rcases hk.1 with h1 | h1
      · exact newCol_old hlt (by decide) h1
      · exact newCol_new h1 hk.2.2.1
    · have he' : k = ub := he
      subst he'
      rw [newCol_old hlt (by decide) hI.c1] at hk
      cases hk
  · exact Kd.R_mono (Kd.R_upd hr3 hu (fun k hk h => h.elim (fun h => by omega) (fun h => by rw [h, hI.c1] at hk; cases hk))) (fun k hk => newCol_old hlt (by decide) hk)
  · intro k hk
    rw [hsz]
    rcases newCol_ne hk with ⟨h1, h2⟩ | ⟨h1, h2⟩
    · exact ⟨(hI.lt k h2).1, by omega⟩
    · exact ⟨by omega, h2⟩
  · rcases hk with hk | hk
    · rw [hk]; decide
    · rw [hk, hI.c1]; decide

theorem UIn.app_objs {col : Nat → Nat} (hI : UIn w0 w col ub st) (h0 : w0.heap.size ≤ w.heap.size) (o : Ob) {ov iv bv : Value} (hb : w.heap[ub]? = some (.cells #[ov, iv, bv] 58 (0, 0))) (hr1 : intk.R 3 w w0.heap.size (fun k => col k = 2) ov st.outer) (hr2 : intk.R 3 w w0.heap.size (fun k => col k = 3) iv st.inn) (hr3 : obk.R 70 w w0.heap.size (fun k => col k = 4) bv st.objs)
    {v1 : Value} {w1 : World} (hr : obk.R 70 w1 w0.heap.size (fun k => col k = 4 ∨ w.heap.size ≤ k) v1 (st.objs ++ [o])) (hg : w.grownBy w1 bv.ownBlock) :
    UIn w0 (w1.setCell ⟨ub, 2, none⟩ v1) (newCol col w.heap.size w1.heap.size 4) ub { st with objs := st.objs ++ [o] } ∧ Upd (fun k => col k ≠ 0) w (w1.setCell ⟨ub, 2, none⟩ v1) ∧ (w1.setCell ⟨ub, 2, none⟩ v1).heap[ub]? = some (.cells #[ov, iv, v1] 58 (0, 0)) := by
  have hlt : ∀ k, col k ≠ 0 → k < w.heap.size := fun k hk => (hI.lt k hk).2
  have hrow : ∀ k, bv.ownBlock = some k → col k = 4 := fun k hk => hr3.1 k hk
  have hu1 : Upd (fun k => bv.ownBlock = some k) w w1 := (Upd.refl _ w).grown hg (fun k hk => .inl hk)
  have hu : Upd (fun k => col k = 4 ∨ k = ub) w (w1.setCell ⟨ub, 2, none⟩ v1) := (hu1.mono (T := fun k => col k = 4 ∨ k = ub) (fun k _ hk => .inl (hrow k hk))).setCell (.inl (.inr rfl)) _
  have hsz : (w1.setCell ⟨ub, 2, none⟩ v1).heap.size = w1.heap.size := by simp [World.setCell]
  have hs1 := hu1.size
  have hb1 : w1.heap[ub]? = some (.cells #[ov, iv, bv] 58 (0, 0)) := hu1.blk hb (fun h => by have := hrow ub h; rw [hI.c1] at this; cases this)
  have hb2 := blk_put hb1 2 v1 rfl
  refine ⟨⟨newCol_old hlt (by decide) hI.c1, ⟨ov, iv, v1, hb2, ?_, ?_, ?_⟩, ?_⟩, hu.mono (fun k _ hk => ?_), hb2⟩
  · exact Kd.R_mono (Kd.R_upd hr1 hu (fun k hk h => h.elim (fun h => by omega) (fun h => by rw [h, hI.c1] at hk; cases hk))) (fun k hk => newCol_old hlt (by decide) hk)
  · exact Kd.R_mono (Kd.R_upd hr2 hu (fun k hk h => h.elim (fun h => by omega) (fun h => by rw [h, hI.c1] at hk; cases hk))) (fun k hk => newCol_old hlt (by decide) hk)
  · refine Kd.R_far (p := ⟨ub, 2, none⟩) (Kd.R_mono (Kd.R_bound hr) (fun k hk => ?_)) (fun k hk he => ?_) v1
    · rcases hk.1 with h1 | h1
      · exact newCol_old hlt (by decide) h1
      · exact newCol_new h1 hk.2.2.1
    · have he' : k = ub := he
      subst he'
      rw [newCol_old hlt (by decide) hI.c1] at hk
      cases hk
  · intro k hk
    rw [hsz]
    rcases newCol_ne hk with ⟨h1, h2⟩ | ⟨h1, h2⟩
    · exact ⟨(hI.lt k h2).1, by omega⟩
    · exact ⟨by omega, h2⟩
  · rcases hk with hk | hk
    · rw [hk]; decide
    · rw [hk, hI.c1]; decide
end
end Go.Proofs.Ytnmahbpkaocjdaa
