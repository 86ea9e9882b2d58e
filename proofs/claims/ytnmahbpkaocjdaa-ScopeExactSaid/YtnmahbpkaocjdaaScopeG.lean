/-
  Scopes: Put, where it is put.
-/
import Derived.Test.YtnmahbpkaocjdaaScopeF
import Derived.StillTailTactics
set_option linter.unusedVariables false
namespace Go.Proofs.Ytnmahbpkaocjdaa
open Go.RowKit Go.Proofs.YtnmahbpkaocjdaaW.PrintWords

theorem info70 : (Try.prog.info? 70).map (fun i => (i.zero, i.size, i.bytes)) = some (some Ob.zero.val, 13, 120) := by kernel_rfl

/-- The scopes while the map lags behind. -/
structure SMid (w0 w : World) (col : Nat → Nat) (sb mb n : Nat) (D : DataW Unit) (st : St) : Prop where
  c1 : col sb = 1
  cm : col mb = 2
  blk : ∃ ov bv, w.heap[sb]? = some (.cells #[ov, bv, .map (some mb)] 103 (0, 0)) ∧ intk.R 3 w w0.heap.size (fun k => col k = 3) ov st.outer ∧ obk.R 70 w w0.heap.size (fun k => col k = 4) bv st.objs
  map : w.ownsMap Try.prog 105 (plainElem Try.prog 3) mb n D
  lt : ∀ k, col k ≠ 0 → w0.heap.size ≤ k ∧ k < w.heap.size

theorem SMid.sin {w0 w : World} {col : Nat → Nat} {sb mb n : Nat} {D : DataW Unit} {st : St} (h : SMid w0 w col sb mb n D st) (hn : n ≤ st.objs.length) (hv : MapView D st) : SIn w0 w col sb st := by
  obtain ⟨ov, bv, hb, h1, h2⟩ := h.blk
  exact ⟨h.c1, ⟨ov, bv, mb, n, D, hb, h1, h2, h.cm, h.map, hn, hv⟩, h.lt⟩
theorem SMid.turn {w0 w w1 : World} {col : Nat → Nat} {sb mb n n2 : Nat} {D D2 : DataW Unit} {st : St} (h : SMid w0 w col sb mb n D st) (hg : w.grownBy w1 (some mb)) (hm : w1.ownsMap Try.prog 105 (plainElem Try.prog 3) mb n2 D2) : SMid w0 w1 col sb mb n2 D2 st := by
  have hu : Upd (fun k => k = mb) w w1 := (Upd.refl _ w).grown hg (fun k hk => .inl (by injection hk with hk; exact hk.symm))
  obtain ⟨ov, bv, hb, h1, h2⟩ := h.blk
  have hcm := h.cm
  refine ⟨h.c1, h.cm, ⟨ov, bv, hu.blk hb (fun he => ?_), Kd.R_upd h1 hu (fun k hk he => ?_), Kd.R_upd h2 hu (fun k hk he => ?_)⟩, hm, fun k hk => ⟨(h.lt k hk).1, Nat.lt_of_lt_of_le (h.lt k hk).2 hu.size⟩⟩
  · have := h.c1
    rw [he, hcm] at this
    cases this
  · have hk' : col k = 3 := hk
    rw [he, hcm] at hk'
    cases hk'
  · have hk' : col k = 4 := hk
    rw [he, hcm] at hk'
    cases hk'

theorem l_len (w : World) (sb m c : Nat) (A : Option Addr) (hc : w.cell? ⟨sb, 1, none⟩ = some (.slice A (m + 1) c)) (h2 : m ≤ 100000) : Calls Try.prog 28 #[.pointer (some ⟨sb, 0, none⟩)] w fun e w' => e = .returned (.int .i64 (m : Int)) ∧ w' = w := by
  go_enter Try.func28, Try.ntmps28
  go_wp2
  go_ret
  exact ⟨by simp, rfl⟩

section
variable {w0 w : World} {F : Nat → Prop} {sb : Nat} {st : St}

/-- Behind the append. -/
theorem put_mid {col : Nat → Nat} (hI : SIn w0 w col sb st) (h0 : w0.heap.size ≤ w.heap.size) (i : Int) (o : Ob)
    {ov bv : Value} {mb n : Nat} {D : DataW Unit} (hb : w.heap[sb]? = some (.cells #[ov, bv, .map (some mb)] 103 (0, 0))) (hr1 : intk.R 3 w w0.heap.size (fun k => col k = 3) ov st.outer) (hr2 : obk.R 70 w w0.heap.size (fun k => col k = 4) bv st.objs)
    (hc : col mb = 2) (hm : w.ownsMap Try.prog 105 (plainElem Try.prog 3) mb n D) {v1 : Value} {w1 : World}
    (hr : obk.R 70 w1 w0.heap.size (fun k => col k = 4 ∨ w.heap.size ≤ k) v1 (st.objs ++ [o])) (hg : w.grownBy w1 bv.ownBlock) :
    SMid w0 (w1.setCell ⟨sb, 1, none⟩ v1) (newCol col w.heap.size w1.heap.size 4) sb mb n D (st.put i o) ∧ Upd (fun k => col k = 4 ∨ k = sb) w (w1.setCell ⟨sb, 1, none⟩ v1) := by
  have hlt : ∀ k, col k ≠ 0 → k < w.heap.size := fun k hk => (hI.lt k hk).2
  have hrow : ∀ k, bv.ownBlock = some k → col k = 4 := fun k hk => hr2.1 k hk
  have hu1 : Upd (fun k => bv.ownBlock = some k) w w1 := (Upd.refl _ w).grown hg (fun k hk => .inl hk)
  have hu : Upd (fun k => col k = 4 ∨ k = sb) w (w1.setCell ⟨sb, 1, none⟩ v1) := (hu1.mono (T := fun k => col k = 4 ∨ k = sb) (fun k _ hk => .inl (hrow k hk))).setCell (.inl (.inr rfl)) _
  have hsz : (w1.setCell ⟨sb, 1, none⟩ v1).heap.size = w1.heap.size := by simp [World.setCell]
  have hs1 := hu1.size
  refine ⟨⟨newCol_old hlt (by decide) hI.c1, newCol_old hlt (by decide) hc, ⟨ov, v1, ?_, ?_, ?_⟩, ownsMap_upd hm hu (fun h => ?_), ?_⟩, hu⟩
  · have hb1 : w1.heap[sb]? = some (.cells #[ov, bv, .map (some mb)] 103 (0, 0)) := hu1.blk hb (fun h => by have := hrow sb h; rw [hI.c1] at this; cases this)
    exact blk_put hb1 1 v1 rfl
  · exact Kd.R_mono (Kd.R_upd hr1 hu (fun k hk h => h.elim (fun h => by omega) (fun h => by rw [h, hI.c1] at hk; cases hk))) (fun k hk => newCol_old hlt (by decide) hk)
  · refine Kd.R_far (p := ⟨sb, 1, none⟩) (Kd.R_mono (Kd.R_bound hr) (fun k hk => ?_)) (fun k hk he => ?_) v1
    · rcases hk.1 with h1 | h1
      · exact newCol_old hlt (by decide) h1
      · exact newCol_new h1 hk.2.2.1
    · have he' : k = sb := he
      subst he'
      rw [newCol_old hlt (by decide) hI.c1] at hk
      cases hk
  · rcases h with h | h
    · omega
    · rw [h, hI.c1] at hc
      cases hc
  · intro k hk
    rw [hsz]
    rcases newCol_ne hk with ⟨h1, h2⟩ | ⟨h1, h2⟩
    · exact ⟨(hI.lt k h2).1, by omega⟩
    · exact ⟨by omega, h2⟩

def PutDone (w0 : World) (F : Nat → Prop) (sb : Nat) (st : St) (i : Int) (o : Ob) (w w' : World) : Prop := Upd F w w' ∧ SRep w0 w' (fun k => F k ∨ w.heap.size ≤ k) sb (st.put i o)

theorem put_done {w wb w3 w4 : World} {col : Nat → Nat} {mb n n2 m : Nat} {D D2 : DataW Unit} {i : Int} {o : Ob} (hF : ∀ k, col k ≠ 0 → F k) (hb : Below w.heap.size w wb) (hsb : col sb = 1) (hmc : col mb = 2) (hu3 : Upd (fun k => col k = 4 ∨ k = sb) wb w3) (h3 : SMid w0 w3 (newCol col wb.heap.size m 4) sb mb n D (st.put i o))
    (hg : w3.grownBy w4 (some mb)) (hm : w4.ownsMap Try.prog 105 (plainElem Try.prog 3) mb n2 D2) (hn : n2 ≤ (st.put i o).objs.length) (hv : MapView D2 (st.put i o)) (hgood : (st.put i o).Good) : PutDone w0 F sb st i o w w4 := by
  have hs := hb.size
  have hu4 : Upd (fun k => k = mb) w3 w4 := (Upd.refl _ w3).grown hg (fun k hk => .inl (by injection hk with hk; exact hk.symm))
  have hu : Upd F wb w4 := (hu3.mono (T := F) (fun k _ hk => by
    rcases hk with hk | hk
    · exact hF k (by rw [hk]; decide)
    · exact hF k (by rw [hk, hsb]; decide))).trans hu4 (fun k hk => .inl (by rw [hk]; exact hF mb (by rw [hmc]; decide)))
  refine ⟨(Upd.of_below hb F).trans hu (fun k hk => .inl hk), hgood, _, (h3.turn hg hm).sin hn hv, fun k hk => ?_⟩
  rcases newCol_ne hk with ⟨_, h1⟩ | ⟨h1, _⟩
  · exact .inl (hF k h1)
  · exact .inr (by omega)
end
end Go.Proofs.Ytnmahbpkaocjdaa
