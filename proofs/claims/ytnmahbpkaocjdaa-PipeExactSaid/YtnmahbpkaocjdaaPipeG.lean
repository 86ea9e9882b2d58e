/-
  Channels: Make.
-/
import Derived.Test.YtnmahbpkaocjdaaPipeF
set_option linter.unusedVariables false
namespace Go.Proofs.Ytnmahbpkaocjdaa
open Go.RowKit Go.Proofs.YtnmahbpkaocjdaaW.PrintWords

theorem pairwise_snoc {α : Type} {R : α → α → Prop} {l : List α} {y : α} (h : l.Pairwise R) (hy : ∀ x ∈ l, R x y) : (l ++ [y]).Pairwise R := by
  rw [List.pairwise_append]
  exact ⟨h, List.pairwise_singleton _ _, fun x hx z hz => by rw [List.mem_singleton.1 hz]; exact hy x hx⟩

theorem info88 : (Try.prog.info? 88).map (fun i => (i.zero, i.size, i.bytes)) = some (some (.pointer none), 1, 8) := by kernel_rfl

section
variable {w0 w : World} {top : Nat → Prop} {sb : Nat} {chs : List Ch}

theorem Make_bad (sb : Nat) (r : Int) (hr : r < 0 ∨ 1024 < r) :
    Calls Try.prog 10 #[.pointer (some ⟨sb, 0, none⟩), .int .i64 r] w fun e w' => e = .returned (.tuple #[.int .i64 0, .int .i64 1]) ∧ w = w' := by
  by_cases h1 : r < 0
  · go_enter Try.func10, Try.ntmps10
    go_wp2
    go_ret2
    exact ⟨rfl, rfl⟩
  · have h2 : 1024 < r := by omega
    go_enter Try.func10, Try.ntmps10
    go_wp2
    go_ret2
    exact ⟨rfl, rfl⟩

/-- A channel more. -/
def Made (w0 : World) (top : Nat → Prop) (sb : Nat) (chs : List Ch) (r : Int) (w : World) (e : Ending) (w' : World) : Prop :=
  ∃ top' c, e = .returned (.tuple #[.int .i64 ((chs.length + 1 : Nat) : Int), .int .i64 0]) ∧ Upd top w w' ∧ (∀ j, top' j → top j ∨ w.heap.size ≤ j) ∧ (∀ j, c.own j → w.heap.size ≤ j) ∧ c.room = r ∧ c.q = [] ∧ c.closed = false ∧ PRep w0 w' top' sb (chs ++ [c])

theorem make_fin (h : PRep w0 w top sb chs) (h0 : w0.heap.size ≤ w.heap.size) (r : Int) (hr0 : 0 ≤ r) (hr1 : r ≤ 1024) (hf : chs.length < 1000) {v v1 : Value} {w1 : World}
    (hb : w.heap[sb]? = some (.cells #[v] 87 (0, 0))) (hrow : ptrk.R 88 w w0.heap.size (fun j => top j ∧ j ≠ sb) v (chs.map Ch.b))
    (hr : ptrk.R 88 w1 w0.heap.size (fun j => (top j ∨ w.heap.size + 1 ≤ j) ∧ j ≠ sb) v1 (chs.map Ch.b ++ [w.heap.size]))
    (hg : (w.alloc (.cells #[.int .i64 r, .slice none 0 0, .bool false] 90)).grownBy w1 v.ownBlock) :
    Made w0 top sb chs r w (.returned (.tuple #[.int .i64 ((chs.length + 1 : Nat) : Int), .int .i64 0])) (w1.setCell ⟨sb, 0, none⟩ v1) := by
  have hin : ∀ j, v.ownBlock = some j → top j := fun j hj => (hrow.1 j hj).1
  have hne : ¬ v.ownBlock = some sb := fun he => (hrow.1 sb he).2 rfl
  have hu1 : Upd (fun j => v.ownBlock = some j) w w1 := ((Upd.refl _ w).alloc _).grown hg (fun j hj => .inl hj)
  have hb1 := hu1.blk hb hne
  have hb2 := blk_put hb1 0 v1 rfl
  have hu2 : Upd top w (w1.setCell ⟨sb, 0, none⟩ v1) := (hu1.mono (T := top) (fun j _ hj => hin j hj)).setCell (.inl h.top_sb) _
  have hsz : w.heap.size + 1 ≤ w1.heap.size := by have := hg.size; simpa using this
  have hsz2 : (w1.setCell ⟨sb, 0, none⟩ v1).heap.size = w1.heap.size := by simp [World.setCell]
  have hsblt := (h.lt _ h.top_sb).2
  have hnb : (w1.setCell ⟨sb, 0, none⟩ v1).heap[w.heap.size]? = some (.cells #[.int .i64 r, .slice none 0 0, .bool false] 90 (0, 0)) := by
    rw [Below.heap_setCell _ _ _ _ (show w.heap.size ≠ sb by omega)]
    have h1 := hg.block w.heap.size (by simp) (fun he => by have := (h.lt _ (hin _ he.symm)).2; omega)
    rw [h1]
    exact heap_alloc_new w _
  have hrow2 : ptrk.R 88 (w1.setCell ⟨sb, 0, none⟩ v1) w0.heap.size (fun j => (top j ∨ w.heap.size + 1 ≤ j) ∧ j ≠ sb) v1 (chs.map Ch.b ++ [w.heap.size]) := Kd.R_far (p := ⟨sb, 0, none⟩) hr (fun j hj => hj.2) v1
  let c : Ch := ⟨w.heap.size, r, .slice none 0 0, [], false, fun j => j = w.heap.size⟩
  refine ⟨fun j => top j ∨ (w.heap.size + 1 ≤ j ∧ j < w1.heap.size), c, rfl, hu2, fun j hj => hj.imp id (fun hj => by omega), fun j hj => by rw [hj]; exact Nat.le_refl _, rfl, rfl, rfl, ?_⟩
  refine ⟨.inl h.top_sb, ⟨v1, hb2, ?_⟩, ?_, ?_, ?_, ?_, by rw [List.length_append, List.length_singleton]; omega⟩
  · rw [List.map_append]
    refine Kd.R_mono (Kd.R_bound hrow2) (fun j hj => ⟨?_, hj.1.2⟩)
    rcases hj.1.1 with h3 | h3
    · exact .inl h3
    · exact .inr ⟨h3, by rw [← hsz2]; exact hj.2.2.1⟩
  · rintro j (hj | hj)
    · exact ⟨(h.lt j hj).1, by have := (h.lt j hj).2; omega⟩
    · exact ⟨by omega, by omega⟩
  · intro d hd
    rcases List.mem_append.1 hd with hd | hd
    · exact (h.each d hd).upd hu2 (fun j hj ht => h.apart d hd j hj ht)
    · rw [List.mem_singleton.1 hd]
      exact ⟨rfl, hnb, Kd.Q_nil _ _ _ _ _, fun j hj => by rw [hj]; omega, hr0, hr1, hr0⟩
  · intro d hd j hj ht
    rcases List.mem_append.1 hd with hd | hd
    · rcases ht with ht | ht
      · exact h.apart d hd j hj ht
      · have := ((h.each d hd).lt j hj).2
        omega
    · rw [List.mem_singleton.1 hd] at hj
      have hj' : j = w.heap.size := hj
      rcases ht with ht | ht
      · have := (h.lt j ht).2
        omega
      · omega
  · refine pairwise_snoc h.pair (fun d hd j hj hj2 => ?_)
    have hj' : j = w.heap.size := hj2
    have := ((h.each d hd).lt j hj).2
    omega

set_option maxRecDepth 100000 in
theorem Make_ok (h : PRep w0 w top sb chs) (h0 : w0.heap.size ≤ w.heap.size) (r : Int) (hr0 : 0 ≤ r) (hr1 : r ≤ 1024) (hf : chs.length < 1000) :
    Calls Try.prog 10 #[.pointer (some ⟨sb, 0, none⟩), .int .i64 r] w (Made w0 top sb chs r w) := by
  obtain ⟨v, hb, hrow⟩ := h.blk
  have hsb := h.top_sb
  have hlt := (h.lt _ hsb).2
  obtain ⟨A, c, hv⟩ := Kd.R_slice hrow
  rw [List.length_map] at hv
  subst hv
  have c0 : w.cell? ⟨sb, 0, none⟩ = some (.slice A chs.length c) := by rw [blk_cell hb]; rfl
  have f0 : w.frozen? ⟨sb, 0, none⟩ = false := blk_frozen hb _
  have hne : some sb ≠ (Value.slice A chs.length c).ownBlock := fun he => (hrow.1 sb he.symm).2 rfl
  have HPS := Aside0.mk (show 0 < ptrk.sz by show 0 < 1; omega)
  have HNE := Aside0.mk hne
  have HR := Aside0.mk hrow
  have HB := Aside0.mk hb
  have HH := Aside0.mk h
  have HSB := Aside0.mk hsb
  have hd : decide ((65536 : Int) ≤ (chs.length : Int)) = false := by simp; omega
  clear hb hrow h hsb hne
  go_enter Try.func10, Try.ntmps10
  go_wp2_with (at_builtin; refine Stand.stop ?_)
  refine Stand.go ?_
  refine Kd.R_append ptrk (w0 := w) (W := w.alloc (.cells #[.int .i64 r, .slice none 0 0, .bool false] 90)) w0.heap.size rfl (.tmp 27) (.tmp 31) 85 88 (.pointer none) 8 rfl Try.underlying85 info88 rfl HPS.out (by decide) (.slice A chs.length c) (chs.map Ch.b) w.heap.size [.pointer (some ⟨w.heap.size, 0, none⟩)]
    (fun j => (top j ∨ w.heap.size + 1 ≤ j) ∧ j ≠ sb) (fun _ => False) (by rfl) (by show Value.slice (some ⟨w.heap.size + 1, 0, none⟩) 1 1 = _; rw [World.size_alloc]) rfl (fun _ hj => hj.elim)
    (fun j hj => by rw [World.size_alloc] at hj; exact ⟨.inr hj, by omega⟩) (Kd.R_mono (Kd.R_alloc HR.out _) (fun j hj => ⟨.inl hj.1, hj.2⟩)) ((Below.refl _ _).alloc (by omega) _) (by rw [World.size_alloc]; omega) (by rw [List.length_map]; omega) ?_
  intro v1 w1 hr hb1 hg hat
  have hfin := Aside0.mk (make_fin HH.out h0 r hr0 hr1 hf HB.out HR.out hr hg)
  have c1 : w1.cell? ⟨sb, 0, none⟩ = some (.slice A chs.length c) := (hg.cell_far _ (by simp; omega) HNE.out).trans (cell_alloc c0 _)
  have f1 : w1.frozen? ⟨sb, 0, none⟩ = false := (hg.frozen_far _ (by simp; omega) HNE.out).trans (frozen_alloc f0 hlt _)
  obtain ⟨A1, cc1, hv1⟩ := Kd.R_slice hr
  rw [List.length_append, List.length_map, List.length_singleton] at hv1
  rw [hv1] at hfin ⊢
  clear hr hb1 hg hat hv1
  go_wp2
  go_ret2
  exact hfin.out
end
end Go.Proofs.Ytnmahbpkaocjdaa
