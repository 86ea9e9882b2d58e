/-
  Scopes: the document's Put, where it is put.
-/
import Derived.Test.YtnmahbpkaocjdaaScopeO
set_option linter.unusedVariables false
namespace Go.Proofs.Ytnmahbpkaocjdaa
open Go.RowKit Go.Proofs.YtnmahbpkaocjdaaW.PrintWords

section
variable {w0 w : World} {F : Nat → Prop} {ub : Nat} {st : St}

set_option maxRecDepth 100000 in
set_option maxHeartbeats 4000000 in
theorem u_put_ok (h : USc w0 w F ub st) (h0 : w0.heap.size ≤ w.heap.size) (i : Int) (o : Ob) (hf : st.fits i o) (hn : o.name.size ≤ maxLen) (ht : st.here i o.name = 0) (hl : st.objs.length < 1000) :
    Calls Try.prog 42 #[.pointer (some ⟨ub, 0, none⟩), .int .i64 i, o.val] w fun e w' => e = .returned (.tuple #[.int .i64 (st.objs.length : Int), .int .i64 0]) ∧ UPutDone w0 F ub st i o w w' := by
  have hbe := h.below ((Below.refl w.heap.size w).alloc (Nat.le_refl _) o.cells)
  have HI := Aside0.mk hbe
  have hcall := u_here hbe i o.name
  rw [ht] at hcall
  have HCALL := Aside0.mk hcall
  obtain ⟨wb, hwb⟩ : ∃ wb, wb = w.alloc o.cells := ⟨_, rfl⟩
  have HWB := Aside0.mk hwb
  have hbel : Below w.heap.size w wb := by rw [hwb]; exact (Below.refl w.heap.size w).alloc (Nat.le_refl _) o.cells
  have HOB : Aside0 (wb.heap[w.heap.size]? = some o.cells) := ⟨by rw [hwb]; exact heap_alloc_new w o.cells⟩
  have h' := h
  obtain ⟨h1, h2, h3⟩ := hf
  have hne := bytes_some h3
  obtain ⟨k1, k2⟩ := kind_t h2
  obtain ⟨g, col, hI0, hF⟩ := h'
  have hI := hI0.upd (Upd.of_below hbel (fun _ => False)) (fun _ _ h => h)
  have hgood := g.put h1 hl hn
  have hpos := g.pos
  have hglen := g.len
  obtain ⟨ov, iv, bv, hb, hr1, hr2, hr3⟩ := hI.blk
  obtain ⟨A1, c1, hbv, _, _⟩ := ob_cell hr3
  subst hbv
  obtain ⟨A3, c3, hiv, _, _⟩ := int_cell hr2
  subst hiv
  have x1 : wb.cell? ⟨ub, 2, none⟩ = some (.slice A1 st.objs.length c1) := by rw [blk_cell hb]; rfl
  have f1 : wb.frozen? ⟨ub, 2, none⟩ = false := blk_frozen hb _
  have HLT := Aside0.mk (blk_lt hb)
  have hnw : ub ≠ w.heap.size := fun he => by
    have := (hI0.lt ub (by rw [hI0.c1]; decide)).2
    omega
  have hne1 : some ub ≠ (Value.slice A1 st.objs.length c1).ownBlock := fun he => by { have h3 : col ub = 4 := hr3.1 ub he.symm; rw [hI.c1] at h3; cases h3 }
  have hne2 : some ub ≠ (Value.slice A3 st.inn.length c3).ownBlock := fun he => by { have h3 : col ub = 3 := hr2.1 ub he.symm; rw [hI.c1] at h3; cases h3 }
  have hne3 : some w.heap.size ≠ (Value.slice A1 st.objs.length c1).ownBlock := fun he => by
    have h3 : col w.heap.size = 4 := hr3.1 _ he.symm
    have := (hI0.lt _ (by rw [h3]; decide)).2
    omega
  have HIN := Aside0.mk hI
  have HIN0 := Aside0.mk hI0
  have H1 := Aside0.mk h1
  have HR1 := Aside0.mk hr1
  have HR2 := Aside0.mk hr2
  have HR3 := Aside0.mk hr3
  have HB := Aside0.mk hb
  have HG := Aside0.mk hgood
  have HF := Aside0.mk hF
  have HBEL := Aside0.mk hbel
  have HNW := Aside0.mk hnw
  have HNE1 := Aside0.mk hne1
  have HNE2 := Aside0.mk hne2
  have HNE3 := Aside0.mk hne3
  have HLEN := Aside0.mk hglen
  have h0b : w0.heap.size ≤ wb.heap.size := Nat.le_trans h0 hbel.size
  have HPS := Aside0.mk (show 0 < obk.sz by show 0 < 13; omega)
  have HPI := Aside0.mk (show 0 < intk.sz by show 0 < 1; omega)
  clear h h1 h2 h3 ht g hI hI0 hF hgood hb hr1 hr2 hr3 hbel hwb hne1 hne2 hne3 hnw hbe hcall hglen
  unfold Ob.val
  go_enter Try.func42, Try.ntmps42
  unfold Ob.cells at HI HCALL
  go_wp2_with (first | (go_at_call 47; refine (u_has_t HI.out _ H1.out).mono ?_; rintro e w' ⟨rfl, rfl⟩) | (go_at_call 34; refine HCALL.out.mono ?_; rintro e w' ⟨rfl, rfl⟩))
  have hwe : w.alloc (Obj.cells #[.int .i64 o.kind, .string o.name, .int .i64 o.typ, .int .i64 o.node, .int .i64 o.num, .int .i64 o.ck, .int .u64 o.hi, .int .u64 o.lo, .bool o.cb, .string o.cs, .int .i64 o.file, .int .i64 o.line, .int .i64 o.col] 70) = wb := HWB.out.symm
  rw [hwe]
  clear hwe HI HWB HCALL
  obtain ⟨bo, hbo⟩ : ∃ bo, bo = w.heap.size := ⟨_, rfl⟩
  rw [← hbo] at HOB HNW HNE3 ⊢
  have z0 : wb.cell? ⟨bo, 0, none⟩ = some (.int .i64 o.kind) := by rw [blk_cell HOB.out]; rfl
  have z1 : wb.cell? ⟨bo, 1, none⟩ = some (.string o.name) := by rw [blk_cell HOB.out]; rfl
  have z2 : wb.cell? ⟨bo, 2, none⟩ = some (.int .i64 o.typ) := by rw [blk_cell HOB.out]; rfl
  have z3 : wb.cell? ⟨bo, 3, none⟩ = some (.int .i64 o.node) := by rw [blk_cell HOB.out]; rfl
  have z4 : wb.cell? ⟨bo, 4, none⟩ = some (.int .i64 o.num) := by rw [blk_cell HOB.out]; rfl
  have z5 : wb.cell? ⟨bo, 5, none⟩ = some (.int .i64 o.ck) := by rw [blk_cell HOB.out]; rfl
  have z6 : wb.cell? ⟨bo, 6, none⟩ = some (.int .u64 o.hi) := by rw [blk_cell HOB.out]; rfl
  have z7 : wb.cell? ⟨bo, 7, none⟩ = some (.int .u64 o.lo) := by rw [blk_cell HOB.out]; rfl
  have z8 : wb.cell? ⟨bo, 8, none⟩ = some (.bool o.cb) := by rw [blk_cell HOB.out]; rfl
  have z9 : wb.cell? ⟨bo, 9, none⟩ = some (.string o.cs) := by rw [blk_cell HOB.out]; rfl
  have z10 : wb.cell? ⟨bo, 10, none⟩ = some (.int .i64 o.file) := by rw [blk_cell HOB.out]; rfl
  have z11 : wb.cell? ⟨bo, 11, none⟩ = some (.int .i64 o.line) := by rw [blk_cell HOB.out]; rfl
  have z12 : wb.cell? ⟨bo, 12, none⟩ = some (.int .i64 o.col) := by rw [blk_cell HOB.out]; rfl
  have x1a : (wb.alloc (Obj.cells #[.int .i64 o.kind, .string o.name, .int .i64 o.typ, .int .i64 o.node, .int .i64 o.num, .int .i64 o.ck, .int .u64 o.hi, .int .u64 o.lo, .bool o.cb, .string o.cs, .int .i64 o.file, .int .i64 o.line, .int .i64 o.col] 70)).cell? ⟨ub, 2, none⟩ = some (.slice A1 st.objs.length c1) := cell_alloc x1 _
  clear hbo
  go_region_law (first
    | (refine Kd.R_append_step obk (w0 := wb) (W := wb.drew) w0.heap.size rfl (.tmp 37) (.tmp 39) 56 70 Ob.zero.val 120 rfl Try.underlying56 info70 rfl HPS.out (by decide) (.slice A1 st.objs.length c1) st.objs o o.enc (fun k => col k = 4 ∨ wb.heap.size ≤ k) (fun _ => False) (by rfl) (by rfl)
            rfl (fun _ hj => hj.elim) (fun j hj => .inr hj) (Kd.R_mono (Kd.R_drew HR3.out) (fun j hj => .inl hj)) ⟨rfl, rfl, rfl, Nat.le_refl _, fun _ _ => rfl⟩ h0b (by omega) ?_
       intro v2 w2 hr2 hb2 hg2 hat2
       obtain ⟨A2, cc2, hv2⟩ := Kd.R_slice hr2
       rw [List.length_append, List.length_singleton] at hv2
       rw [hv2] at hr2 hat2 ⊢
       have d1 : w2.cell? ⟨ub, 2, none⟩ = some (.slice A1 st.objs.length c1) := (hg2.cell_far _ HLT.out HNE1.out).trans x1
       have g1 : w2.frozen? ⟨ub, 2, none⟩ = false := (hg2.frozen_far _ HLT.out HNE1.out).trans f1
       have HR4 := Aside0.mk hr2
       have HGR := Aside0.mk hg2
       clear hr2 hg2 hat2 hv2 hb2))
  all_goals
    obtain ⟨hU1, hu1, hb3⟩ := UIn.app_objs HIN.out h0b o HB.out HR1.out HR2.out HR3.out HR4.out (show wb.grownBy w2 _ from ⟨HGR.out.os, HGR.out.tape, HGR.out.output, HGR.out.size, HGR.out.block⟩)
    have hsz3 : (w2.setCell ⟨ub, 2, none⟩ (.slice A2 (st.objs.length + 1) cc2)).heap.size = w2.heap.size := by simp [World.setCell]
    obtain ⟨w3, hw3⟩ : ∃ w3, w3 = w2.setCell ⟨ub, 2, none⟩ (.slice A2 (st.objs.length + 1) cc2) := ⟨_, rfl⟩
    rw [← hw3] at hU1 hu1 hb3 hsz3 ⊢
    have y1 : w3.cell? ⟨ub, 1, none⟩ = some (.slice A3 st.inn.length c3) := by rw [blk_cell hb3]; rfl
    have y1f : w3.frozen? ⟨ub, 1, none⟩ = false := blk_frozen hb3 _
    have hlt3 := blk_lt hb3
    have h03 : w0.heap.size ≤ w3.heap.size := Nat.le_trans h0b hu1.size
    have hcolI := hU1.blk
    have hr2' : intk.R 3 w3 w0.heap.size (fun k => newCol col wb.heap.size w2.heap.size 4 k = 3) (.slice A3 st.inn.length c3) st.inn := by
      obtain ⟨ov', iv', bv', hb', _, hr2', _⟩ := hU1.blk
      rw [hb3] at hb'
      simp only [Option.some.injEq, Obj.cells.injEq, Array.mk.injEq, List.cons.injEq, and_true] at hb'
      obtain ⟨_, rfl, _⟩ := hb'
      exact hr2'
    have hr1' : intk.R 3 w3 w0.heap.size (fun k => newCol col wb.heap.size w2.heap.size 4 k = 2) ov st.outer := by
      obtain ⟨ov', iv', bv', hb', hr1', _, _⟩ := hU1.blk
      rw [hb3] at hb'
      simp only [Option.some.injEq, Obj.cells.injEq, Array.mk.injEq, List.cons.injEq, and_true] at hb'
      obtain ⟨rfl, _, _⟩ := hb'
      exact hr1'
    have hr3' : obk.R 70 w3 w0.heap.size (fun k => newCol col wb.heap.size w2.heap.size 4 k = 4) (.slice A2 (st.objs.length + 1) cc2) (st.objs ++ [o]) := by
      obtain ⟨ov', iv', bv', hb', _, _, hr3'⟩ := hU1.blk
      rw [hb3] at hb'
      simp only [Option.some.injEq, Obj.cells.injEq, Array.mk.injEq, List.cons.injEq, and_true] at hb'
      obtain ⟨_, _, rfl⟩ := hb'
      exact hr3'
    have HAPP := Aside0.mk (fun v1 w1 => UIn.app_inn (v1 := v1) (w1 := w1) hU1 h03 i hb3 hr1' hr2' hr3')
    have HRI := Aside0.mk hr2'
    have HU1 := Aside0.mk hu1
    have HB3 := Aside0.mk hb3
    have hle := HLEN.out
    have HH03 := Aside0.mk h03
    have HSZ := Aside0.mk hsz3
    have HSW := Aside0.mk HGR.out.size
    clear hw3 hU1 hu1 hb3 hr1' hr2' hr3' hcolI h03 hsz3 HR4 HGR d1 g1 x1 x1a f1 z0 z1 z2 z3 z4 z5 z6 z7 z8 z9 z10 z11 z12
    have hil : (st.inn.length + 1) * 8 ≤ 140737488355328 := by omega
    have hin := HLEN.out
    clear hle hin
    go_wp2_with (at_builtin; refine Stand.stop ?_)
    refine Stand.go ?_
    refine Kd.R_append intk (w0 := w3) (W := w3) w0.heap.size rfl (.tmp 47) (.tmp 49) 55 3 (.int .i64 0) 8 rfl Try.underlying55 info3 rfl HPI.out (by decide) (.slice A3 st.inn.length c3) st.inn i [.int .i64 i]
      (fun k => newCol col wb.heap.size w2.heap.size 4 k = 3 ∨ w3.heap.size ≤ k) (fun _ => False) (by rfl) (by rfl) rfl (fun _ hj => hj.elim) (fun j hj => .inr hj) (Kd.R_mono HRI.out (fun j hj => .inl hj)) (Below.refl _ _) HH03.out hil ?_
    intro v4 w4 hr4 hb4 hg4 hat4
    obtain ⟨hU2, hu2, hb5⟩ := HAPP.out v4 w4 hr4 hg4
    have hx : w4.cell? ⟨ub, 1, none⟩ = some (.slice A3 st.inn.length c3) := (hg4.cell_far _ hlt3 HNE2.out).trans y1
    have hfx : w4.frozen? ⟨ub, 1, none⟩ = false := (hg4.frozen_far _ hlt3 HNE2.out).trans y1f
    obtain ⟨A5, c5, hv5⟩ := Kd.R_slice hr4
    rw [List.length_append, List.length_singleton] at hv5
    rw [hv5] at hU2 hu2 hb5 ⊢
    have k5 : (w4.setCell ⟨ub, 1, none⟩ (.slice A5 (st.inn.length + 1) c5)).cell? ⟨ub, 2, none⟩ = some (.slice A2 (st.objs.length + 1) cc2) := by rw [blk_cell hb5]; rfl
    have HDONE : Aside0 (UPutDone w0 F ub st i o w (w4.setCell ⟨ub, 1, none⟩ (.slice A5 (st.inn.length + 1) c5))) := ⟨by
      have e1 : Upd F wb w3 := HU1.out.mono (fun k _ hk => HF.out k hk)
      have hbs := HBEL.out.size
      have hs3 := HU1.out.size
      have e2 : Upd F wb (w4.setCell ⟨ub, 1, none⟩ (.slice A5 (st.inn.length + 1) c5)) := e1.trans hu2 (fun k hk => (newCol_ne hk).elim (fun h => .inl (HF.out k h.2)) (fun h => .inr h.1))
      refine ⟨(Upd.of_below HBEL.out F).trans e2 (fun k hk => .inl hk), HG.out, _, hU2, fun k hk => ?_⟩
      rcases newCol_ne hk with ⟨_, h1⟩ | ⟨h1, _⟩
      · rcases newCol_ne h1 with ⟨_, h2⟩ | ⟨h2, _⟩
        · exact .inl (HF.out k h2)
        · exact .inr (by omega)
      · exact .inr (by omega)⟩
    clear hr4 hb4 hg4 hat4 hU2 hu2 hb5 hv5 hil
    go_wp2_with fail
    go_ret2
    exact ⟨by simp, HDONE.out⟩
end
end Go.Proofs.Ytnmahbpkaocjdaa
