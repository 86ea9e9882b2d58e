/-
  Scopes: Put, the walk where it is put.
-/
import Derived.Test.YtnmahbpkaocjdaaScopeG
import Derived.Deep.RegionLaw
set_option linter.unusedVariables false
namespace Go.Proofs.Ytnmahbpkaocjdaa
open Go.RowKit Go.Proofs.YtnmahbpkaocjdaaW.PrintWords

section
variable {w0 w : World} {F : Nat → Prop} {sb : Nat} {st : St}

set_option maxRecDepth 100000 in
set_option maxHeartbeats 2000000 in
theorem s_put_ok (h : SRep w0 w F sb st) (h0 : w0.heap.size ≤ w.heap.size) (i : Int) (o : Ob) (hf : st.fits i o) (hn : o.name.size ≤ maxLen) (ht : st.here i o.name = 0) (hl : st.objs.length < 1000) :
    Calls Try.prog 26 #[.pointer (some ⟨sb, 0, none⟩), .int .i64 i, o.val] w fun e w' => e = .returned (.tuple #[.int .i64 (st.objs.length : Int), .int .i64 0]) ∧ PutDone w0 F sb st i o w w' := by
  have HI := Aside0.mk (h.below ((Below.refl w.heap.size w).alloc (Nat.le_refl _) o.cells))
  obtain ⟨wb, hwb⟩ : ∃ wb, wb = w.alloc o.cells := ⟨_, rfl⟩
  have HWB := Aside0.mk hwb
  have hbel : Below w.heap.size w wb := by rw [hwb]; exact (Below.refl w.heap.size w).alloc (Nat.le_refl _) o.cells
  have HOB : Aside0 (wb.heap[w.heap.size]? = some o.cells) := ⟨by rw [hwb]; exact heap_alloc_new w o.cells⟩
  have h' := h
  obtain ⟨h1, h2, h3⟩ := hf
  have hne := bytes_some h3
  obtain ⟨g, col, hI0, hF⟩ := h'
  have hI := hI0.upd (Upd.of_below hbel (fun _ => False)) (fun _ _ h => h)
  have hgood := g.put h1 hl hn
  have hi := St.has_iff.1 h1
  have hfo := g.few1
  obtain ⟨kl, hkl⟩ := keyed105 i (WalkArith.wf_i64 (by omega)) o.name hn
  have hpos := g.pos
  obtain ⟨ov, bv, mb, n, D, hb, hr1, hr2, hc, hm, hn2, hv⟩ := hI.blk
  obtain ⟨A1, c1, hbv, _, _⟩ := ob_cell hr2
  subst hbv
  have x1 : wb.cell? ⟨sb, 1, none⟩ = some (.slice A1 st.objs.length c1) := by rw [blk_cell hb]; rfl
  have x2 : wb.cell? ⟨sb, 2, none⟩ = some (.map (some mb)) := by rw [blk_cell hb]; rfl
  have f1 : wb.frozen? ⟨sb, 1, none⟩ = false := blk_frozen hb _
  have HLT := Aside0.mk (blk_lt hb)
  have hnw : sb ≠ w.heap.size := fun he => by
    have := (hI0.lt sb (by rw [hI0.c1]; decide)).2
    omega
  have hne1 : some sb ≠ (Value.slice A1 st.objs.length c1).ownBlock := fun he => by { have h3 : col sb = 4 := hr2.1 sb he.symm; rw [hI.c1] at h3; cases h3 }
  have hne2 : some mb ≠ (Value.slice A1 st.objs.length c1).ownBlock := fun he => by { have h3 : col mb = 4 := hr2.1 mb he.symm; rw [hc] at h3; cases h3 }
  have hne3 : some w.heap.size ≠ (Value.slice A1 st.objs.length c1).ownBlock := fun he => by
    have h3 : col w.heap.size = 4 := hr2.1 _ he.symm
    have := (hI0.lt _ (by rw [h3]; decide)).2
    omega
  have HIN := Aside0.mk hI
  have HIN0 := Aside0.mk hI0
  have H1 := Aside0.mk h1
  have H2 := Aside0.mk h2
  have HT := Aside0.mk ht
  have HR1 := Aside0.mk hr1
  have HR2 := Aside0.mk hr2
  have HB := Aside0.mk hb
  have HM := Aside0.mk hm
  have HV := Aside0.mk hv
  have HKL := Aside0.mk hkl
  have HG := Aside0.mk hgood
  have HG0 := Aside0.mk g
  have HN2 := Aside0.mk hn2
  have HC := Aside0.mk hc
  have HF := Aside0.mk hF
  have HBEL := Aside0.mk hbel
  have HNW := Aside0.mk hnw
  have HNE1 := Aside0.mk hne1
  have HNE2 := Aside0.mk hne2
  have HNE3 := Aside0.mk hne3
  have h0b : w0.heap.size ≤ wb.heap.size := Nat.le_trans h0 hbel.size
  have HPS := Aside0.mk (show 0 < obk.sz by show 0 < 13; omega)
  have hd : decide ((65536 : Int) ≤ (st.objs.length : Int) - 1) = false := by simp; omega
  clear h hI0 h1 h2 h3 ht g hI hF hgood hi hkl hb hr1 hr2 hc hm hn2 hv hbel hwb hne1 hne2 hne3 hnw
  unfold Ob.val
  go_enter Try.func26, Try.ntmps26
  unfold Ob.cells at HI
  go_wp2_with (first | (go_at_call 44; refine (s_has_t HI.out _ H1.out).mono ?_; rintro e w' ⟨rfl, rfl⟩) | (go_at_call 45; refine (s_isKind_t _ _ H2.out).mono ?_; rintro e w' ⟨rfl, rfl⟩) | (go_at_call 33; refine (s_here_f HI.out _ _ hn HT.out).mono ?_; rintro e w' ⟨rfl, rfl⟩) | (go_at_call 28; refine (s_len HI.out).mono ?_; rintro e w' ⟨rfl, rfl⟩))
  have hwe : w.alloc (Obj.cells #[.int .i64 o.kind, .string o.name, .int .i64 o.typ, .int .i64 o.node, .int .i64 o.num, .int .i64 o.ck, .int .u64 o.hi, .int .u64 o.lo, .bool o.cb, .string o.cs, .int .i64 o.file, .int .i64 o.line, .int .i64 o.col] 70) = wb := HWB.out.symm
  rw [hwe]
  clear hwe HI HWB
  obtain ⟨bo, hbo⟩ : ∃ bo, bo = w.heap.size := ⟨_, rfl⟩
  have HBO := Aside0.mk hbo
  rw [← hbo] at HOB HNW HNE3 ⊢
  have z0 : wb.cell? ⟨bo, 0, none⟩ = some (.int .i64 o.kind) := by rw [blk_cell HOB.out]; rfl
  have z1 : wb.cell? ⟨bo, 1, none⟩ = some (.string o.name) := by rw [blk_cell HOB.out]; rfl
  have z2 : wb.cell? ⟨bo, 2, none⟩ = some (.int .i64 o.typ) := by rw [blk_cell HOB.out]; rfl
  have z3 : wb.cell? ⟨bo, 3, none⟩ = some (.int .i64 o.node) := by rw [blk_cell HOB.out]; rfl
  have z4 : wb.cell? ⟨bo, 4, none⟩ = some (.int .i64 o.num) := by rw [blk_cell HOB.out]; rfl
  have z5 : wb.cell? ⟨bo, 5, none⟩ = some (.int .i64 o.ck) := by rw [blk_cell HOB.out]; rfl
  have z6 : wb.cell? ⟨bo, 6, none⟩ = some (.int .u64 o.hi) := by rw [blk_cell HOB.out]; rfl
  have z7 : wb.cell? ⟨bo, 7, none⟩ = some (.int .u64 o.lo) := by rw [blk_cell HOB.out]; rfl
  have z8 : wb.cell? ⟨bo, 8, none⟩ = some (.bool o.cb) := by rw [blk_cell HOB.out]; rfl
  have z9 : wb.cell? ⟨bo, 9, none⟩ = some (.string o.cs) := by rw [blk_cell HOB.out]; rfl
  have z10 : wb.cell? ⟨bo, 10, none⟩ = some (.int .i64 o.file) := by rw [blk_cell HOB.out]; rfl
  have z11 : wb.cell? ⟨bo, 11, none⟩ = some (.int .i64 o.line) := by rw [blk_cell HOB.out]; rfl
  have z12 : wb.cell? ⟨bo, 12, none⟩ = some (.int .i64 o.col) := by rw [blk_cell HOB.out]; rfl
  have HBL := Aside0.mk (blk_lt HOB.out)
  have x1a : (wb.alloc (Obj.cells #[.int .i64 o.kind, .string o.name, .int .i64 o.typ, .int .i64 o.node, .int .i64 o.num, .int .i64 o.ck, .int .u64 o.hi, .int .u64 o.lo, .bool o.cb, .string o.cs, .int .i64 o.file, .int .i64 o.line, .int .i64 o.col] 70)).cell? ⟨sb, 1, none⟩ = some (.slice A1 st.objs.length c1) := cell_alloc x1 _
  clear hbo
  go_region_law (first
    | (refine Kd.R_append_step obk (w0 := wb) (W := wb.drew) w0.heap.size rfl (.tmp 45) (.tmp 47) 56 70 Ob.zero.val 120 rfl Try.underlying56 info70 rfl HPS.out (by decide) (.slice A1 st.objs.length c1) st.objs o o.enc (fun k => col k = 4 ∨ wb.heap.size ≤ k) (fun _ => False) (by rfl) (by rfl)
            rfl (fun _ hj => hj.elim) (fun j hj => .inr hj) (Kd.R_mono (Kd.R_drew HR2.out) (fun j hj => .inl hj)) ⟨rfl, rfl, rfl, Nat.le_refl _, fun _ _ => rfl⟩ h0b (by omega) ?_
       intro v2 w2 hr2 hb2 hg2 hat2
       obtain ⟨A2, cc2, hv2⟩ := Kd.R_slice hr2
       rw [List.length_append, List.length_singleton] at hv2
       rw [hv2] at hr2 hat2 ⊢
       have d1 : w2.cell? ⟨sb, 1, none⟩ = some (.slice A1 st.objs.length c1) := (hg2.cell_far _ HLT.out HNE1.out).trans x1
       have g1 : w2.frozen? ⟨sb, 1, none⟩ = false := (hg2.frozen_far _ HLT.out HNE1.out).trans f1
       have e1 : w2.cell? ⟨bo, 1, none⟩ = some (.string o.name) := (hg2.cell_far _ HBL.out HNE3.out).trans z1
       have d2 : w2.cell? ⟨sb, 2, none⟩ = some (.map (some mb)) := (hg2.cell_far _ HLT.out HNE1.out).trans x2
       have HR3 := Aside0.mk hr2
       have HGR := Aside0.mk hg2
       clear hr2 hg2 hat2 hv2 hb2))
  all_goals
    have hbc : ¬ (col bo = 4 ∨ bo = sb) := fun hc => by
      rcases hc with hc | hc
      · have := (HIN0.out.lt bo (by rw [hc]; decide)).2
        have := HBO.out
        omega
      · exact HNW.out hc.symm
    obtain ⟨hsm, hu3⟩ := put_mid HIN.out h0b i o HB.out HR1.out HR2.out HC.out HM.out HR3.out (show wb.grownBy w2 _ from ⟨HGR.out.os, HGR.out.tape, HGR.out.output, HGR.out.size, HGR.out.block⟩)
    have hb2 : w2.heap[sb]? = some (.cells #[ov, .slice A1 st.objs.length c1, .map (some mb)] 103 (0, 0)) := (HGR.out.block sb HLT.out HNE1.out).trans HB.out
    have hb3 := blk_put hb2 1 (.slice A2 (st.objs.length + 1) cc2) rfl
    have ho3 := hu3.blk HOB.out hbc
    have k1 : (w2.setCell ⟨sb, 1, none⟩ (.slice A2 (st.objs.length + 1) cc2)).cell? ⟨sb, 1, none⟩ = some (.slice A2 (st.objs.length + 1) cc2) := by rw [blk_cell hb3]; rfl
    have k2 : (w2.setCell ⟨sb, 1, none⟩ (.slice A2 (st.objs.length + 1) cc2)).cell? ⟨sb, 2, none⟩ = some (.map (some mb)) := by rw [blk_cell hb3]; rfl
    have k3 : (w2.setCell ⟨sb, 1, none⟩ (.slice A2 (st.objs.length + 1) cc2)).cell? ⟨bo, 1, none⟩ = some (.string o.name) := by rw [blk_cell ho3]; rfl
    obtain ⟨w3, hw3⟩ : ∃ w3, w3 = w2.setCell ⟨sb, 1, none⟩ (.slice A2 (st.objs.length + 1) cc2) := ⟨_, rfl⟩
    have HB3 : Aside0 (w3.heap[sb]? = some (.cells #[ov, .slice A2 (st.objs.length + 1) cc2, .map (some mb)] 103 (0, 0))) := ⟨by rw [hw3]; exact hb3⟩
    rw [← hw3] at hsm hu3 k1 k2 k3 ⊢
    have HSM := Aside0.mk hsm
    have HU3 := Aside0.mk hu3
    clear hw3 hsm hu3 hb2 hb3 ho3 HR3 HGR d1 g1 e1 d2 x1 x2 x1a f1 z0 z1 z2 z3 z4 z5 z6 z7 z8 z9 z10 z11 z12 hbc
    by_cases hu : o.name = under
    · have HUN := Aside0.mk hu
      rw [hu] at k3
      unfold under at k3
      clear hu
      go_wp2_with fail
      refine (l_len _ _ _ _ _ k1 (by omega)).mono ?_
      rintro e w' ⟨rfl, rfl⟩
      go_wp2_with fail
      go_ret2
      exact ⟨rfl, put_done HF.out HBEL.out HIN.out.c1 HC.out HU3.out HSM.out ⟨rfl, rfl, rfl, Nat.le_refl _, fun _ _ _ => rfl⟩ HSM.out.map (by have := HN2.out; show n ≤ (st.objs ++ [o]).length; rw [List.length_append]; omega) (HV.out.put_under HG0.out HUN.out) HG.out⟩
    · have HUN := Aside0.mk hu
      have hneu : (o.name.toList == [95]) = false := by
        have := bytes_ne hu
        rwa [show under.toList = [95] from by rw [ByteArray.toList_eq]; rfl] at this
      clear hu
      go_wp2_with fail
      have k1d : w3.drew.cell? ⟨sb, 1, none⟩ = some (.slice A2 (st.objs.length + 1) cc2) := k1
      go_still_tail 10, (by kernel_rfl)
      have hcall := l_len _ _ _ _ _ k1d (by omega)
      still_call hcall
      repeat still_step
      try refine wpStill_nil ?_
      change wpList _ _ _ _ _ w3.drew
      refine wpList_mapUpdate_own _ rfl _ _ _ 101 rfl 105 3 law105 Try.underlying101 _ mb n D rfl (show w3.drew.ownsMap Try.prog 105 (plainElem Try.prog 3) mb n D from HSM.out.map) (by have := HN2.out; unfold maxLen; omega) _ _ kl rfl rfl HKL.out _ [] (plainElem_int Try.underlying3 (WalkArith.wf_i64 (by omega))) ?_
      intro w4 hown4 hgrow4
      have hg4 : w3.grownBy w4 (some mb) := ⟨hgrow4.os, hgrow4.tape, hgrow4.output, hgrow4.size, hgrow4.block⟩
      have hb4 : w4.heap[sb]? = some (.cells #[ov, .slice A2 (st.objs.length + 1) cc2, .map (some mb)] 103 (0, 0)) := (hg4.block sb (blk_lt HB3.out) (fun he => by
        injection he with he
        have h1 := HIN.out.c1
        rw [he, HC.out] at h1
        cases h1)).trans HB3.out
      have k4 : w4.cell? ⟨sb, 1, none⟩ = some (.slice A2 (st.objs.length + 1) cc2) := by rw [blk_cell hb4]; rfl
      have HDONE := Aside0.mk (put_done HF.out HBEL.out HIN.out.c1 HC.out HU3.out HSM.out hg4 hown4 (by have := HN2.out; show n + 1 ≤ (st.objs ++ [o]).length; rw [List.length_append, List.length_singleton]; omega) (HV.out.put HSM.out.map.isMap HG0.out HT.out HUN.out HKL.out) HG.out)
      clear hown4 hgrow4 hg4 hb4 k1 k1d k2 k3
      go_wp2_with fail
      refine (l_len _ _ _ _ _ k4 (by omega)).mono ?_
      rintro e w' ⟨rfl, rfl⟩
      go_wp2_with fail
      go_ret2
      exact ⟨rfl, HDONE.out⟩
end
end Go.Proofs.Ytnmahbpkaocjdaa
