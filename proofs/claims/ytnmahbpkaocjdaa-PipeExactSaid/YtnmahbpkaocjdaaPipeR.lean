/-
  PipeExact: the walk.
-/
import Derived.Test.YtnmahbpkaocjdaaPipeU
import Derived.Deep.DeepCutAuto
import Derived.Deep.CutBlock
import Derived.Deep.RegionHeld3
import Derived.StillTailTactics
import Derived.IntWalk
set_option linter.unusedVariables false
namespace Go.Proofs.Ytnmahbpkaocjdaa
open Go.RowKit Go.Proofs.YtnmahbpkaocjdaaW.PrintWords

set_option maxRecDepth 100000 in
set_option maxHeartbeats 4000000 in
theorem exact_walk (w : World) (A : Option Addr) (c : Nat) (L : List PAct) (h : actk.C w A L.length L) :
    Calls Try.prog 4 #[.slice A L.length c] w fun e w' => e = .returned (.bool true) ∧ Below w.heap.size w w' := by
  have H := Aside0.mk h
  have hm := h.2.1
  clear h
  go_enter Try.func4, Try.ntmps4
  go_wp2_with (first | (go_at_call 8; refine (awake16 _).mono ?_; rintro e w1 ⟨rfl, hb1⟩; have HB1 := Aside0.mk hb1; clear hb1) | (go_at_call 9; refine Stand.stop ?_))
  refine Stand.go ?_
  refine (New_rep w _ HB1.out.size).mono ?_
  rintro e w2 ⟨sb, rfl, hp2, hsb, hsb2, hu2⟩
  have HP2 := Aside0.mk hp2
  have HB2 := Aside0.mk (below_then HB1.out HB1.out.size hu2.below)
  clear hp2 hu2 hsb
  go_wp2_with fail
  have HX := Aside0.mk (Ex.start HP2.out HB2.out.size)
  have HB3 := Aside0.mk (HB2.out.alloc HB2.out.size (.cells #[] 45))
  clear hsb2
  go_loopg [4, 5] 60 (fun g v4 v5 w' => ∃ (j n : Nat) (Au : Option Addr) (cu : Nat), j + g = 60 ∧ n ≤ j ∧ v4 = .slice Au n cu ∧ v5 = .int .i64 (j : Int) ∧ Aside0 (Ex w w' sb (.slice Au n cu) n) ∧ Aside0 (Below w.heap.size w w'))
  case atStart => exact ⟨0, 0, _, _, by omega, by omega, rfl, rfl, HX, HB3⟩
  case round =>
    obtain ⟨j, n, Au, cu, hj, hn, rfl, rfl, hE, hB⟩ := hrel
    obtain ⟨top, chs, rok, us, hBo, rfl⟩ := hE.out
    have hBo := Aside0.mk hBo
    have hfp : Aside0 (∀ k, Bo.fp top chs rok us k → k < wr.heap.size) := ⟨fun k hk => (hBo.out.lt hk).2⟩
    clear HX HB3 HP2 HB2 HB1 hE
    have hws := hB.out.size
    by_cases hlt : j < L.length ∧ j < 60
    · obtain ⟨hlt1, hlt2⟩ := hlt
      obtain ⟨b, o, rfl, hb⟩ := act_cells H.out (by omega)
      obtain ⟨A', c', y0, y1, y2, y3, hlc, hC⟩ := hb j hlt1
      have x0 := cell_later hB.out y0
      have x1 := cell_later hB.out y1
      have x2 := cell_later hB.out y2
      have x3 := cell_later hB.out y3
      have e0 : (0 : Int) ≤ (j : Int) := by omega
      have e1 : (j : Int) < (L.length : Int) := by omega
      have e2 : (j : Int) < 60 := by omega
      generalize (L[j]'hlt1) = x at x0 x1 x2 x3 hC hlc
      obtain ⟨kind, xi, xn, xs⟩ := x
      simp only at x0 x1 x2 x3 hC hlc
      have HC := Aside0.mk hC
      have HLC := Aside0.mk hlc
      have hgc := great_calls (wr.alloc (.cells #[.int .i64 kind, .int .i64 xi, .int .i64 xn, .slice A' xs.length c'] 34)) kind xi xn A' c' xs (Kd.C_alloc (Kd.C_below HC.out hB.out) _)
      clear hb hC y0 y1 y2 y3 hlc
      by_cases hg : greatB xs = true
      · rw [hg] at hgc
        have HGC := Aside0.mk hgc
        clear hg hgc
        go_wp2_with (go_at_call 12; refine (HGC.out).mono ?_; rintro e w5 ⟨rfl, hb5⟩; have HB5 := Aside0.mk (below_then (hB.out.alloc hws _) (by rw [World.size_alloc]; omega) hb5); clear hb5)
        go_ret
        exact ⟨rfl, HB5.out⟩
      · have hg' : greatB xs = false := by simpa using hg
        rw [hg'] at hgc
        have HGC := Aside0.mk hgc
        have hxl : xs.length ≤ 20 := by
          unfold greatB at hg'
          simp at hg'
          exact hg'.1
        clear hg hg' hgc
        go_upto_block 2 with (go_at_call 12; refine (HGC.out).mono ?_; rintro e w5 ⟨rfl, hb5⟩; have HB5 := Aside0.mk hb5; have HZ := Aside0.mk (blk_below (heap_alloc_new wr (.cells #[.int .i64 kind, .int .i64 xi, .int .i64 xn, .slice A' xs.length c'] 34)) hb5); have z0 : w5.cell? ⟨wr.heap.size, 0, none⟩ = some (.int .i64 kind) := by { rw [blk_cell HZ.out]; rfl }; clear hb5)
        have z1 : w5.cell? ⟨wr.heap.size, 1, none⟩ = some (.int .i64 xi) := by { rw [blk_cell HZ.out]; rfl }
        have z2 : w5.cell? ⟨wr.heap.size, 2, none⟩ = some (.int .i64 xn) := by { rw [blk_cell HZ.out]; rfl }
        have z3 : w5.cell? ⟨wr.heap.size, 3, none⟩ = some (.slice A' xs.length c') := by { rw [blk_cell HZ.out]; rfl }
        have hBo5 : Aside0 (Bo w w5 top sb chs rok (.slice Au us.length cu) us) := ⟨(hBo.out.below ((Below.refl _ _).alloc (Nat.le_refl _) _)).below HB5.out⟩
        have hB5 : Aside0 (Below w.heap.size w w5) := ⟨below_then (hB.out.alloc hws _) (by rw [World.size_alloc]; omega) HB5.out⟩
        have hC5 : Aside0 (pvk.C w5 A' xs.length xs) := ⟨Kd.C_below HC.out hB5.out⟩
        have hwr5 : Aside0 (wr.heap.size < w5.heap.size) := ⟨blk_lt HZ.out⟩
        have HZF : Aside0 (∀ w6, Upd (Bo.fp top chs rok us) w5 w6 → w6.cell? ⟨wr.heap.size, 1, none⟩ = some (.int .i64 xi) ∧ w6.cell? ⟨wr.heap.size, 2, none⟩ = some (.int .i64 xn) ∧ w6.cell? ⟨wr.heap.size, 3, none⟩ = some (.slice A' xs.length c')) := ⟨fun w6 hu => by
          have hb6 := hu.blk HZ.out (fun hk => Nat.lt_irrefl _ (hfp.out _ hk))
          exact ⟨by rw [blk_cell hb6]; rfl, by rw [blk_cell hb6]; rfl, by rw [blk_cell hb6]; rfl⟩⟩
        have HLO : Aside0 (∀ w6, Upd (Bo.fp top chs rok us) w5 w6 → Below w.heap.size w w6) := ⟨fun w6 hu => hB5.out.trans (hu.belowAt (fun k hk => (hBo5.out.lt hk).1) hB5.out.size)⟩
        have h05 : w.heap.size ≤ w5.heap.size := hB5.out.size
        have hfew : us.length < 1000 := by omega
        have HZF : Aside0 (∀ w6, Upd (Bo.fp top chs rok us) w5 w6 → w6.cell? ⟨wr.heap.size, 1, none⟩ = some (.int .i64 xi) ∧ w6.cell? ⟨wr.heap.size, 2, none⟩ = some (.int .i64 xn) ∧ w6.cell? ⟨wr.heap.size, 3, none⟩ = some (.slice A' xs.length c')) := ⟨fun w6 hu => by
          have hb6 := hu.blk HZ.out (fun hk => Nat.lt_irrefl _ (hfp.out _ hk))
          exact ⟨by rw [blk_cell hb6]; rfl, by rw [blk_cell hb6]; rfl, by rw [blk_cell hb6]; rfl⟩⟩
        have HLO : Aside0 (∀ w6, Upd (Bo.fp top chs rok us) w5 w6 → Below w.heap.size w w6) := ⟨fun w6 hu => hB5.out.trans (hu.belowAt (fun k hk => (hBo5.out.lt hk).1) hB5.out.size)⟩
        have h05 : w.heap.size ≤ w5.heap.size := hB5.out.size
        have hfew : us.length < 1000 := by omega
        clear hB hBo HZ HB5 HGC x0 x1 x2 x3 hws
        go_cut [4] (fun v4 wx => ∃ (n' : Nat) (Au' : Option Addr) (cu' : Nat), v4 = .slice Au' n' cu' ∧ n' ≤ j + 1 ∧ Aside0 (Ex w wx sb (.slice Au' n' cu') n') ∧ Aside0 (Below w.heap.size w wx))
        case first =>
          by_cases hk1 : kind = 1
          · subst hk1
            by_cases hr : 0 ≤ xn ∧ xn ≤ 1024
            · as_aux_lemma =>
                obtain ⟨hr0, hr1⟩ := hr
                go_wp2_with (first | (go_at_call 10; refine (hBo5.out.make_ok h05 xn hr0 hr1 hfew).mono ?_; rintro e w6 ⟨rfl, hu6, hR6, hE6⟩; have y2 := (HZF.out _ hu6).2.1; have HU6 := Aside0.mk hu6; have HR6 := Aside0.mk hR6; have HE6 := Aside0.mk hE6; have h06 := (HLO.out _ hu6).size; have HLO6 := Aside0.mk (HLO.out _ hu6); clear hu6 hR6 hE6) | (at_builtin; refine Stand.stop ?_))
                refine Stand.go ?_
                have HPS := Aside0.mk (show 0 < rawk.sz by show 0 < 3; omega)
                refine Kd.R_append rawk (w0 := w6) (W := w6) w.heap.size rfl (.tmp 94) (.tmp 98) 43 45 (.agg #[.int .i64 0, .slice none 0 0, .bool false]) 40 rfl Try.underlying43 info45 rfl HPS.out (by decide) (.slice Au us.length cu) (us.map Uc.raw) (xn, .slice none 0 0, false) [.int .i64 xn, .slice none 0 0, .bool false]
                  (fun j => rok j ∨ w6.heap.size ≤ j) (fun _ => False) (by rfl) (by rfl) ⟨rfl, rfl⟩ (fun _ hj => hj.elim)
                  (fun j hj => .inr hj) (Kd.R_mono HR6.out (fun j hj => .inl hj)) (Below.refl _ _) h06 (by rw [List.length_map]; omega) ?_
                intro v7 w7 hr7 hb7 hg7 hat7
                have hE7 := Aside0.mk (HE6.out _ _ _ (Below.refl _ _) hg7 hr7)
                have hB7 := Aside0.mk (HLO6.out.trans hb7)
                obtain ⟨A7, c7, hv7⟩ := Kd.R_slice hr7
                rw [List.length_append, List.length_map, List.length_singleton] at hv7
                rw [hv7] at hE7 ⊢
                clear hr7 hb7 hg7 hat7 hv7 HE6 HR6
                go_wp2
                go_meet
                exact ⟨_, _, _, rfl, by omega, hE7, hB7⟩
            · as_aux_lemma =>
                have hbad : xn < 0 ∨ 1024 < xn := by omega
                by_cases hr0 : xn < 0
                · go_wp2_with (go_at_call 10; refine (Make_bad _ _ hbad).mono ?_; rintro e w6 ⟨rfl, rfl⟩)
                  go_roundg (gk - 1)
                  case measure => omega
                  case rel => exact ⟨j + 1, us.length, Au, cu, by omega, by omega, rfl, by go_num, ⟨_, _, _, _, hBo5.out, rfl⟩, hB5⟩
                · have hr1 : (1024 : Int) < xn := by omega
                  go_wp2_with (go_at_call 10; refine (Make_bad _ _ hbad).mono ?_; rintro e w6 ⟨rfl, rfl⟩)
                  go_roundg (gk - 1)
                  case measure => omega
                  case rel => exact ⟨j + 1, us.length, Au, cu, by omega, by omega, rfl, by go_num, ⟨_, _, _, _, hBo5.out, rfl⟩, hB5⟩
          · have hk1b : (kind == 1) = false := by simpa using hk1
            by_cases hk2 : kind = 2
            · as_aux_lemma =>
                subst hk2
                have hBoD : Aside0 (Bo w w5.drew top sb chs rok (.slice Au us.length cu) us) := ⟨hBo5.out.upd ((Upd.refl (fun _ => False) w5).drew) (fun _ _ h => h)⟩
                obtain ⟨code, hcall⟩ := hBoD.out.push h05 xi A' c' xs (pv_none HC.out) HC.out HLC.out (by omega) (hC5.out)
                have HCALL := Aside0.mk hcall
                clear hcall
                go_wp2_with fail
                go_region_held3 (fun w' => w'.cell? ⟨wr.heap.size, 1, none⟩ = some (.int .i64 xi) ∧ w'.cell? ⟨wr.heap.size, 3, none⟩ = some (.slice A' xs.length c'))
                  (first
                    | exact ⟨y7.1, y7.2.2⟩
                    | exact ⟨y6.1, y6.2.2⟩
                    | exact ⟨z1, z3⟩)
                  ((first
                    | (go_at_call 13; refine HCALL.out.mono ?_; rintro e w6 ⟨rfl, hu6, hc6⟩; have y6 := HZF.out _ hu6.undrew; have HC6 := Aside0.mk hc6; clear hu6 hc6)
                    | (go_at_call 19; refine HC6.out.mono ?_; rintro e w7 ⟨rfl, hu7, hE7⟩; have y7 := HZF.out _ hu7.undrew; have HE7 := Aside0.mk hE7; have HB7 := Aside0.mk (HLO.out _ hu7.undrew); clear hu7 hE7)))
                all_goals
                  go_wp2
                  go_meet
                  exact ⟨_, _, _, rfl, by omega, HE7, HB7⟩
            · have hk2b : (kind == 2) = false := by simpa using hk2
              by_cases hk3 : kind = 3
              · subst hk3
                by_cases hio : xi < 1 ∨ (us.length : Int) < xi
                · as_aux_lemma =>
                    go_wp2_with (first | (go_at_call 15; refine (hBo5.out.pop_none xi (.inl hio)).mono ?_; rintro e w6 ⟨rfl, rfl⟩) | (go_at_call 20; refine (Has_out _ _ _ _ _ hio).mono ?_; rintro e w6 ⟨rfl, rfl⟩))
                    go_roundg (gk - 1)
                    case measure => omega
                    case rel => exact ⟨j + 1, us.length, Au, cu, by omega, by omega, rfl, by go_num, ⟨_, _, _, _, hBo5.out, rfl⟩, hB5⟩
                · obtain ⟨k, rfl⟩ : ∃ k : Nat, xi = (k : Int) + 1 := ⟨(xi - 1).toNat, by omega⟩
                  have hk : k < us.length := by omega
                  have k0 : (0 : Int) ≤ (k : Int) := by omega
                  have k1 : (k : Int) < (us.length : Int) := by omega
                  have k2 : (k : Int) < 60 := by omega
                  clear hio
                  rcases hq : (us[k]'hk).q with _ | ⟨x, r⟩
                  · as_aux_lemma =>
                      obtain ⟨g, cg, hv, hrg, hfz, hcell⟩ := hBo5.out.u.cells (by omega)
                      injection hv with hA hL hcc
                      subst hA; subst hcc
                      obtain ⟨_, c1, _⟩ := hcell k hk
                      obtain ⟨Aq, cq, hqv, _⟩ := Kd.Q_slice (hBo5.out.u.each _ (List.getElem_mem hk)).row
                      rw [hqv, hq] at c1
                      have c1' : w5.cell? ⟨g, k * 3 + 1, none⟩ = some (.slice Aq 0 cq) := c1
                      have HQ := Aside0.mk hq
                      clear hq hqv c1 hcell hfz hL hrg
                      go_wp2_with (first | (go_at_call 15; refine (hBo5.out.pop_none _ (.inr ⟨k, hk, rfl, HQ.out⟩)).mono ?_; rintro e w6 ⟨rfl, rfl⟩) | (go_at_call 20; refine (Has_in _ _ _ _ _ hk).mono ?_; rintro e w6 ⟨rfl, rfl⟩))
                      go_roundg (gk - 1)
                      case measure => omega
                      case rel => exact ⟨j + 1, us.length, _, cu, by omega, by omega, rfl, by go_num, ⟨_, _, _, _, hBo5.out, rfl⟩, hB5⟩
                  · as_aux_lemma =>
                      have HP := Aside0.mk (hBo5.out.pop_some h05 k hk x r hq)
                      clear hq
                      go_wp2_with (go_at_call 15; refine Stand.stop ?_)
                      refine Stand.go ?_
                      refine HP.out.mono ?_
                      rintro e w6 ⟨A1, c1, rfl, hmid⟩
                      obtain ⟨hu6, hC6, g, cg, gq, oq, m, cq, A2, c2, A3, hv, hFg, hf6, d1, d2, hC2, hcut, hfin⟩ := hmid
                      injection hv with hA hL hcc
                      subst hA; subst hcc
                      obtain ⟨y1, _, _⟩ := HZF.out _ hu6
                      have hpos : (0 : Int) < (m : Int) + 1 := by omega
                      have hne0 : (((m + 1 : Nat) : Int) == 0) = false := by simp; omega
                      have HU6 := Aside0.mk (HLO.out _ hu6)
                      have HC6 := Aside0.mk hC6
                      have HC2 := Aside0.mk (Kd.C_below hC2 (HLO.out _ hu6))
                      have HF := Aside0.mk hfin
                      have HX0 := Aside0.mk (show x.length ≤ 9223372036854775807 from hC6.2.1)
                      have HFG := Aside0.mk (show w.heap.size ≤ g from (hBo5.out.lt hFg).1)
                      clear hu6 hC6 hC2 hfin hL hFg
                      go_wp2_with (first | (go_at_call 20; refine (Has_in _ _ _ _ _ hk).mono ?_; rintro e w7 ⟨rfl, rfl⟩) | (go_at_call 16; refine Stand.stop ?_))
                      refine Stand.go ?_
                      refine (Same_self _ _ _ _ _ _ HC6.out HC2.out).mono ?_
                      rintro e w7 ⟨rfl, hs7⟩
                      have hb7 := hs7.below
                      have y1' := cell_later hb7 y1
                      have d1' := cell_later hb7 d1
                      have d2' := cell_later hb7 d2
                      have hf7 : w7.frozen? ⟨g, k * 3 + 1, none⟩ = false := by
                        refine (hb7.frozen ?_).trans hf6
                        exact World.block_lt_of_cell? _ _ d1
                      have HS7 := Aside0.mk hs7
                      clear hs7 hb7 y1 d1 d2 hf6
                      go_wp2_with fail
                      have hwr1 : IntKind.i64.wrap ((k : Int) + 1 - 1) = (k : Int) := by rw [IntWalk.i64_in _ (by omega)]; omega
                      have hwr0 : IntKind.i64.wrap (k : Int) = (k : Int) := IntWalk.i64_in _ (by omega)
                      go_still_tail 14, (by kernel_rfl)
                      clear hwr0 hwr1
                      change wpList _ _ _ _ _ w7.drew
                      have d1q : w7.drew.cell? ⟨g, k * 3 + 1, none⟩ = some (.slice (some ⟨gq, oq, none⟩) (m + 1) cq) := d1'
                      have hf7q : w7.drew.frozen? ⟨g, k * 3 + 1, none⟩ = false := hf7
                      have HF7 := Aside0.mk (HF.out w7.drew (show Below w6.heap.size w6 w7.drew from ⟨HS7.out.below.os, HS7.out.below.tape, HS7.out.below.output, HS7.out.below.size, HS7.out.below.block⟩))
                      have HB7 : Aside0 (Below w.heap.size w w7.drew) := ⟨(below_then HU6.out HU6.out.size HS7.out.below).drew⟩
                      clear d1' hf7
                      go_wp2
                      go_meet
                      exact ⟨_, _, _, rfl, by omega, HF7, ⟨HB7.out.setCell (p := ⟨g, k * 3 + 1, none⟩) HFG.out _⟩⟩
              · have hk3b : (kind == 3) = false := by simpa using hk3
                by_cases hio : xi < 1 ∨ (us.length : Int) < xi
                · as_aux_lemma =>
                    go_wp2_with (first | (go_at_call 14; refine (hBo5.out.close_out xi hio).mono ?_; rintro e w6 ⟨rfl, rfl⟩) | (go_at_call 20; refine (Has_out _ _ _ _ _ hio).mono ?_; rintro e w6 ⟨rfl, rfl⟩))
                    go_roundg (gk - 1)
                    case measure => omega
                    case rel => exact ⟨j + 1, us.length, Au, cu, by omega, by omega, rfl, by go_num, ⟨_, _, _, _, hBo5.out, rfl⟩, hB5⟩
                · obtain ⟨k, rfl⟩ : ∃ k : Nat, xi = (k : Int) + 1 := ⟨(xi - 1).toNat, by omega⟩
                  have hk : k < us.length := by omega
                  have k0 : (0 : Int) ≤ (k : Int) := by omega
                  have k1 : (k : Int) < (us.length : Int) := by omega
                  have k2 : (k : Int) < 60 := by omega
                  clear hio
                  rcases hcl : (us[k]'hk).closed with _ | _
                  · as_aux_lemma =>
                      have HP := Aside0.mk (hBo5.out.close_once k hk hcl)
                      clear hcl
                      go_wp2_with (first | (go_at_call 14; refine Stand.stop ?_) | (go_at_call 20; refine (Has_in _ _ _ _ _ hk).mono ?_; rintro e w7 ⟨rfl, rfl⟩))
                      refine Stand.go ?_
                      refine HP.out.mono ?_
                      rintro e w6 ⟨rfl, hmid⟩
                      obtain ⟨hu6, g, cg, hv, hFg, hf6, d2, hfin⟩ := hmid
                      injection hv with hA hL hcc
                      subst hA; subst hcc
                      obtain ⟨y1, _, _⟩ := HZF.out _ hu6
                      have HU6 := Aside0.mk (HLO.out _ hu6)
                      have HF := Aside0.mk (hfin _ (Below.refl _ _))
                      have HFG := Aside0.mk (show w.heap.size ≤ g from (hBo5.out.lt hFg).1)
                      clear hu6 hfin hL hFg
                      go_wp2_with (first | (go_at_call 20; refine (Has_in _ _ _ _ _ hk).mono ?_; rintro e w7 ⟨rfl, rfl⟩))
                      go_meet
                      exact ⟨_, _, _, rfl, by omega, HF, ⟨HU6.out.setCell (p := ⟨g, k * 3 + 2, none⟩) HFG.out _⟩⟩
  
                  · as_aux_lemma =>
                      have HP := Aside0.mk (hBo5.out.close_twice k hk hcl)
                      clear hcl
                      go_wp2_with (first | (go_at_call 14; refine Stand.stop ?_) | (go_at_call 20; refine (Has_in _ _ _ _ _ hk).mono ?_; rintro e w7 ⟨rfl, rfl⟩))
                      refine Stand.go ?_
                      refine HP.out.mono ?_
                      rintro e w6 ⟨rfl, hmid⟩
                      obtain ⟨hu6, g, cg, hv, hFg, hf6, d2, hfin⟩ := hmid
                      injection hv with hA hL hcc
                      subst hA; subst hcc
                      obtain ⟨y1, _, _⟩ := HZF.out _ hu6
                      have HU6 := Aside0.mk (HLO.out _ hu6)
                      have HF := Aside0.mk (hfin _ (Below.refl _ _))
                      have HFG := Aside0.mk (show w.heap.size ≤ g from (hBo5.out.lt hFg).1)
                      clear hu6 hfin hL hFg
                      go_wp2_with (first | (go_at_call 20; refine (Has_in _ _ _ _ _ hk).mono ?_; rintro e w7 ⟨rfl, rfl⟩))
                      go_meet
                      exact ⟨_, _, _, rfl, by omega, HF, ⟨HU6.out.setCell (p := ⟨g, k * 3 + 2, none⟩) HFG.out _⟩⟩
        case rest =>
          as_aux_lemma =>
            obtain ⟨n', Au', cu', rfl, hn', hE, hB⟩ := hcut
            obtain ⟨top', chs', rok', us', hBo', rfl⟩ := hE.out
            have HBO := Aside0.mk hBo'
            clear hBo' hBo5 hfp HZF HLO hB5 hC5 hwr5 hE z0 z1 z2 z3 hn h05 hfew
            go_wp2_with (go_at_call 21; refine (HBO.out.len_calls).mono ?_; rintro e w6 ⟨rfl, rfl⟩)
            go_loopg [12] us'.length (fun g v w' => ∃ i : Nat, i + g = us'.length ∧ v = .int .i64 (i : Int) ∧ Aside0 (Bo w w' top' sb chs' rok' (.slice Au' us'.length cu') us') ∧ Aside0 (Below w.heap.size w w'))
            case atStart => exact ⟨0, by omega, rfl, HBO, hB⟩
            case round =>
              obtain ⟨i, hi, rfl, hBI, hBl⟩ := hrel
              clear HBO hB
              have hwsl := hBl.out.size
              by_cases hlt3 : i < us'.length
              · as_aux_lemma =>
                  obtain ⟨g, cg, hv, hrg, hfz, hcell⟩ := hBI.out.u.cells (by omega)
                  injection hv with hA hL hcc
                  subst hA; subst hcc
                  obtain ⟨c0, c1, c2⟩ := hcell i hlt3
                  obtain ⟨Aq, cq, hqv, _⟩ := Kd.Q_slice (hBI.out.u.each _ (List.getElem_mem hlt3)).row
                  have hql := (hBI.out.u.each _ (List.getElem_mem hlt3)).len
                  have hqr := (hBI.out.u.each _ (List.getElem_mem hlt3)).room1
                  rw [hqv] at c1
                  have hB2 := hBI.out.below ((Below.refl _ _).alloc (Nat.le_refl _) (.cells #[.int .i64 (us'[i]'hlt3).room, .slice Aq (us'[i]'hlt3).q.length cq, .bool (us'[i]'hlt3).closed] 45))
                  have HB2 := Aside0.mk hB2
                  have HBL2 := Aside0.mk (hBl.out.alloc hwsl (.cells #[.int .i64 (us'[i]'hlt3).room, .slice Aq (us'[i]'hlt3).q.length cq, .bool (us'[i]'hlt3).closed] 45))
                  have HQ1 := Aside0.mk (hB2.q_room i hlt3)
                  have HQ2 := Aside0.mk (hB2.q_full i hlt3)
                  have HQ3 := Aside0.mk (hB2.q_empty i hlt3)
                  have HQ4 := Aside0.mk (hB2.q_closed i hlt3)
                  generalize (us'[i]'hlt3).room = r at c0 hql hqr HQ1 HQ2 HQ3 HQ4 HB2 HBL2
                  generalize (us'[i]'hlt3).q.length = ql at c1 hql HQ2 HQ3 HQ1 HQ4 HB2 HBL2
                  generalize (us'[i]'hlt3).closed = cl at c2 HQ4 HQ1 HQ2 HQ3 HB2 HBL2
                  have i0 : (0 : Int) ≤ (i : Int) := by omega
                  have i1 : (i : Int) < (us'.length : Int) := by omega
                  have i2 : (i : Int) < 61 := by omega
                  clear hcell hqv hfz hL hrg hB2
                  go_wp2_with fail
                  have hwr1 : IntKind.i64.wrap ((i : Int) + 1) = (i : Int) + 1 := IntWalk.i64_in _ (by omega)
                  go_quiet (first | (go_at_call 11; exact HQ1.out _) | (go_at_call 22; exact HQ2.out _) | (go_at_call 17; exact HQ3.out _) | (go_at_call 18; exact HQ4.out _))
                  clear hwr1
                  go_wp2
                  go_roundg (gk - 1)
                  case measure => omega
                  case rel => exact ⟨i + 1, by omega, by go_num, ⟨HB2.out.drewN _⟩, ⟨⟨HBL2.out.os, HBL2.out.tape, HBL2.out.output, HBL2.out.size, HBL2.out.block⟩⟩⟩
              · obtain rfl : i = us'.length := by omega
                have i1 : ¬ ((us'.length : Int) < (us'.length : Int)) := by omega
                go_wp2
                go_roundg (59 - j)
                case measure => omega
                case rel => exact ⟨j + 1, us'.length, Au', cu', by omega, by omega, rfl, by go_num, ⟨_, _, _, _, hBI.out, rfl⟩, hBl⟩
    · have hlt' : (L.length : Int) ≤ (j : Int) ∨ (60 : Int) ≤ (j : Int) := by omega
      by_cases hl1 : (j : Int) < (L.length : Int)
      · have hl2 : (60 : Int) ≤ (j : Int) := by omega
        clear hlt hlt'
        go_wp2
        go_ret
        exact ⟨rfl, hB.out⟩
      · have hl2 : (L.length : Int) ≤ (j : Int) := by omega
        clear hlt hlt' hl1
        go_wp2
        go_ret
        exact ⟨rfl, hB.out⟩
end Go.Proofs.Ytnmahbpkaocjdaa
