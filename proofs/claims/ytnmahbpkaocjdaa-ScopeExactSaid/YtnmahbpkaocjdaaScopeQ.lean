/-
  Scopes: the document's Change.
-/
import Derived.Test.YtnmahbpkaocjdaaScopeP
set_option linter.unusedVariables false
namespace Go.Proofs.Ytnmahbpkaocjdaa
open Go.RowKit Go.Proofs.YtnmahbpkaocjdaaW.PrintWords

section
variable {w0 w : World} {F : Nat → Prop} {ub : Nat} {st : St}

set_option maxHeartbeats 2000000 in
theorem u_change_bad (h : USc w0 w F ub st) (i : Int) (o : Ob) (hb : ¬ st.may i o) : Calls Try.prog 43 #[.pointer (some ⟨ub, 0, none⟩), .int .i64 i, o.val] w fun e w' => e = .returned (.int .i64 1) ∧ Below w.heap.size w w' := by
  have hI0 := h.below ((Below.refl _ _).alloc (Nat.le_refl _) o.cells)
  have hbel : Below w.heap.size w (w.alloc o.cells) := (Below.refl w.heap.size w).alloc (Nat.le_refl _) o.cells
  have HBEL := Aside0.mk hbel
  obtain ⟨g, col, hI, _⟩ := hI0
  have hf := g.few2
  obtain ⟨A1, c1, A3, c3, A2, c2, _, _, x2, _, _, hc⟩ := hI.cells
  unfold Ob.val
  unfold Ob.cells at *
  clear h
  by_cases h1 : 1 ≤ i
  · by_cases h1b : i < (st.objs.length : Int)
    · obtain ⟨k, rfl⟩ : ∃ k : Nat, i = (k : Int) := ⟨i.toNat, by omega⟩
      have hh : st.holds (k : Int) = true := by simp [St.holds]; omega
      have hk0 : (0 : Int) ≤ (k : Int) := by omega
      by_cases h2 : isKindB o.kind = true
      · have h3 : o.name ≠ (st.ob k).name := fun h3 => hb ⟨hh, h2, by rw [Int.toNat_natCast]; exact h3⟩
        obtain ⟨k1, k2⟩ := kind_t h2
        obtain ⟨lb, rfl, _, y1, _⟩ := hc k (by omega)
        have hne := bytes_ne h3
        generalize (st.ob k).name = nm2 at y1 hne
        have b1 : decide ((k : Int) < 1) = false := by simp; omega
        have b2 : decide (st.objs.length ≤ k) = false := by simp; omega
        have b3 : decide (o.kind < 1) = false := by simp; omega
        have b4 : decide (9 < o.kind) = false := by simp; omega
        clear hb h2 h3 hI hc g hh hbel
        go_enter Try.func43, Try.ntmps43
        go_wp2_with fail
        go_quiet (fail)
        go_wp2
        go_ret
        exact ⟨rfl, below_then HBEL.out HBEL.out.size (Same.drewN _ _).below⟩
      · have h2' : isKindB o.kind = false := by simpa using h2
        rcases kind_f h2' with k1 | ⟨k1, k2⟩
        · have b1 : decide ((k : Int) < 1) = false := by simp; omega
          have b2 : decide (st.objs.length ≤ k) = false := by simp; omega
          clear hb h2 h2' hI hc g hh hbel
          go_enter Try.func43, Try.ntmps43
          go_wp2_with fail
          go_quiet (fail)
          go_wp2
          go_ret
          exact ⟨rfl, below_then HBEL.out HBEL.out.size (Same.drewN _ _).below⟩
        · have b1 : decide ((k : Int) < 1) = false := by simp; omega
          have b2 : decide (st.objs.length ≤ k) = false := by simp; omega
          have b3 : decide (o.kind < 1) = false := by simp; omega
          clear hb h2 h2' hI hc g hh hbel
          go_enter Try.func43, Try.ntmps43
          go_wp2_with fail
          go_quiet (fail)
          go_wp2
          go_ret
          exact ⟨rfl, below_then HBEL.out HBEL.out.size (Same.drewN _ _).below⟩
    · have h1c : (st.objs.length : Int) ≤ i := by omega
      have b1 : decide (i < 1) = false := by simp; omega
      clear hb hI hc g h1b hbel
      go_enter Try.func43, Try.ntmps43
      go_wp2_with fail
      go_quiet (fail)
      go_wp2
      go_ret
      exact ⟨rfl, below_then HBEL.out HBEL.out.size (Same.drewN _ _).below⟩
  · have h1c : i < 1 := by omega
    clear hb hI hc g h1 hbel
    go_enter Try.func43, Try.ntmps43
    go_wp2_with fail
    go_quiet (fail)
    go_wp2
    go_ret
    exact ⟨rfl, below_then HBEL.out HBEL.out.size (Same.drewN _ _).below⟩

theorem u_change_fin {col : Nat → Nat} (g : st.Good) (hI0 : UIn w0 w col ub st) (hF : ∀ k, col k ≠ 0 → F k) {wc : World} (hb : Below w.heap.size w wc) (k : Nat) (hk : k < st.objs.length) (o : Ob) (hn : o.name = (st.ob k).name) {lb : Nat}
    (hlb : ∃ ov iv c2, wc.heap[ub]? = some (.cells #[ov, iv, .slice (some ⟨lb, 0, none⟩) st.objs.length c2] 58 (0, 0))) :
    Upd F w (wc.setCells lb (k * 13) o.enc) ∧ USc w0 (wc.setCells lb (k * 13) o.enc) F ub (st.change k o) := by
  have hI := hI0.upd (Upd.of_below hb (fun _ => False)) (fun _ _ h => h)
  obtain ⟨ov, iv, bv, hbk, hr1, hr2, hr3⟩ := hI.blk
  obtain ⟨ov', iv', c2, hbk'⟩ := hlb
  rw [hbk] at hbk'
  simp only [Option.some.injEq, Obj.cells.injEq, Array.mk.injEq, List.cons.injEq, and_true] at hbk'
  obtain ⟨_, _, rfl⟩ := hbk'
  have hcl : col lb = 4 := hr3.1 lb (by simp [Value.ownBlock])
  obtain ⟨hr4, hg⟩ := Kd.R_seg hr3 (k : Int) (by omega) (by omega) (c := (st.ob k).enc) (seg := o.enc) (j := 0) (okp := fun _ => False) (x' := o) rfl (fun j u hu => by
    obtain ⟨cs, hcl, hM, hcell, _⟩ := Kd.R_elem hr3 Ob.zero (k : Int) (by omega) (by omega)
    rw [Int.toNat_natCast] at hM
    have hM' : cs = (st.ob k).enc := hM
    rw [hM'] at hcell
    exact hcell j u hu) (by show 0 + 13 ≤ 13; omega) rfl (fun _ h => h.elim)
  rw [Int.toNat_natCast] at hr4 hg
  have hr4' : obk.R 70 (wc.setCells lb (k * 13) o.enc) w0.heap.size (fun k => col k = 4) (.slice (some ⟨lb, 0, none⟩) st.objs.length c2) (st.objs.set k o) := hr4
  have hg' : wc.grownBy (wc.setCells lb (k * 13) o.enc) (some lb) := hg
  have hu2 : Upd (fun k => k = lb) wc (wc.setCells lb (k * 13) o.enc) := (Upd.refl _ wc).grown hg' (fun j hj => .inl (by injection hj with hj; exact hj.symm))
  have hu : Upd F w (wc.setCells lb (k * 13) o.enc) := (Upd.of_below hb F).trans hu2 (fun j hj => .inl (by rw [hj]; exact hF lb (by rw [hcl]; decide)))
  have hnc : ∀ d, d ≠ 4 → ∀ j, col j = d → ¬ j = lb := fun d hd j hj he => by rw [he, hcl] at hj; exact hd hj.symm
  exact ⟨hu, g.change hk hn, col, ⟨hI.c1, ⟨ov, iv, _, hu2.blk hbk (hnc 1 (by decide) ub hI.c1), Kd.R_upd hr1 hu2 (fun j hj => hnc 2 (by decide) j hj), Kd.R_upd hr2 hu2 (fun j hj => hnc 3 (by decide) j hj), hr4'⟩, fun j hj => ⟨(hI.lt j hj).1, Nat.lt_of_lt_of_le (hI.lt j hj).2 hu2.size⟩⟩, hF⟩

set_option maxHeartbeats 2000000 in
theorem u_change_ok (h : USc w0 w F ub st) (h0 : w0.heap.size ≤ w.heap.size) (k : Nat) (o : Ob) (hm : st.may (k : Int) o) :
    Calls Try.prog 43 #[.pointer (some ⟨ub, 0, none⟩), .int .i64 (k : Int), o.val] w fun e w' => e = .returned (.int .i64 0) ∧ Upd F w w' ∧ USc w0 w' F ub (st.change k o) := by
  obtain ⟨h1, h2, h3⟩ := hm
  rw [Int.toNat_natCast] at h3
  obtain ⟨kd1, kd2⟩ := kind_t h2
  have hk : 1 ≤ (k : Int) ∧ (k : Int) < (st.objs.length : Int) := by simpa [St.holds] using h1
  have hbel := (Below.refl w.heap.size w).alloc (Nat.le_refl _) o.cells
  have h' := h
  obtain ⟨g, col, hI0, hF⟩ := h'
  have hI := hI0.upd (Upd.of_below hbel (fun _ => False)) (fun _ _ h => h)
  have hf := g.few2
  obtain ⟨ov, iv, bv, hb, hr1, hr2, hr3⟩ := hI.blk
  obtain ⟨A2, c2, hbv, _, hcell⟩ := ob_cell hr3
  subst hbv
  obtain ⟨lb, rfl, hcl, hfz, y0, y1, y2, y3, y4, y5, y6, y7, y8, y9, y10, y11, y12⟩ := hcell k (by omega)
  have x1 : (w.alloc o.cells).cell? ⟨ub, 2, none⟩ = some (.slice (some ⟨lb, 0, none⟩) st.objs.length c2) := by rw [blk_cell hb]; rfl
  have f0 := hfz (k * 13)
  have f1 := hfz (k * 13 + 1)
  have f2 := hfz (k * 13 + 2)
  have f3 := hfz (k * 13 + 3)
  have f4 := hfz (k * 13 + 4)
  have f5 := hfz (k * 13 + 5)
  have f6 := hfz (k * 13 + 6)
  have f7 := hfz (k * 13 + 7)
  have f8 := hfz (k * 13 + 8)
  have f9 := hfz (k * 13 + 9)
  have f10 := hfz (k * 13 + 10)
  have f11 := hfz (k * 13 + 11)
  have f12 := hfz (k * 13 + 12)
  have h3' : (st.objs.getD k Ob.zero).name = o.name := h3.symm
  rw [h3'] at y1
  obtain ⟨hk1, hk2⟩ := hk
  have hk0 : (0 : Int) ≤ (k : Int) := by omega
  have b1 : decide ((k : Int) < 1) = false := by simp; omega
  have b2 : decide (st.objs.length ≤ k) = false := by simp; omega
  have b3 : decide (o.kind < 1) = false := by simp; omega
  have b4 : decide (9 < o.kind) = false := by simp; omega
  have HB := Aside0.mk hb
  have HFIN := Aside0.mk (fun wc hwc hlb => u_change_fin (wc := wc) (lb := lb) g hI0 hF hwc k (by omega) o h3 hlb)
  clear h h1 h2 h3 h3' hI hI0 hcell hfz hr1 hr2 hr3 hb g hF hbel hcl
  unfold Ob.val
  unfold Ob.cells at *
  go_enter Try.func43, Try.ntmps43
  go_wp2_with fail
  go_quiet (fail)
  go_wp2_with fail
  go_region
  have hbw : Below w.heap.size w ((w.alloc o.cells).drewN (nq + 1)) := below_then ((Below.refl w.heap.size w).alloc (Nat.le_refl _) o.cells) ((Below.refl w.heap.size w).alloc (Nat.le_refl _) o.cells).size (Same.drewN _ _).below
  have hfin := HFIN.out _ hbw ⟨_, _, _, HB.out⟩
  have HFN := Aside0.mk hfin
  unfold Ob.cells at HFN
  clear hfin hbw y0 y1 y2 y3 y4 y5 y6 y7 y8 y9 y10 y11 y12 x1
  go_wp2_with fail
  go_ret
  exact ⟨rfl, HFN.out⟩
end
end Go.Proofs.Ytnmahbpkaocjdaa
