/-
  Scopes: Change.
-/
import Derived.Test.YtnmahbpkaocjdaaScopeH
import Derived.IntWalk
set_option linter.unusedVariables false
namespace Go.Proofs.Ytnmahbpkaocjdaa
open Go.RowKit Go.Proofs.YtnmahbpkaocjdaaW.PrintWords

section
variable {w0 w : World} {F : Nat → Prop} {sb : Nat} {st : St}

theorem SRep.drewN (h : SRep w0 w F sb st) (n : Nat) : SRep w0 (w.drewN n) F sb st := h.upd ((Upd.refl (fun _ => False) w).drewN n) (fun _ _ h => h)
theorem q_holds (h : SRep w0 w F sb st) (i : Int) (b : Bool) (hh : st.holds i = b) (n : Nat) : Calls Try.prog 46 #[.pointer (some ⟨sb, 0, none⟩), .int .i64 i] (w.drewN n) fun e w' => e = .returned (.bool b) ∧ ∃ m, w' = w.drewN m := by
  have := s_holds (h.drewN n) i
  rw [hh] at this
  exact this.mono (by rintro e w1 ⟨rfl, rfl⟩; exact ⟨rfl, n, rfl⟩)
theorem q_isKind (w : World) (k : Int) (b : Bool) (hh : isKindB k = b) (n : Nat) : Calls Try.prog 45 #[.int .i64 k] (w.drewN n) fun e w' => e = .returned (.bool b) ∧ ∃ m, w' = w.drewN m := by
  have := s_isKind (w.drewN n) k
  rw [hh] at this
  exact this.mono (by rintro e w1 ⟨rfl, rfl⟩; exact ⟨rfl, n, rfl⟩)

/-- May the object stand in its place? -/
def St.may (st : St) (i : Int) (o : Ob) : Prop := st.holds i = true ∧ isKindB o.kind = true ∧ o.name = (st.ob i.toNat).name

set_option maxHeartbeats 1000000 in
theorem s_change_bad (h : SRep w0 w F sb st) (i : Int) (o : Ob) (hb : ¬ st.may i o) : Calls Try.prog 36 #[.pointer (some ⟨sb, 0, none⟩), .int .i64 i, o.val] w fun e w' => e = .returned (.int .i64 1) ∧ Below w.heap.size w w' := by
  have hI0 := h.below ((Below.refl _ _).alloc (Nat.le_refl _) o.cells)
  have HI := Aside0.mk hI0
  clear h
  unfold Ob.val
  unfold Ob.cells at HI hI0
  by_cases h1 : st.holds i = true
  · have H1 := Aside0.mk h1
    by_cases h2 : isKindB o.kind = true
    · have H2 := Aside0.mk h2
      have h3 : o.name ≠ (st.ob i.toNat).name := fun h3 => hb ⟨h1, h2, h3⟩
      have hk : 1 ≤ i ∧ i < (st.objs.length : Int) := by simpa [St.holds] using h1
      obtain ⟨k, rfl⟩ : ∃ k : Nat, i = (k : Int) := ⟨i.toNat, by omega⟩
      obtain ⟨g, col, hI, _⟩ := hI0
      have hf := g.few2
      obtain ⟨A1, c1, A2, c2, mb, _, x1, _, _, hc, _⟩ := hI.cells
      obtain ⟨lb, rfl, _, y1, _⟩ := hc k (by omega)
      rw [Int.toNat_natCast] at h3
      have hne := bytes_ne h3
      obtain ⟨hk1, hk2⟩ := hk
      have hk0 : (0 : Int) ≤ (k : Int) := by omega
      generalize (st.ob k).name = nm2 at y1 hne
      clear hb h1 h2 h3 hI hc g
      go_enter Try.func36, Try.ntmps36
      go_wp2_with fail
      go_quiet (first | (go_at_call 46; exact q_holds HI.out _ _ H1.out _) | (go_at_call 45; exact q_isKind _ _ _ H2.out _))
      go_wp2
      go_ret
      exact ⟨rfl, below_then ((Below.refl _ _).alloc (Nat.le_refl _) _) ((Below.refl w.heap.size w).alloc (Nat.le_refl _) _).size (Same.drewN _ _).below⟩
    · have h2' : isKindB o.kind = false := by simpa using h2
      have H2 := Aside0.mk h2'
      clear hb h1 h2 h2' hI0
      go_enter Try.func36, Try.ntmps36
      go_wp2_with fail
      go_quiet (first | (go_at_call 46; exact q_holds HI.out _ _ H1.out _) | (go_at_call 45; exact q_isKind _ _ _ H2.out _))
      go_wp2
      go_ret
      exact ⟨rfl, below_then ((Below.refl _ _).alloc (Nat.le_refl _) _) ((Below.refl w.heap.size w).alloc (Nat.le_refl _) _).size (Same.drewN _ _).below⟩
  · have h1' : st.holds i = false := by simpa using h1
    have H1 := Aside0.mk h1'
    clear hb h1 h1' hI0
    go_enter Try.func36, Try.ntmps36
    go_wp2_with fail
    go_quiet (first | (go_at_call 46; exact q_holds HI.out _ _ H1.out _))
    go_wp2
    go_ret
    exact ⟨rfl, below_then ((Below.refl _ _).alloc (Nat.le_refl _) _) ((Below.refl w.heap.size w).alloc (Nat.le_refl _) _).size (Same.drewN _ _).below⟩

theorem change_fin {col : Nat → Nat} (g : st.Good) (hI0 : SIn w0 w col sb st) (hF : ∀ k, col k ≠ 0 → F k) {wc : World} (hb : Below w.heap.size w wc) (k : Nat) (hk : k < st.objs.length) (o : Ob) (hn : o.name = (st.ob k).name) {lb : Nat}
    (hlb : ∃ ov c2 mb, wc.heap[sb]? = some (.cells #[ov, .slice (some ⟨lb, 0, none⟩) st.objs.length c2, .map (some mb)] 103 (0, 0))) :
    Upd F w (wc.setCells lb (k * 13) o.enc) ∧ SRep w0 (wc.setCells lb (k * 13) o.enc) F sb (st.change k o) := by
  have hI := hI0.upd (Upd.of_below hb (fun _ => False)) (fun _ _ h => h)
  obtain ⟨ov, bv, mb, n, D, hbk, hr1, hr2, hc, hm, hn2, hv⟩ := hI.blk
  obtain ⟨ov', c2, mb', hbk'⟩ := hlb
  rw [hbk] at hbk'
  simp only [Option.some.injEq, Obj.cells.injEq, Array.mk.injEq, List.cons.injEq, and_true] at hbk'
  obtain ⟨_, rfl, _⟩ := hbk'
  have hcl : col lb = 4 := hr2.1 lb (by simp [Value.ownBlock])
  obtain ⟨hr3, hg⟩ := Kd.R_seg hr2 (k : Int) (by omega) (by omega) (c := (st.ob k).enc) (seg := o.enc) (j := 0) (okp := fun _ => False) (x' := o) rfl (fun j u hu => by
    obtain ⟨cs, hcl, hM, hcell, _⟩ := Kd.R_elem hr2 Ob.zero (k : Int) (by omega) (by omega)
    rw [Int.toNat_natCast] at hM
    have hM' : cs = (st.ob k).enc := hM
    rw [hM'] at hcell
    exact hcell j u hu) (by show 0 + 13 ≤ 13; omega) rfl (fun _ h => h.elim)
  rw [Int.toNat_natCast] at hr3 hg
  have hr3' : obk.R 70 (wc.setCells lb (k * 13) o.enc) w0.heap.size (fun k => col k = 4) (.slice (some ⟨lb, 0, none⟩) st.objs.length c2) (st.objs.set k o) := hr3
  have hg' : wc.grownBy (wc.setCells lb (k * 13) o.enc) (some lb) := hg
  have hu2 : Upd (fun k => k = lb) wc (wc.setCells lb (k * 13) o.enc) := (Upd.refl _ wc).grown hg' (fun j hj => .inl (by injection hj with hj; exact hj.symm))
  have hu : Upd F w (wc.setCells lb (k * 13) o.enc) := (Upd.of_below hb F).trans hu2 (fun j hj => .inl (by rw [hj]; exact hF lb (by rw [hcl]; decide)))
  have hnc : ∀ d, d ≠ 4 → ∀ j, col j = d → ¬ j = lb := fun d hd j hj he => by rw [he, hcl] at hj; exact hd hj.symm
  refine ⟨hu, g.change hk hn, col, ⟨hI.c1, ⟨ov, _, mb, n, D, hu2.blk hbk (hnc 1 (by decide) sb hI.c1), Kd.R_upd hr1 hu2 (fun j hj => hnc 3 (by decide) j hj), hr3', hc, ownsMap_upd hm hu2 (hnc 2 (by decide) mb hc), ?_, hv.same (fun i nm => St.here_change k o hk hn i nm)⟩, fun j hj => ⟨(hI.lt j hj).1, Nat.lt_of_lt_of_le (hI.lt j hj).2 hu2.size⟩⟩, hF⟩
  simp [St.change]
  exact hn2

set_option maxHeartbeats 1000000 in
theorem s_change_ok (h : SRep w0 w F sb st) (h0 : w0.heap.size ≤ w.heap.size) (k : Nat) (o : Ob) (hm : st.may (k : Int) o) :
    Calls Try.prog 36 #[.pointer (some ⟨sb, 0, none⟩), .int .i64 (k : Int), o.val] w fun e w' => e = .returned (.int .i64 0) ∧ Upd F w w' ∧ SRep w0 w' F sb (st.change k o) := by
  have HI := Aside0.mk (h.below ((Below.refl _ _).alloc (Nat.le_refl _) o.cells))
  obtain ⟨h1, h2, h3⟩ := hm
  rw [Int.toNat_natCast] at h3
  have hk : 1 ≤ (k : Int) ∧ (k : Int) < (st.objs.length : Int) := by simpa [St.holds] using h1
  have hbel := (Below.refl w.heap.size w).alloc (Nat.le_refl _) o.cells
  have h' := h
  obtain ⟨g, col, hI0, hF⟩ := h'
  have hI := hI0.upd (Upd.of_below hbel (fun _ => False)) (fun _ _ h => h)
  have hf := g.few2
  obtain ⟨ov, bv, mb, n, D, hb, hr1, hr2, hc, hm, hn2, hv⟩ := hI.blk
  obtain ⟨A2, c2, hbv, _, hcell⟩ := ob_cell hr2
  subst hbv
  obtain ⟨lb, rfl, hcl, hfz, y0, y1, y2, y3, y4, y5, y6, y7, y8, y9, y10, y11, y12⟩ := hcell k (by omega)
  have x1 : (w.alloc o.cells).cell? ⟨sb, 1, none⟩ = some (.slice (some ⟨lb, 0, none⟩) st.objs.length c2) := by rw [blk_cell hb]; rfl
  have f0 := hfz (k * 13)
  have f1 := hfz (k * 13 + 1)
  have f2 := hfz (k * 13 + 2)
  have f3 := hfz (k * 13 + 3)
  have f4 := hfz (k * 13 + 4)
  have f5 := hfz (k * 13 + 5)
  have f6 := hfz (k * 13 + 6)
  have f7 := hfz (k * 13 + 7)
  have f8 := hfz (k * 13 + 8)
  have f9 := hfz (k * 13 + 9)
  have f10 := hfz (k * 13 + 10)
  have f11 := hfz (k * 13 + 11)
  have f12 := hfz (k * 13 + 12)
  have h3' : (st.objs.getD k Ob.zero).name = o.name := h3.symm
  rw [h3'] at y1
  obtain ⟨hk1, hk2⟩ := hk
  have hk0 : (0 : Int) ≤ (k : Int) := by omega
  have H1 := Aside0.mk h1
  have H2 := Aside0.mk h2
  have HR2 := Aside0.mk hr2
  have HB := Aside0.mk hb
  have HFIN := Aside0.mk (fun wc hwc hlb => change_fin (wc := wc) (lb := lb) g hI0 hF hwc k (by omega) o h3 hlb)
  clear h h1 h2 h3 h3' hI hI0 hcell hfz hr1 hr2 hb hm hv g hc hF hbel hcl
  unfold Ob.val
  unfold Ob.cells at *
  go_enter Try.func36, Try.ntmps36
  go_wp2_with fail
  go_quiet (first | (go_at_call 46; exact q_holds HI.out _ _ H1.out _) | (go_at_call 45; exact q_isKind _ _ _ H2.out _))
  go_wp2_with fail
  go_region
  have hbw : Below w.heap.size w ((w.alloc o.cells).drewN (nq + 1)) := below_then ((Below.refl w.heap.size w).alloc (Nat.le_refl _) o.cells) ((Below.refl w.heap.size w).alloc (Nat.le_refl _) o.cells).size (Same.drewN _ _).below
  have hfin := HFIN.out _ hbw ⟨_, _, _, HB.out⟩
  have HFN := Aside0.mk hfin
  unfold Ob.cells at HFN
  clear hfin hbw y0 y1 y2 y3 y4 y5 y6 y7 y8 y9 y10 y11 y12 x1
  go_wp2_with fail
  go_ret
  exact ⟨rfl, HFN.out⟩
end
end Go.Proofs.Ytnmahbpkaocjdaa
