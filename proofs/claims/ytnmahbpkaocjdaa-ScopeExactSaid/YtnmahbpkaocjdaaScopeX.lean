/-
  ScopeApart: the walk.
-/
import Derived.Test.YtnmahbpkaocjdaaScopeW
set_option linter.unusedVariables false
namespace Go.Proofs.Ytnmahbpkaocjdaa
open Go.RowKit Go.Proofs.YtnmahbpkaocjdaaW.PrintWords

theorem USc.ucell {w0 w : World} {F : Nat → Prop} {ub : Nat} {st : St} (h : USc w0 w F ub st) : ∃ A c, w.cell? ⟨ub, 0, none⟩ = some (.slice A st.outer.length c) := by
  obtain ⟨_, col, hI, _⟩ := h
  obtain ⟨A1, c1, A3, c3, A2, c2, x0, _⟩ := hI.cells
  exact ⟨A1, c1, x0⟩

theorem k_bounds (x : Int) (n : Nat) (h1 : 1 ≤ n) (h2 : n ≤ 61) : 1 ≤ wrap64 (1 + wrap64 ((IntKind.u64.wrap x).tmod (n : Int))) ∧ wrap64 (1 + wrap64 ((IntKind.u64.wrap x).tmod (n : Int))) ≤ n := by
  have h0 : 0 ≤ IntKind.u64.wrap x := by
    simp only [IntKind.wrap, IntKind.signed, IntKind.bits]
    simp
    omega
  rw [Int.tmod_eq_emod_of_nonneg h0]
  have h3 := Int.emod_nonneg (IntKind.u64.wrap x) (show (n : Int) ≠ 0 by omega)
  have h4 := Int.emod_lt_of_pos (IntKind.u64.wrap x) (show (0 : Int) < (n : Int) by omega)
  unfold wrap64
  omega

theorem put_win (st : St) (k : Int) (o : Ob) (x : Int) : ∀ (f : Nat) (i : Int), (st.put k o).win x f i = st.win x f i
  | 0, _ => rfl
  | f + 1, i => by
    unfold St.win
    rw [put_win st k o x f]
    rfl
theorem put_within (st : St) (k : Int) (o : Ob) (i x : Int) : (st.put k o).Within i x = st.Within i x := by
  unfold St.Within
  rw [put_win]
  rfl
/-- The plain law of the law's second loop. -/
theorem apart_law {st : St} (g : st.Good) (k : Int) (o : Ob) (hk : st.has k = true) (hfree : st.here k o.name = 0) (i : Int) (hi : st.has i = true) :
    (o.name = under → ((st.put k o).Find i o.name).1 = 0) ∧
    (o.name ≠ under → st.Within i k = false → ((st.put k o).Find i o.name).1 = (st.Find i o.name).1) ∧
    (o.name ≠ under → st.Within i k = true → ((st.put k o).Find i o.name).1 ≠ (st.objs.length : Int) → ((st.put k o).Find i o.name).1 = (st.Find i o.name).1 ∧ st.Within ((st.put k o).Find i o.name).2 k = true ∧ ((st.put k o).Find i o.name).2 ≠ k) := by
  have hii := St.has_iff.1 hi
  refine ⟨fun h => ?_, fun h hw => ?_, fun h hw hx => ?_⟩
  · rw [h, St.Find_under]
  · unfold St.Within at hw
    rw [hk, Bool.true_and] at hw
    have := St.find_put_out g k o o.name st.outer.length st.outer.length i (fun _ => hii.2) hw
    unfold St.Find
    show ((st.put k o).find o.name st.outer.length i).1 = _
    rw [this]
  · unfold St.Within at hw ⊢
    rw [hk, Bool.true_and] at hw
    rw [hk, Bool.true_and]
    rcases St.find_put_in g k o hk hfree h st.outer.length st.outer.length i hi hii.2 hii.2 hw with h4 | ⟨h4, h5, h6, _, h8⟩
    · exact absurd h4 hx
    · refine ⟨?_, h8, h6⟩
      show ((st.put k o).find o.name st.outer.length i).1 = (st.find o.name st.outer.length i).1
      rw [h4]

/-- What was found before, for the scopes below j. -/
def wasL (st : St) (nm : ByteArray) (n j : Nat) : List Int := (List.range (n + 1)).map (fun i => if 1 ≤ i ∧ i < j then (st.Find (i : Int) nm).1 else 0)
theorem wasL_len (st : St) (nm : ByteArray) (n j : Nat) : (wasL st nm n j).length = n + 1 := by simp [wasL]
theorem wasL_start (st : St) (nm : ByteArray) (n : Nat) : wasL st nm n 1 = List.replicate (n + 1) 0 := by
  apply List.ext_getElem
  · simp [wasL]
  · intro i h1 h2
    simp [wasL]
    omega
theorem wasL_set (st : St) (nm : ByteArray) (n j : Nat) (h1 : 1 ≤ j) (h2 : j ≤ n) : (wasL st nm n j).set j (st.Find (j : Int) nm).1 = wasL st nm n (j + 1) := by
  apply List.ext_getElem
  · simp [wasL]
  · intro i h3 h4
    have h5 : i < n + 1 := by simpa [wasL] using h4
    rw [List.getElem_set]
    by_cases h : j = i
    · subst h
      simp [wasL, h1]
    · rw [if_neg h]
      simp only [wasL, List.getElem_map, List.getElem_range]
      by_cases h6 : 1 ≤ i ∧ i < j
      · rw [if_pos h6, if_pos (by omega)]
      · rw [if_neg h6, if_neg (by omega)]
theorem wasL_get (st : St) (nm : ByteArray) (n j i : Nat) (h1 : 1 ≤ i) (h2 : i < j) (h3 : i ≤ n) : (wasL st nm n j).getD i 0 = (st.Find (i : Int) nm).1 := by
  have hl : i < (wasL st nm n j).length := by rw [wasL_len]; omega
  rw [List.getD_eq_getElem?_getD, List.getElem?_eq_getElem hl]
  simp [wasL, h1, h2]

set_option maxRecDepth 100000 in
set_option maxHeartbeats 4000000 in
theorem apart_walk (w : World) (A : Option Addr) (c : Nat) (L : List SAct) (at_ : Int) (nm : ByteArray) (h : sactk.C w A L.length L) (hnm : ∀ a ∈ L, a.o.name.size ≤ maxLen) (hn : nm.size ≤ maxLen) :
    Calls Try.prog 5 #[.slice A L.length c, .int .i64 at_, .string nm] w fun e w' => e = .returned (.bool true) ∧ Below w.heap.size w w' := by
  have H := Aside0.mk h
  have HNM := Aside0.mk hnm
  clear h hnm
  go_enter Try.func5, Try.ntmps5
  go_wp2_with (first
    | (go_at_call 23; refine (awake07 _).mono ?_; rintro e w1 ⟨rfl, hb1⟩; have HB1 := Aside0.mk hb1; clear hb1)
    | (go_at_call 24; refine Stand.stop ?_))
  refine Stand.go ?_
  refine (laid_walk w1 A c L (Kd.C_below H.out HB1.out) HNM.out).mono ?_
  rintro e w2 ⟨sb, ub, rfl, hb2, F, G, st, hT, hl1, hl2⟩
  have HT := Aside0.mk hT
  have HB2 := Aside0.mk (below_then HB1.out HB1.out.size hb2)
  have HW12 := Aside0.mk hb2.size
  obtain ⟨A1, c1, x0⟩ := hT.u.ucell
  have hg := hT.s.1
  have ho2 := hg.o2
  have HG := Aside0.mk hg
  obtain ⟨n, hn1⟩ : ∃ n, st.outer.length = n + 1 := ⟨st.outer.length - 1, by omega⟩
  have HN1 := Aside0.mk hn1
  rw [hn1] at x0
  have hnn : 1 ≤ n := by omega
  have hn61 : n ≤ 61 := by omega
  clear hT hb2 hg hl1 ho2 hn1
  go_wp2_with (first | ((with_reducible refine gate_dst (N := 48) rfl ?_); refine Stand.stop ?_))
  refine Stand.go ?_
  have hkb := k_bounds at_ n hnn hn61
  generalize wrap64 (1 + wrap64 ((IntKind.u64.wrap at_).tmod (n : Int))) = kk at hkb ⊢
  have HPI := Aside0.mk (show 0 < intk.sz by show 0 < 1; omega)
  have h02 := HB2.out.size
  refine Kd.R_make intk (w0 := w) (W := w2) w.heap.size 3 rfl (N := 48) rfl 55 (.tmp 47) (.tmp 47) rfl ((n : Int) + 1) (by rfl) (by rfl) Try.underlying55 (.int .i64 0) 8 info3 rfl HPI.out (by decide) (0 : Int) (ok := fun k => w2.heap.size ≤ k) (okp := fun _ => False) rfl (fun _ h => h.elim) (Nat.le_refl _) (by omega) (by omega) HB2.out h02 ?_
  intro v3 w3 hr3 hb3 hg3 hnew3
  have hrep : List.replicate ((n : Int) + 1).toNat (0 : Int) = wasL st nm n 1 := by rw [wasL_start, show ((n : Int) + 1).toNat = n + 1 by omega]
  rw [hrep] at hr3
  obtain ⟨A3, c3, hv3⟩ := Kd.R_slice hr3
  rw [wasL_len] at hv3
  subst hv3
  have hT3 : Tw w1 w3 F G sb ub st := HT.out.upd ((Upd.refl (fun _ => False) w2).grown hg3 (fun k hk => by cases hk)) (fun _ _ h => h)
  have HFG : Aside0 (∀ k, F k ∨ G k → k < w2.heap.size) := ⟨fun k hk => (HT.out.low k hk).2⟩
  have HT3 := Aside0.mk hT3
  have HR3 := Aside0.mk hr3
  have HB3 := Aside0.mk hb3
  have HZ3 := Aside0.mk hg3.size
  clear hr3 hb3 hg3 hnew3 hT3 HT hrep
  go_wp2_with fail
  obtain ⟨A3', c3', hv3, hlc3, hcell3⟩ := int_cell HR3.out
  obtain ⟨wbk, hwbk, _⟩ := hcell3 0 (by rw [wasL_len]; omega)
  have hA3 : A3 = some ⟨wbk, 0, none⟩ := by
    injection hv3 with h1
    rw [h1]; exact hwbk
  subst hA3
  have hbk : w2.heap.size ≤ wbk := HR3.out.1 wbk (by simp [Value.ownBlock])
  have HBK := Aside0.mk hbk
  clear hv3 hlc3 hcell3 hwbk hbk
  go_loopg [13] n (fun g v w' => ∃ j : Nat, v = .int .i64 (j : Int) ∧ j + g = n + 1 ∧ 1 ≤ j ∧ Aside0 (Tw w1 w' F G sb ub st) ∧ Aside0 (intk.R 3 w' w.heap.size (fun k => w2.heap.size ≤ k) (.slice (some ⟨wbk, 0, none⟩) (n + 1) c3) (wasL st nm n j)) ∧ Aside0 (Below w.heap.size w w') ∧ Aside0 (w3.heap.size ≤ w'.heap.size))
  case atStart => exact ⟨1, rfl, by omega, by omega, HT3, HR3, HB3, ⟨Nat.le_refl _⟩⟩
  case round =>
    obtain ⟨j, rfl, hj, hj1, hT, hR, hB, hZ⟩ := hrel
    clear HT3 HR3 HB3
    by_cases hlt : j ≤ n
    · have hr := hR.out
      have hr' : intk.R 3 wr w.heap.size (fun k => w2.heap.size ≤ k) (.slice (some ⟨wbk, 0, none⟩) (wasL st nm n j).length c3) (wasL st nm n j) := by rw [wasL_len]; exact hr
      have h3 := (Kd.R_cell (0 : Int) hr' (j : Int) (by omega) (by rw [wasL_len]; omega)).1
      rw [Int.toNat_natCast] at h3
      obtain ⟨g', cap', hvf, _, _, cells, hcells⟩ := Kd.R_form hr' (by rw [wasL_len]; omega)
      have hgb : wbk = g' := by injection hvf with h1; injection h1 with h1; injection h1
      subst hgb
      have hfz : wr.frozen? ⟨wbk, j, none⟩ = false := blk_frozen hcells j
      have hcl : ∃ x, wr.cell? ⟨wbk, j, none⟩ = some x := ⟨_, h3⟩
      obtain ⟨xv, hxv⟩ := hcl
      have j0 : (0 : Int) ≤ (j : Int) := by omega
      have j1 : (j : Int) < (n : Int) + 1 := by omega
      have j2 : (j : Int) ≤ (n : Int) := by omega
      have HF1 := Aside0.mk (s_find hT.out.s (j : Int) nm hn)
      have hput := Kd.R_putn hr (j : Int) (st.Find (j : Int) nm).1
      rw [Int.toNat_natCast, wasL_set st nm n j hj1 hlt] at hput
      have HPUT := Aside0.mk hput
      clear hr hr' h3 hvf hcells hput
      go_wp2_with (first | (go_at_call 25; refine HF1.out.mono ?_; rintro e w' ⟨rfl, rfl⟩))
      go_roundg (gk - 1)
      case measure => omega
      case rel =>
        have hbk := HBK.out
        have hu : Upd (fun k => k = wbk) wr (wr.setCell ⟨wbk, j, none⟩ (.int .i64 (st.Find (j : Int) nm).1)) := Upd.cell _ _ _ _
        exact ⟨j + 1, by go_num, by omega, by omega, ⟨hT.out.upd hu (fun k hk he => by have := HFG.out k hk; omega)⟩, HPUT, ⟨hB.out.trans (hu.belowAt (fun k hk => by omega) hB.out.size)⟩, ⟨Nat.le_trans hZ.out hu.size⟩⟩
    · obtain rfl : j = n + 1 := by omega
      have j1 : ¬ (((n + 1 : Nat) : Int) ≤ (n : Int)) := by omega
      have j1b : (n : Int) < ((n + 1 : Nat) : Int) := by omega
      clear hlt
      go_wp2_with (go_at_call 26; refine Stand.stop ?_)
      refine Stand.go ?_
      have hk0 : st.has kk = true := St.has_iff.2 ⟨hkb.1, by rw [HN1.out]; omega⟩
      have HK0 := Aside0.mk hk0
      by_cases he : nm = ByteArray.empty
      · have hbad := s_put_bad hT.out.s kk (⟨1, nm, 0, 0, 0, 0, 0, 0, false, ByteArray.empty, 0, 0, 0⟩ : Ob) (fun hf => hf.2.2 he)
        refine hbad.mono ?_
        rintro e w5 ⟨rfl, hb5⟩
        have HB5 := Aside0.mk (below_then hB.out hB.out.size hb5)
        have hemp : nm.toList.isEmpty = true := by rw [he, ByteArray.toList_eq]; rfl
        clear hbad hb5 he hk0
        go_wp2_with fail
        go_ret
        exact ⟨by simp, HB5.out⟩
      · by_cases ht : st.here kk nm = 0
        · have hl3 : st.objs.length < 1000 := by omega
          have hput := s_put_ok hT.out.s (Nat.le_trans HW12.out (Nat.le_trans HZ3.out hZ.out)) kk (⟨1, nm, 0, 0, 0, 0, 0, 0, false, ByteArray.empty, 0, 0, 0⟩ : Ob) ⟨hk0, (show isKindB 1 = true by decide), he⟩ hn ht hl3
          refine hput.mono ?_
          rintro e w5 ⟨rfl, hu5, hs5⟩
          have HS5 := Aside0.mk hs5
          have hR5 := Kd.R_upd hR.out hu5 (fun k hk hf => by have := HFG.out k (.inl hf); omega)
          have HR5 := Aside0.mk hR5
          have HB5 := Aside0.mk (hB.out.trans (hu5.belowAt (fun k hk => by have := (hT.out.low k (.inl hk)).1; have := HB1.out.size; omega) hB.out.size))
          have HT0 := Aside0.mk ht
          clear hput hu5 hs5 hR5 hk0 ht he
          go_wp2_with fail
          go_loopg [19] n (fun g v w' => w' = w5 ∧ ∃ i : Nat, v = .int .i64 (i : Int) ∧ i + g = n + 1 ∧ 1 ≤ i)
          case atStart => exact ⟨rfl, 1, rfl, by omega, by omega⟩
          case round =>
            obtain ⟨rfl, i, rfl, hi, hi1⟩ := hrel
            by_cases hin : i ≤ n
            · have hhi : st.has (i : Int) = true := St.has_iff.2 ⟨by omega, by rw [HN1.out]; omega⟩
              obtain ⟨p1, p2, p3⟩ := apart_law HG.out kk (⟨1, nm, 0, 0, 0, 0, 0, 0, false, ByteArray.empty, 0, 0, 0⟩ : Ob) HK0.out HT0.out (i : Int) hhi
              have hr' : intk.R 3 wr w.heap.size (fun k => w2.heap.size ≤ k) (.slice (some ⟨wbk, 0, none⟩) (wasL st nm n (n + 1)).length c3) (wasL st nm n (n + 1)) := by rw [wasL_len]; exact HR5.out
              have h3 := (Kd.R_cell (0 : Int) hr' (i : Int) (by omega) (by rw [wasL_len]; omega)).1
              rw [Int.toNat_natCast] at h3
              have y0 : wr.cell? ⟨wbk, i, none⟩ = some (.int .i64 (st.Find (i : Int) nm).1) := by
                rw [h3]
                have := wasL_get st nm n (n + 1) i hi1 (by omega) hin
                simp only [List.getD_eq_getElem?_getD] at this
                simp [rdOf, this]
              have hfi := s_find HS5.out (i : Int) nm hn
              have hwi := s_within HS5.out (i : Int) kk
              rw [put_within] at hwi
              generalize hfx : (st.put kk (⟨1, nm, 0, 0, 0, 0, 0, 0, false, ByteArray.empty, 0, 0, 0⟩ : Ob)).Find (i : Int) nm = R at hfi
              have q1 : nm = under → R.1 = 0 := fun h => by rw [← hfx]; exact p1 h
              have q2 : nm ≠ under → st.Within i kk = false → R.1 = (st.Find i nm).1 := fun h h2 => by rw [← hfx]; exact p2 h h2
              have q3 : nm ≠ under → st.Within i kk = true → R.1 ≠ (st.objs.length : Int) → R.1 = (st.Find i nm).1 ∧ st.Within R.2 kk = true ∧ R.2 ≠ kk := fun h h2 h3 => by rw [← hfx] at h3 ⊢; exact p3 h h2 h3
              obtain ⟨x, y⟩ := R
              simp only at q1 q2 q3 hfi
              have i0 : (0 : Int) ≤ (i : Int) := by omega
              have i1 : (i : Int) < (n : Int) + 1 := by omega
              have i2 : (i : Int) ≤ (n : Int) := by omega
              clear hr' h3 p1 p2 p3 hfx
              by_cases hun : nm = under
              · obtain rfl := q1 hun
                have hbu := bytes_under hun
                have HFI := Aside0.mk hfi
                clear hfi hwi q1 q2 q3 hun
                go_wp2_with (first | (go_at_call 25; refine HFI.out.mono ?_; rintro e w' ⟨rfl, rfl⟩))
                go_roundg (gk - 1)
                case measure => omega
                case rel => exact ⟨rfl, i + 1, by go_num, by omega, by omega⟩
              · have hbu := bytes_not_under hun
                cases hwb : st.Within i kk with
                | false =>
                  obtain rfl := q2 hun hwb
                  rw [hwb] at hwi
                  have HFI := Aside0.mk hfi
                  have HWI := Aside0.mk hwi
                  clear hfi hwi q1 q2 q3 hun hwb
                  go_wp2_with (first | (go_at_call 25; refine HFI.out.mono ?_; rintro e w' ⟨rfl, rfl⟩) | (go_at_call 27; refine HWI.out.mono ?_; rintro e w' ⟨rfl, rfl⟩))
                  go_roundg (gk - 1)
                  case measure => omega
                  case rel => exact ⟨rfl, i + 1, by go_num, by omega, by omega⟩
                | true =>
                  rw [hwb] at hwi
                  by_cases hx : x = (st.objs.length : Int)
                  · subst hx
                    have HFI := Aside0.mk hfi
                    have HWI := Aside0.mk hwi
                    clear hfi hwi q1 q2 q3 hun hwb
                    go_wp2_with (first | (go_at_call 25; refine HFI.out.mono ?_; rintro e w' ⟨rfl, rfl⟩) | (go_at_call 27; refine HWI.out.mono ?_; rintro e w' ⟨rfl, rfl⟩))
                    go_roundg (gk - 1)
                    case measure => omega
                    case rel => exact ⟨rfl, i + 1, by go_num, by omega, by omega⟩
                  · obtain ⟨r1, r2, r3⟩ := q3 hun hwb hx
                    subst r1
                    have hxb : ((st.Find (i : Int) nm).1 != (st.objs.length : Int)) = true := by simpa using hx
                    have hyk : (y == kk) = false := by simpa using r3
                    have hwy := s_within HS5.out y kk
                    rw [put_within, r2] at hwy
                    have HFI := Aside0.mk hfi
                    have HWI := Aside0.mk hwi
                    have HWY := Aside0.mk hwy
                    clear hfi hwi hwy q1 q2 q3 hun hwb hx r2 r3
                    go_wp2_with (first | (go_at_call 25; refine HFI.out.mono ?_; rintro e w' ⟨rfl, rfl⟩) | (go_at_call 27; first | ((with_reducible refine HWI.out.mono ?_); rintro e w' ⟨rfl, rfl⟩) | ((with_reducible refine HWY.out.mono ?_); rintro e w' ⟨rfl, rfl⟩)))
                    go_roundg (gk - 1)
                    case measure => omega
                    case rel => exact ⟨rfl, i + 1, by go_num, by omega, by omega⟩
            · obtain rfl : i = n + 1 := by omega
              have j3 : ¬ (((n + 1 : Nat) : Int) ≤ (n : Int)) := by omega
              have j4 : (n : Int) < ((n + 1 : Nat) : Int) := by omega
              clear hin
              go_wp2_with fail
              go_ret
              exact ⟨rfl, HB5.out⟩
        · have htw := s_put_twice hT.out.s kk (⟨1, nm, 0, 0, 0, 0, 0, 0, false, ByteArray.empty, 0, 0, 0⟩ : Ob) ⟨hk0, (show isKindB 1 = true by decide), he⟩ hn ht
          refine htw.mono ?_
          rintro e w5 ⟨rfl, hb5⟩
          have HB5 := Aside0.mk (below_then hB.out hB.out.size hb5)
          clear htw hb5 he hk0 ht
          go_wp2_with fail
          go_ret
          exact ⟨by simp, HB5.out⟩
end Go.Proofs.Ytnmahbpkaocjdaa
