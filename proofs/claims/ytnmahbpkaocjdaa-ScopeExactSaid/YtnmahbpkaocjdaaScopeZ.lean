/-
  ScopeNests: the walk.
-/
import Derived.Test.YtnmahbpkaocjdaaScopeY
set_option linter.unusedVariables false
namespace Go.Proofs.Ytnmahbpkaocjdaa
open Go.RowKit Go.Proofs.YtnmahbpkaocjdaaW.PrintWords

def xN : ByteArray := { data := #[120] }
set_option maxRecDepth 100000 in
set_option maxHeartbeats 4000000 in
theorem nests_walk (w : World) (A : Option Addr) (c : Nat) (L : List SAct) (h : sactk.C w A L.length L) (hnm : ∀ a ∈ L, a.o.name.size ≤ maxLen) :
    Calls Try.prog 7 #[.slice A L.length c] w fun e w' => e = .returned (.bool true) ∧ Below w.heap.size w w' := by
  have H := Aside0.mk h
  have HNM := Aside0.mk hnm
  clear h hnm
  go_enter Try.func7, Try.ntmps7
  go_wp2_with (first
    | (go_at_call 23; refine (awake07 _).mono ?_; rintro e w1 ⟨rfl, hb1⟩; have HB1 := Aside0.mk hb1; clear hb1)
    | (go_at_call 24; refine Stand.stop ?_))
  refine Stand.go ?_
  refine (laid_walk w1 A c L (Kd.C_below H.out HB1.out) HNM.out).mono ?_
  rintro e w2 ⟨sb, ub, rfl, hb2, F, G, st, hT, hl1, hl2⟩
  have HT := Aside0.mk hT
  have HS := Aside0.mk hT.s
  have HB2 := Aside0.mk (below_then HB1.out HB1.out.size hb2)
  obtain ⟨A1, c1, x0⟩ := hT.u.ucell
  have hg := hT.s.1
  have ho2 := hg.o2
  have HG := Aside0.mk hg
  obtain ⟨n, hn1⟩ : ∃ n, st.outer.length = n + 1 := ⟨st.outer.length - 1, by omega⟩
  have HN1 := Aside0.mk hn1
  rw [hn1] at x0
  have hnn : 1 ≤ n := by omega
  have hn61 : n ≤ 61 := by omega
  clear hT hb2 hg hl1 ho2 hn1
  go_wp2_with fail
  go_loopg [7] n (fun g v w' => w' = w2 ∧ ∃ i : Nat, v = .int .i64 (i : Int) ∧ i + g = n + 1 ∧ 1 ≤ i)
  case atStart => exact ⟨rfl, 1, rfl, by omega, by omega⟩
  case round =>
    obtain ⟨rfl, i, rfl, hi, hi1⟩ := hrel
    obtain ⟨wo, rfl⟩ : ∃ wo : World, wo = wr := ⟨_, rfl⟩
    obtain ⟨go, rfl⟩ : ∃ go : Nat, go = gk := ⟨_, rfl⟩
    by_cases hin : i ≤ n
    · have hhi : st.has (i : Int) = true := St.has_iff.2 ⟨by omega, by rw [HN1.out]; omega⟩
      have HHI := Aside0.mk hhi
      have hw1 := s_within HS.out (i : Int) 1
      rw [St.within_one HG.out (i + 1) i (by omega) hhi] at hw1
      have HW1 := Aside0.mk hw1
      have hwi := s_within HS.out (i : Int) (i : Int)
      rw [St.within_self hhi] at hwi
      have HWI := Aside0.mk hwi
      have hou := s_outer HS.out (i : Int)
      rw [if_pos hhi] at hou
      have HOU := Aside0.mk hou
      have i2 : (i : Int) ≤ (n : Int) := by omega
      have HIN := Aside0.mk hin
      clear hw1 hwi hou hhi hin
      by_cases h1 : i = 1
      · subst h1
        have hwi1 := s_within HS.out 1 1
        rw [show st.Within 1 1 = true from St.within_self HHI.out] at hwi1
        have HWI1 := Aside0.mk hwi1
        clear hwi1
        go_wp2_with (first | (go_at_call 27; refine HWI1.out.mono ?_; rintro e w' ⟨rfl, rfl⟩))
        go_loopg [8] n (fun g v w' => w' = wo ∧ ∃ k : Nat, v = .int .i64 (k : Int) ∧ k + g = n + 1 ∧ 1 ≤ k)
        case atStart => exact ⟨rfl, 1, rfl, by omega, by omega⟩
        case round =>
          obtain ⟨rfl, k, rfl, hk, hk1⟩ := hrel
          by_cases hkn : k ≤ n
          · have hhk : st.has (k : Int) = true := St.has_iff.2 ⟨by omega, by rw [HN1.out]; omega⟩
            have hwk := s_within HS.out 1 (k : Int)
            have k2 : (k : Int) ≤ (n : Int) := by omega
            by_cases hk1' : k = 1
            · subst hk1'
              rw [show st.Within 1 ((1 : Nat) : Int) = true from St.within_self HHI.out] at hwk
              have HWK := Aside0.mk hwk
              clear hwk hhk hkn
              go_wp2_with (first | (go_at_call 27; refine HWK.out.mono ?_; rintro e w' ⟨rfl, rfl⟩))
              go_roundg (gk - 1)
              case measure => omega
              case rel => exact ⟨rfl, 2, by go_num, by omega, by omega⟩
            · rw [St.within_gt HG.out (show (1 : Int) < (k : Int) by omega)] at hwk
              have HWK := Aside0.mk hwk
              have hb1 : ((1 : Int) == (k : Int)) = false := beq_eq_false_iff_ne.2 (by omega)
              have hb2 : decide ((1 : Int) < (k : Int)) = true := decide_eq_true (by omega)
              have hb3 : (1 : Int) < (k : Int) := by omega
              clear hwk hhk hkn
              go_wp2_with (first | (go_at_call 27; refine HWK.out.mono ?_; rintro e w' ⟨rfl, rfl⟩))
              go_roundg (gk - 1)
              case measure => omega
              case rel => exact ⟨rfl, k + 1, by go_num, by omega, by omega⟩
          · obtain rfl : k = n + 1 := by omega
            have j4 : (n : Int) < ((n + 1 : Nat) : Int) := by omega
            clear hkn
            go_wp2_with fail
            go_roundg (go - 1)
            case measure => omega
            case rel => exact ⟨rfl, 2, by go_num, by omega, by omega⟩
      · have ho := St.outer_law HG.out HHI.out (by omega)
        obtain ⟨o1, o2⟩ := ho
        have i3 : 1 < (i : Int) := by omega
        generalize hoi : st.out (i : Int) = oi at HOU o1 o2
        have HOI := Aside0.mk hoi
        clear hoi
        have hb1 : decide ((i : Int) ≤ oi) = false := decide_eq_false (by omega)
        have hb2 : decide (oi < 1) = false := decide_eq_false (by omega)
        go_wp2_with (first | (go_at_call 27; first | ((with_reducible refine HW1.out.mono ?_); rintro e w' ⟨rfl, rfl⟩) | ((with_reducible refine HWI.out.mono ?_); rintro e w' ⟨rfl, rfl⟩)) | (go_at_call 30; refine HOU.out.mono ?_; rintro e w' ⟨rfl, rfl⟩))
        go_loopg [8] n (fun g v w' => w' = wo ∧ ∃ k : Nat, v = .int .i64 (k : Int) ∧ k + g = n + 1 ∧ 1 ≤ k)
        case atStart => exact ⟨rfl, 1, rfl, by omega, by omega⟩
        case round =>
          obtain ⟨rfl, k, rfl, hk, hk1⟩ := hrel
          by_cases hkn : k ≤ n
          · have hhk : st.has (k : Int) = true := St.has_iff.2 ⟨by omega, by rw [HN1.out]; omega⟩
            have hwk := s_within HS.out (i : Int) (k : Int)
            have hwo := s_within HS.out oi (k : Int)
            have hlaw := St.nest_law HG.out HHI.out hhk
            rw [HOI.out] at hlaw
            have k2 : (k : Int) ≤ (n : Int) := by omega
            by_cases hik : i = k
            · subst hik
              clear hwk hwo hlaw hhk hkn
              go_wp2_with (first | (go_at_call 27; refine HWI.out.mono ?_; rintro e w' ⟨rfl, rfl⟩))
              go_roundg (gk - 1)
              case measure => omega
              case rel => exact ⟨rfl, i + 1, by go_num, by omega, by omega⟩
            · have hb3 : ((i : Int) == (k : Int)) = false := beq_eq_false_iff_ne.2 (by omega)
              have hb4 : (i == k) = false := by simpa using hik
              rw [decide_eq_false (show ¬ (i : Int) = (k : Int) by omega), decide_eq_true i3, Bool.false_or, Bool.true_and] at hlaw
              rw [hlaw] at hwk
              cases hb : st.Within oi (k : Int) with
              | false =>
                rw [hb] at hwk hwo
                have HWK := Aside0.mk hwk
                have HWO := Aside0.mk hwo
                clear hwk hwo hlaw hhk hkn hb
                by_cases hki : i < k
                · have hb5 : decide ((i : Int) < (k : Int)) = true := decide_eq_true (by omega)
                  go_wp2_with (first | (go_at_call 27; first | ((with_reducible refine HWK.out.mono ?_); rintro e w' ⟨rfl, rfl⟩) | ((with_reducible refine HWO.out.mono ?_); rintro e w' ⟨rfl, rfl⟩)) | (go_at_call 30; refine HOU.out.mono ?_; rintro e w' ⟨rfl, rfl⟩))
                  go_roundg (gk - 1)
                  case measure => omega
                  case rel => exact ⟨rfl, k + 1, by go_num, by omega, by omega⟩
                · have hb5 : decide ((i : Int) < (k : Int)) = false := decide_eq_false (by omega)
                  go_wp2_with (first | (go_at_call 27; first | ((with_reducible refine HWK.out.mono ?_); rintro e w' ⟨rfl, rfl⟩) | ((with_reducible refine HWO.out.mono ?_); rintro e w' ⟨rfl, rfl⟩)) | (go_at_call 30; refine HOU.out.mono ?_; rintro e w' ⟨rfl, rfl⟩))
                  go_roundg (gk - 1)
                  case measure => omega
                  case rel => exact ⟨rfl, k + 1, by go_num, by omega, by omega⟩
              | true =>
                have hki : ¬ i < k := fun h => by
                  rw [St.within_gt HG.out (show oi < (k : Int) by omega)] at hb
                  cases hb
                rw [hb] at hwk hwo
                have HWK := Aside0.mk hwk
                have HWO := Aside0.mk hwo
                have hb5 : decide ((i : Int) < (k : Int)) = false := decide_eq_false (by omega)
                clear hwk hwo hlaw hhk hkn hb
                go_wp2_with (first | (go_at_call 27; first | ((with_reducible refine HWK.out.mono ?_); rintro e w' ⟨rfl, rfl⟩) | ((with_reducible refine HWO.out.mono ?_); rintro e w' ⟨rfl, rfl⟩)) | (go_at_call 30; refine HOU.out.mono ?_; rintro e w' ⟨rfl, rfl⟩))
                go_roundg (gk - 1)
                case measure => omega
                case rel => exact ⟨rfl, k + 1, by go_num, by omega, by omega⟩
          · obtain rfl : k = n + 1 := by omega
            have j4 : (n : Int) < ((n + 1 : Nat) : Int) := by omega
            clear hkn
            go_wp2_with fail
            go_roundg (go - 1)
            case measure => omega
            case rel => exact ⟨rfl, i + 1, by go_num, by omega, by omega⟩
    · obtain rfl : i = n + 1 := by omega
      have j4 : (n : Int) < ((n + 1 : Nat) : Int) := by omega
      clear hin
      have hzp := fun w => z_put 1 (⟨1, xN, 0, 0, 0, 0, 0, 0, false, ByteArray.empty, 0, 0, 0⟩ : Ob) w
      unfold Ob.val xN at hzp
      have HZP := Aside0.mk hzp
      have hzc := fun w => z_change 1 Ob.zero w
      unfold Ob.val Ob.zero at hzc
      have HZC := Aside0.mk hzc
      have hzo := fun w => z_object 1 w
      unfold Ob.val Ob.zero at hzo
      have HZO := Aside0.mk hzo
      clear hzp hzc hzo
      go_wp2_with (first | (go_at_call 35; refine (z_open _ _).mono ?_; rintro e w' ⟨rfl, rfl⟩) | (go_at_call 26; refine Stand.stop ?_))
      refine Stand.go ?_
      refine (HZP.out _).mono ?_
      rintro e w5 ⟨rfl, hb5⟩
      have HB5 := Aside0.mk (below_then HB2.out HB2.out.size hb5)
      clear hb5
      go_wp2_with (first | (go_at_call 25; refine (z_find _ _ _).mono ?_; rintro e w' ⟨rfl, rfl⟩) | (go_at_call 33; refine (z_here _ _ _).mono ?_; rintro e w' ⟨rfl, rfl⟩) | (go_at_call 36; refine Stand.stop ?_))
      refine Stand.go ?_
      refine (HZC.out _).mono ?_
      rintro e w6 ⟨rfl, hb6⟩
      have HB6 := Aside0.mk (below_then HB5.out HB5.out.size hb6)
      clear hb6
      go_wp2_with (first | (go_at_call 28; refine (z_len _).mono ?_; rintro e w' ⟨rfl, rfl⟩) | (go_at_call 30; refine (z_outer _ _).mono ?_; rintro e w' ⟨rfl, rfl⟩) | (go_at_call 27; refine (z_within _ _ _).mono ?_; rintro e w' ⟨rfl, rfl⟩) | (go_at_call 29; refine Stand.stop ?_))
      refine Stand.go ?_
      refine (HZO.out _).mono ?_
      rintro e w7 ⟨rfl, hb7⟩
      have HB7 := Aside0.mk (below_then HB6.out HB6.out.size hb7)
      clear hb7
      go_wp2_with fail
      go_ret
      exact ⟨rfl, HB7.out⟩
end Go.Proofs.Ytnmahbpkaocjdaa
