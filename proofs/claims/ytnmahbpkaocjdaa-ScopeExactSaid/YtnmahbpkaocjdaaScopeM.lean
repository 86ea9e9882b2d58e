/-
  Scopes: the document's Find and Within.
-/
import Derived.Test.YtnmahbpkaocjdaaScopeL
set_option linter.unusedVariables false
namespace Go.Proofs.Ytnmahbpkaocjdaa
open Go.RowKit Go.Proofs.YtnmahbpkaocjdaaW.PrintWords

section
variable {w0 w : World} {F : Nat → Prop} {ub : Nat} {st : St}

theorem u_find (h : USc w0 w F ub st) (i : Int) (nm : ByteArray) :
    Calls Try.prog 32 #[.pointer (some ⟨ub, 0, none⟩), .int .i64 i, .string nm] w fun e w' => e = .returned (.tuple #[.int .i64 (st.Find i nm).1, .int .i64 (st.Find i nm).2]) ∧ w = w' := by
  by_cases h0 : st.has i = true
  · have hd := h
    obtain ⟨g, col, hI, _⟩ := hd
    obtain ⟨A1, c1, A3, c3, A2, c2, x0, _, _, hc, _⟩ := hI.cells
    have HI := Aside0.mk h
    have HG := Aside0.mk g
    have HC := Aside0.mk hc
    have H0 := Aside0.mk h0
    have hf := g.few1
    obtain ⟨R, hR⟩ : ∃ R, R = st.Find i nm := ⟨_, rfl⟩
    rw [← hR]
    have HF0 : Aside0 (st.find nm st.outer.length i = R) := ⟨hR.symm⟩
    have HL0 : Aside0 (st.has i = true → i < (st.outer.length : Int)) := ⟨fun h => (St.has_iff.1 h).2⟩
    have HZ0 : Aside0 (i = 0 ∨ st.has i = true) := ⟨.inr h0⟩
    clear hI g h hc hR h0
    go_enter Try.func32, Try.ntmps32
    go_wp2_with (first | (go_at_call 47; refine (u_has_t HI.out _ H0.out).mono ?_; rintro e w' ⟨rfl, rfl⟩))
    go_loopg [1] st.outer.length (fun g v w' => w' = w ∧ ∃ j : Int, v = .int .i64 j ∧ Aside0 (st.find nm g j = R) ∧ Aside0 (st.has j = true → j < (g : Int)) ∧ Aside0 (j = 0 ∨ st.has j = true))
    case atStart => exact ⟨rfl, i, rfl, HF0, HL0, HZ0⟩
    case round =>
      obtain ⟨rfl, j, rfl, hF, hL, hZ⟩ := hrel
      clear HF0 HL0 HZ0
      by_cases hh : st.has j = true
      · have hj := St.has_iff.1 hh
        have hL' := hL.out hh
        obtain ⟨g', rfl⟩ : ∃ g', gk = g' + 1 := ⟨gk - 1, by omega⟩
        have hF' := hF.out
        unfold St.find at hF'
        rw [if_pos hh] at hF'
        have HH := Aside0.mk hh
        have hjz : (j == 0) = false := by simp; omega
        have hjn : ¬ j = 0 := by omega
        by_cases he : st.here j nm = 0
        · rw [if_neg (by simp [he])] at hF'
          obtain ⟨lb, rfl, y0⟩ := HC.out j.toNat (by omega)
          obtain ⟨k, rfl⟩ : ∃ k : Nat, j = (k : Int) := ⟨j.toNat, by omega⟩
          rw [Int.toNat_natCast] at y0
          have HF2 := Aside0.mk hF'
          have hlt := St.out_lt HG.out hh
          have hout := St.has_out HG.out hh
          have h0 : (0 : Int) ≤ (k : Int) := by omega
          obtain ⟨hj1, hj2⟩ := hj
          have HLT := Aside0.mk hlt
          have HOUT : Aside0 (st.out (k : Int) = 0 ∨ st.has (st.out (k : Int)) = true) := ⟨hout.elim (fun h => .inl h.1) (fun h => .inr h.1)⟩
          have hcall := u_here HI.out (k : Int) nm
          rw [he] at hcall
          have HCALL := Aside0.mk hcall
          clear he hF' hh hF hL hlt hZ hout hcall
          go_wp2_with (first | (go_at_call 34; refine HCALL.out.mono ?_; rintro e w' ⟨rfl, rfl⟩))
          go_roundg g'
          case measure => omega
          case rel => exact ⟨rfl, _, rfl, HF2, ⟨fun _ => by have := HLT.out; omega⟩, HOUT⟩
        · rw [if_pos (by simpa using he)] at hF'
          obtain rfl := hF'.symm
          have hcall := u_here HI.out j nm
          have hen : ¬ ((st.here j nm : Int) = 0) := by omega
          have heb : ((st.here j nm : Int) == 0) = false := by simpa using he
          have HCALL := Aside0.mk hcall
          have HE := Aside0.mk he
          clear he hF' hh hF hL hZ hcall
          go_wp2_with (first | (go_at_call 34; refine HCALL.out.mono ?_; rintro e w' ⟨rfl, rfl⟩))
          go_ret2
          exact ⟨rfl, rfl⟩
      · have hh' : st.has j = false := by simpa using hh
        have hj0 : j = 0 := hZ.out.elim id (fun h => absurd h hh)
        subst hj0
        have hF' := hF.out
        rw [St.find_out st nm gk 0 hh'] at hF'
        obtain rfl := hF'.symm
        clear hh hh' hF' hF hL hZ
        go_wp2_with fail
        go_ret2
        exact ⟨rfl, rfl⟩
  · have h0' : st.has i = false := by simpa using h0
    have HI := Aside0.mk h
    have H0 := Aside0.mk h0'
    unfold St.Find
    rw [St.find_out st nm _ i h0']
    clear h h0 h0'
    go_enter Try.func32, Try.ntmps32
    go_wp2_with (first | (go_at_call 47; refine (u_has_f HI.out _ H0.out).mono ?_; rintro e w' ⟨rfl, rfl⟩))
    go_ret2
    exact ⟨rfl, rfl⟩

theorem u_within (h : USc w0 w F ub st) (i k : Int) :
    Calls Try.prog 31 #[.pointer (some ⟨ub, 0, none⟩), .int .i64 i, .int .i64 k] w fun e w' => e = .returned (.bool (st.Within i k)) ∧ w = w' := by
  by_cases h0 : st.has i = true
  · by_cases hk : st.has k = true
    · have hd := h
      obtain ⟨g, col, hI, _⟩ := hd
      obtain ⟨A1, c1, A3, c3, A2, c2, x0, _, _, hc, _⟩ := hI.cells
      have HI := Aside0.mk h
      have HG := Aside0.mk g
      have HC := Aside0.mk hc
      have H0 := Aside0.mk h0
      have HK := Aside0.mk hk
      have hkk := St.has_iff.1 hk
      have hf := g.few1
      unfold St.Within
      rw [hk, Bool.true_and]
      obtain ⟨R, hR⟩ : ∃ R, R = st.win k st.outer.length i := ⟨_, rfl⟩
      rw [← hR]
      have HF0 : Aside0 (st.win k st.outer.length i = R) := ⟨hR.symm⟩
      have HL0 : Aside0 (st.has i = true → i < (st.outer.length : Int)) := ⟨fun h => (St.has_iff.1 h).2⟩
      have HZ0 : Aside0 (i = 0 ∨ st.has i = true) := ⟨.inr h0⟩
      clear hI g h hc hR h0 hk
      go_enter Try.func31, Try.ntmps31
      go_wp2_with (first | (go_at_call_of 47 (Value.int IntKind.i64 i); refine (u_has_t HI.out _ H0.out).mono ?_; rintro e w' ⟨rfl, rfl⟩) | (go_at_call 47; refine (u_has_t HI.out _ HK.out).mono ?_; rintro e w' ⟨rfl, rfl⟩))
      go_loopg [1] st.outer.length (fun g v w' => w' = w ∧ ∃ j : Int, v = .int .i64 j ∧ Aside0 (st.win k g j = R) ∧ Aside0 (st.has j = true → j < (g : Int)) ∧ Aside0 (j = 0 ∨ st.has j = true))
      case atStart => exact ⟨rfl, i, rfl, HF0, HL0, HZ0⟩
      case round =>
        obtain ⟨rfl, j, rfl, hF, hL, hZ⟩ := hrel
        clear HF0 HL0 HZ0
        by_cases hh : st.has j = true
        · have hj := St.has_iff.1 hh
          have hL' := hL.out hh
          obtain ⟨g', rfl⟩ : ∃ g', gk = g' + 1 := ⟨gk - 1, by omega⟩
          have hF' := hF.out
          unfold St.win at hF'
          have hjz : (j == 0) = false := by simp; omega
          have hjn : ¬ j = 0 := by omega
          by_cases he : j = k
          · subst he
            rw [if_neg (by simp)] at hF'
            have hr : R = true := by rw [← hF']; simp
            subst hr
            clear hF' hh hF hL hZ
            go_wp2_with fail
            go_ret
            exact ⟨rfl, rfl⟩
          · rw [if_pos ⟨hh, he⟩] at hF'
            have heb : (j == k) = false := by simpa using he
            obtain ⟨lb, rfl, y0⟩ := HC.out j.toNat (by omega)
            obtain ⟨k', rfl⟩ : ∃ k : Nat, j = (k : Int) := ⟨j.toNat, by omega⟩
            rw [Int.toNat_natCast] at y0
            have HF2 := Aside0.mk hF'
            have hlt := St.out_lt HG.out hh
            have hout := St.has_out HG.out hh
            have HOUT : Aside0 (st.out (k' : Int) = 0 ∨ st.has (st.out (k' : Int)) = true) := ⟨hout.elim (fun h => .inl h.1) (fun h => .inr h.1)⟩
            have h0 : (0 : Int) ≤ (k' : Int) := by omega
            have hb1 : ((k' : Int) != 0) = true := by simp; omega
            have hb2 : ((k' : Int) != k) = true := by simp; exact he
            obtain ⟨hj1, hj2⟩ := hj
            have HLT := Aside0.mk hlt
            clear hF' hh hF hL hlt hZ hout
            go_wp2_with fail
            go_roundg g'
            case measure => omega
            case rel => exact ⟨rfl, _, rfl, HF2, ⟨fun _ => by have := HLT.out; omega⟩, HOUT⟩
        · have hh' : st.has j = false := by simpa using hh
          have hj0 : j = 0 := hZ.out.elim id (fun h => absurd h hh)
          subst hj0
          have hne : ¬ (0 : Int) = k := by omega
          have hneb : ((0 : Int) == k) = false := by simp; omega
          have hF' := hF.out
          have hr : R = false := by
            rw [← hF']
            cases gk with
            | zero => simp [St.win, hne]
            | succ n => simp [St.win, hh', hne]
          subst hr
          clear hh hh' hF' hF hL hZ
          go_wp2_with fail
          go_ret
          exact ⟨by simp, rfl⟩
    · have hk' : st.has k = false := by simpa using hk
      have HI := Aside0.mk h
      have H0 := Aside0.mk h0
      have HK := Aside0.mk hk'
      unfold St.Within
      rw [hk', Bool.false_and]
      clear h h0 hk hk'
      go_enter Try.func31, Try.ntmps31
      go_wp2_with (first | (go_at_call_of 47 (Value.int IntKind.i64 i); refine (u_has_t HI.out _ H0.out).mono ?_; rintro e w' ⟨rfl, rfl⟩) | (go_at_call 47; refine (u_has_f HI.out _ HK.out).mono ?_; rintro e w' ⟨rfl, rfl⟩))
      go_ret
      exact ⟨rfl, rfl⟩
  · have h0' : st.has i = false := by simpa using h0
    have HI := Aside0.mk h
    have H0 := Aside0.mk h0'
    have hW : st.Within i k = false := by
      unfold St.Within
      by_cases hk : st.has k = true
      · have hne : ¬ i = k := fun he => by rw [he, hk] at h0'; cases h0'
        rw [hk, Bool.true_and]
        cases hl : st.outer.length with
        | zero => simp [St.win, hne]
        | succ n => simp [St.win, h0', hne]
      · have hk' : st.has k = false := by simpa using hk
        rw [hk', Bool.false_and]
    rw [hW]
    clear h h0 h0' hW
    go_enter Try.func31, Try.ntmps31
    go_wp2_with (first | (go_at_call 47; refine (u_has_f HI.out _ H0.out).mono ?_; rintro e w' ⟨rfl, rfl⟩))
    go_ret
    exact ⟨rfl, rfl⟩
end
end Go.Proofs.Ytnmahbpkaocjdaa
