/-
  Scopes: the program's calls that only read.
-/
import Derived.Test.YtnmahbpkaocjdaaScopeB
import Derived.Deep.QuietTactic
import Derived.BigQuiet
set_option linter.unusedVariables false
namespace Go.Proofs.Ytnmahbpkaocjdaa
open Go.RowKit Go.Proofs.YtnmahbpkaocjdaaW.PrintWords

section
variable {w0 w : World} {F : Nat → Prop} {sb : Nat} {st : St}

theorem s_has (h : SRep w0 w F sb st) (i : Int) : Calls Try.prog 44 #[.pointer (some ⟨sb, 0, none⟩), .int .i64 i] w fun e w' => e = .returned (.bool (st.has i)) ∧ w = w' := by
  obtain ⟨_, col, hI, _⟩ := h
  obtain ⟨A1, c1, A2, c2, mb, x0, _⟩ := hI.cells
  clear hI
  unfold St.has
  by_cases h1 : 1 ≤ i
  · go_enter Try.func44, Try.ntmps44
    go_wp2
    go_ret
    exact ⟨by simp [h1], rfl⟩
  · go_enter Try.func44, Try.ntmps44
    go_wp2
    go_ret
    exact ⟨by simp; omega, rfl⟩
theorem s_has_t (h : SRep w0 w F sb st) (i : Int) (hh : st.has i = true) : Calls Try.prog 44 #[.pointer (some ⟨sb, 0, none⟩), .int .i64 i] w fun e w' => e = .returned (.bool true) ∧ w = w' := by
  have := s_has h i
  rw [hh] at this
  exact this
theorem s_has_f (h : SRep w0 w F sb st) (i : Int) (hh : st.has i = false) : Calls Try.prog 44 #[.pointer (some ⟨sb, 0, none⟩), .int .i64 i] w fun e w' => e = .returned (.bool false) ∧ w = w' := by
  have := s_has h i
  rw [hh] at this
  exact this

def St.holds (st : St) (i : Int) : Bool := decide (1 ≤ i) && decide (i < (st.objs.length : Int))
theorem s_holds (h : SRep w0 w F sb st) (i : Int) : Calls Try.prog 46 #[.pointer (some ⟨sb, 0, none⟩), .int .i64 i] w fun e w' => e = .returned (.bool (st.holds i)) ∧ w = w' := by
  obtain ⟨_, col, hI, _⟩ := h
  obtain ⟨A1, c1, A2, c2, mb, _, x0, _⟩ := hI.cells
  clear hI
  unfold St.holds
  by_cases h1 : 1 ≤ i
  · go_enter Try.func46, Try.ntmps46
    go_wp2
    go_ret
    exact ⟨by simp [h1], rfl⟩
  · go_enter Try.func46, Try.ntmps46
    go_wp2
    go_ret
    exact ⟨by simp; omega, rfl⟩
theorem s_holds_t (h : SRep w0 w F sb st) (i : Int) (hh : st.holds i = true) : Calls Try.prog 46 #[.pointer (some ⟨sb, 0, none⟩), .int .i64 i] w fun e w' => e = .returned (.bool true) ∧ w = w' := by
  have := s_holds h i
  rw [hh] at this
  exact this
theorem s_holds_f (h : SRep w0 w F sb st) (i : Int) (hh : st.holds i = false) : Calls Try.prog 46 #[.pointer (some ⟨sb, 0, none⟩), .int .i64 i] w fun e w' => e = .returned (.bool false) ∧ w = w' := by
  have := s_holds h i
  rw [hh] at this
  exact this

def isKindB (k : Int) : Bool := decide (1 ≤ k) && decide (k ≤ 9)
theorem s_isKind (w : World) (k : Int) : Calls Try.prog 45 #[.int .i64 k] w fun e w' => e = .returned (.bool (isKindB k)) ∧ w = w' := by
  unfold isKindB
  by_cases h1 : 1 ≤ k
  · go_enter Try.func45, Try.ntmps45
    go_wp2
    go_ret
    exact ⟨by simp [h1], rfl⟩
  · go_enter Try.func45, Try.ntmps45
    go_wp2
    go_ret
    exact ⟨by simp; omega, rfl⟩

theorem s_len (h : SRep w0 w F sb st) : Calls Try.prog 28 #[.pointer (some ⟨sb, 0, none⟩)] w fun e w' => e = .returned (.int .i64 ((st.objs.length : Int) - 1)) ∧ w = w' := by
  obtain ⟨g, col, hI, _⟩ := h
  obtain ⟨A1, c1, A2, c2, mb, _, x0, _⟩ := hI.cells
  have h1 := g.pos
  have h2 := g.few2
  clear hI g
  go_enter Try.func28, Try.ntmps28
  go_wp2
  go_ret
  exact ⟨rfl, rfl⟩

theorem s_outer (h : SRep w0 w F sb st) (i : Int) : Calls Try.prog 30 #[.pointer (some ⟨sb, 0, none⟩), .int .i64 i] w fun e w' => e = .returned (.int .i64 (if st.has i = true then st.out i else 0)) ∧ w = w' := by
  by_cases hh : st.has i = true
  · have hi := St.has_iff.1 hh
    have hd := h
    obtain ⟨g, col, hI, _⟩ := hd
    obtain ⟨A1, c1, A2, c2, mb, x0, _, _, hc, _⟩ := hI.cells
    obtain ⟨lb, rfl, y0⟩ := hc i.toNat (by omega)
    obtain ⟨k, rfl⟩ : ∃ k : Nat, i = (k : Int) := ⟨i.toNat, by omega⟩
    rw [Int.toNat_natCast] at y0
    rw [if_pos hh]
    have hf := g.few1
    have HI := Aside0.mk h
    have HH := Aside0.mk hh
    obtain ⟨h1, h2⟩ := hi
    have h0 : (0 : Int) ≤ (k : Int) := by omega
    clear hI g hc h hh
    go_enter Try.func30, Try.ntmps30
    go_wp2_with (go_at_call 44; refine (s_has_t HI.out _ HH.out).mono ?_; rintro e w' ⟨rfl, rfl⟩)
    go_ret
    exact ⟨rfl, rfl⟩
  · have hh' : st.has i = false := by simpa using hh
    rw [if_neg hh]
    have HI := Aside0.mk h
    have HH := Aside0.mk hh'
    clear h hh hh'
    go_enter Try.func30, Try.ntmps30
    go_wp2_with (go_at_call 44; refine (s_has_f HI.out _ HH.out).mono ?_; rintro e w' ⟨rfl, rfl⟩)
    go_ret
    exact ⟨rfl, rfl⟩

theorem zero3 (w : World) : (zeroValue 3).run Try.prog w = .ok (.int .i64 0) w := by kernel_rfl

theorem s_here (h : SRep w0 w F sb st) (i : Int) (nm : ByteArray) (hn : nm.size ≤ maxLen) :
    Calls Try.prog 33 #[.pointer (some ⟨sb, 0, none⟩), .int .i64 i, .string nm] w fun e w' => e = .returned (.tuple #[.int .i64 (st.here i nm : Int), .bool (!decide (st.here i nm = 0))]) ∧ w = w' := by
  by_cases hh : st.has i = true
  · have hd := h
    obtain ⟨g, col, hI, _⟩ := hd
    obtain ⟨A1, c1, A2, c2, mb, x0, x1, x2, _, _, n, D, hown, hnl, hv⟩ := hI.cells
    have hi := St.has_iff.1 hh
    have hf := g.few1
    obtain ⟨kl, hkl⟩ := keyed105 i (WalkArith.wf_i64 (by omega)) nm hn
    obtain ⟨v1, v2⟩ := hv i nm kl hkl
    have HOWN := Aside0.mk hown
    have HKL := Aside0.mk hkl
    have HV1 := Aside0.mk v1
    have HV2 := Aside0.mk v2
    have HI := Aside0.mk h
    have HH := Aside0.mk hh
    clear hI g h hh hown hkl v1 v2 hv x0 x1 hnl hi hf
    go_enter Try.func33, Try.ntmps33
    go_wp2_with (first | (go_at_call 44; refine (s_has_t HI.out _ HH.out).mono ?_; rintro e w' ⟨rfl, rfl⟩) | (at_lookup; refine wpList_lookup_own_ok_int _ rfl _ _ 101 rfl 105 3 .i64 law105 Try.underlying101 Try.underlying3 (zero3 _) mb n D rfl HOWN.out _ _ rfl HKL.out ?_; intro c hat hwc; rw [HV1.out]; obtain rfl : c = (st.here i nm : Int) := by { rw [HV2.out] at hat; injection hat with hat; injection hat with _ hat; exact hat.symm }; clear hat hwc))
    go_ret2
    exact ⟨by simp, rfl⟩
  · have hh' : st.has i = false := by simpa using hh
    rw [St.here_out h.1 nm hh']
    have HI := Aside0.mk h
    have HH := Aside0.mk hh'
    clear h hh hh'
    go_enter Try.func33, Try.ntmps33
    go_wp2_with (go_at_call 44; refine (s_has_f HI.out _ HH.out).mono ?_; rintro e w' ⟨rfl, rfl⟩)
    go_ret2
    exact ⟨by simp, rfl⟩
theorem s_here_t (h : SRep w0 w F sb st) (i : Int) (nm : ByteArray) (hn : nm.size ≤ maxLen) (hh : st.here i nm ≠ 0) :
    Calls Try.prog 33 #[.pointer (some ⟨sb, 0, none⟩), .int .i64 i, .string nm] w fun e w' => e = .returned (.tuple #[.int .i64 (st.here i nm : Int), .bool true]) ∧ w = w' := by
  have := s_here h i nm hn
  rw [decide_eq_false hh] at this
  exact this
theorem s_here_f (h : SRep w0 w F sb st) (i : Int) (nm : ByteArray) (hn : nm.size ≤ maxLen) (hh : st.here i nm = 0) :
    Calls Try.prog 33 #[.pointer (some ⟨sb, 0, none⟩), .int .i64 i, .string nm] w fun e w' => e = .returned (.tuple #[.int .i64 0, .bool false]) ∧ w = w' := by
  have := s_here h i nm hn
  rw [decide_eq_true hh, hh] at this
  exact this

/-- The walk outwards: the fuel serves. -/
theorem St.find_out (st : St) (nm : ByteArray) (f : Nat) (i : Int) (h : st.has i = false) : st.find nm f i = (0, 0) := by
  cases f with
  | zero => rfl
  | succ f => unfold St.find; rw [h]; rfl

theorem s_find (h : SRep w0 w F sb st) (i : Int) (nm : ByteArray) (hn : nm.size ≤ maxLen) :
    Calls Try.prog 25 #[.pointer (some ⟨sb, 0, none⟩), .int .i64 i, .string nm] w fun e w' => e = .returned (.tuple #[.int .i64 (st.Find i nm).1, .int .i64 (st.Find i nm).2, .bool (!decide ((st.Find i nm).1 = 0))]) ∧ w = w' := by
  have hd := h
  obtain ⟨g, col, hI, _⟩ := hd
  obtain ⟨A1, c1, A2, c2, mb, x0, _, _, hc, _⟩ := hI.cells
  have HI := Aside0.mk h
  have HG := Aside0.mk g
  have HC := Aside0.mk hc
  have hf := g.few1
  obtain ⟨R, hR⟩ : ∃ R, R = st.Find i nm := ⟨_, rfl⟩
  rw [← hR]
  have HR := Aside0.mk hR
  have HF0 : Aside0 (st.find nm st.outer.length i = R) := ⟨hR.symm⟩
  have HL0 : Aside0 (st.has i = true → i < (st.outer.length : Int)) := ⟨fun h => (St.has_iff.1 h).2⟩
  clear hI g h hc hR HR
  go_enter Try.func25, Try.ntmps25
  go_wp2_with fail
  go_loopg [1] st.outer.length (fun g v w' => w' = w ∧ ∃ j : Int, v = .int .i64 j ∧ Aside0 (st.find nm g j = R) ∧ Aside0 (st.has j = true → j < (g : Int)))
  case atStart => exact ⟨rfl, i, rfl, HF0, HL0⟩
  case round =>
    obtain ⟨rfl, j, rfl, hF, hL⟩ := hrel
    clear HF0 HL0
    by_cases hh : st.has j = true
    · have hj := St.has_iff.1 hh
      have hL' := hL.out hh
      obtain ⟨g', rfl⟩ : ∃ g', gk = g' + 1 := ⟨gk - 1, by omega⟩
      have hF' := hF.out
      unfold St.find at hF'
      rw [if_pos hh] at hF'
      have HH := Aside0.mk hh
      by_cases he : st.here j nm = 0
      · rw [if_neg (by simp [he])] at hF'
        obtain ⟨lb, rfl, y0⟩ := HC.out j.toNat (by omega)
        obtain ⟨k, rfl⟩ : ∃ k : Nat, j = (k : Int) := ⟨j.toNat, by omega⟩
        rw [Int.toNat_natCast] at y0
        have HF2 := Aside0.mk hF'
        have HE := Aside0.mk he
        have hlt := St.out_lt HG.out hh
        have h0 : (0 : Int) ≤ (k : Int) := by omega
        obtain ⟨hj1, hj2⟩ := hj
        have HLT := Aside0.mk hlt
        clear he hF' hh hF hL hlt
        go_wp2_with (first | (go_at_call 44; refine (s_has_t HI.out _ HH.out).mono ?_; rintro e w' ⟨rfl, rfl⟩) | (go_at_call 33; refine (s_here_f HI.out _ _ hn HE.out).mono ?_; rintro e w' ⟨rfl, rfl⟩))
        go_roundg g'
        case measure => omega
        case rel => exact ⟨rfl, _, rfl, HF2, ⟨fun _ => by have := HLT.out; omega⟩⟩
      · rw [if_pos (by simpa using he)] at hF'
        obtain rfl := hF'.symm
        have HE := Aside0.mk he
        clear he hF' hh hF hL
        go_wp2_with (first | (go_at_call 44; refine (s_has_t HI.out _ HH.out).mono ?_; rintro e w' ⟨rfl, rfl⟩) | (go_at_call 33; refine (s_here_t HI.out _ _ hn HE.out).mono ?_; rintro e w' ⟨rfl, rfl⟩))
        go_ret3
        exact ⟨by have he := HE.out; simp [he], rfl⟩
    · have hh' : st.has j = false := by simpa using hh
      have hF' := hF.out
      rw [St.find_out st nm gk j hh'] at hF'
      obtain rfl := hF'.symm
      have HH := Aside0.mk hh'
      clear hh hh' hF' hF hL
      go_wp2_with (first | (go_at_call 44; refine (s_has_f HI.out _ HH.out).mono ?_; rintro e w' ⟨rfl, rfl⟩))
      go_ret3
      exact ⟨by simp, rfl⟩

theorem s_within (h : SRep w0 w F sb st) (i k : Int) :
    Calls Try.prog 27 #[.pointer (some ⟨sb, 0, none⟩), .int .i64 i, .int .i64 k] w fun e w' => e = .returned (.bool (st.Within i k)) ∧ w = w' := by
  by_cases hk : st.has k = true
  · have hd := h
    obtain ⟨g, col, hI, _⟩ := hd
    obtain ⟨A1, c1, A2, c2, mb, x0, _, _, hc, _⟩ := hI.cells
    have HI := Aside0.mk h
    have HG := Aside0.mk g
    have HC := Aside0.mk hc
    have hf := g.few1
    have HK := Aside0.mk hk
    unfold St.Within
    rw [hk, Bool.true_and]
    obtain ⟨R, hR⟩ : ∃ R, R = st.win k st.outer.length i := ⟨_, rfl⟩
    rw [← hR]
    have HF0 : Aside0 (st.win k st.outer.length i = R) := ⟨hR.symm⟩
    have HL0 : Aside0 (st.has i = true → i < (st.outer.length : Int)) := ⟨fun h => (St.has_iff.1 h).2⟩
    clear hI g h hc hR hk
    go_enter Try.func27, Try.ntmps27
    go_wp2_with (first | (go_at_call 44; refine (s_has_t HI.out _ HK.out).mono ?_; rintro e w' ⟨rfl, rfl⟩))
    go_loopg [1] st.outer.length (fun g v w' => w' = w ∧ ∃ j : Int, v = .int .i64 j ∧ Aside0 (st.win k g j = R) ∧ Aside0 (st.has j = true → j < (g : Int)))
    case atStart => exact ⟨rfl, i, rfl, HF0, HL0⟩
    case round =>
      obtain ⟨rfl, j, rfl, hF, hL⟩ := hrel
      clear HF0 HL0
      by_cases hh : st.has j = true
      · have hj := St.has_iff.1 hh
        have hL' := hL.out hh
        obtain ⟨g', rfl⟩ : ∃ g', gk = g' + 1 := ⟨gk - 1, by omega⟩
        have hF' := hF.out
        unfold St.win at hF'
        have HH := Aside0.mk hh
        by_cases he : j = k
        · subst he
          rw [if_neg (by simp)] at hF'
          have hr : R = true := by rw [← hF']; simp
          subst hr
          clear hF' hh hF hL
          go_wp2_with (first | (go_at_call 44; refine (s_has_t HI.out _ HH.out).mono ?_; rintro e w' ⟨rfl, rfl⟩))
          go_ret
          exact ⟨rfl, rfl⟩
        · rw [if_pos ⟨hh, he⟩] at hF'
          have heb : (j == k) = false := by simpa using he
          obtain ⟨lb, rfl, y0⟩ := HC.out j.toNat (by omega)
          obtain ⟨k', rfl⟩ : ∃ k : Nat, j = (k : Int) := ⟨j.toNat, by omega⟩
          rw [Int.toNat_natCast] at y0
          have HF2 := Aside0.mk hF'
          have hlt := St.out_lt HG.out hh
          have h0 : (0 : Int) ≤ (k' : Int) := by omega
          obtain ⟨hj1, hj2⟩ := hj
          have HLT := Aside0.mk hlt
          clear hF' hh hF hL hlt
          go_wp2_with (first | (go_at_call 44; refine (s_has_t HI.out _ HH.out).mono ?_; rintro e w' ⟨rfl, rfl⟩))
          go_roundg g'
          case measure => omega
          case rel => exact ⟨rfl, _, rfl, HF2, ⟨fun _ => by have := HLT.out; omega⟩⟩
      · have hh' : st.has j = false := by simpa using hh
        have hne : ¬ j = k := fun he => by rw [he, HK.out] at hh'; cases hh'
        have hF' := hF.out
        have hr : R = false := by
          rw [← hF']
          cases gk with
          | zero => simp [St.win, hne]
          | succ n => simp [St.win, hh', hne]
        subst hr
        have HH := Aside0.mk hh'
        clear hh hh' hF' hF hL
        go_wp2_with (first | (go_at_call 44; refine (s_has_f HI.out _ HH.out).mono ?_; rintro e w' ⟨rfl, rfl⟩))
        go_ret
        exact ⟨by simp [hne], rfl⟩
  · have hk' : st.has k = false := by simpa using hk
    have HI := Aside0.mk h
    have HH := Aside0.mk hk'
    unfold St.Within
    rw [hk', Bool.false_and]
    clear h hk hk'
    go_enter Try.func27, Try.ntmps27
    go_wp2_with (go_at_call 44; refine (s_has_f HI.out _ HH.out).mono ?_; rintro e w' ⟨rfl, rfl⟩)
    go_ret
    exact ⟨rfl, rfl⟩
end
end Go.Proofs.Ytnmahbpkaocjdaa
