-- Walks: printed by a program (wip/tools) with the printer of the kit; contracts that it lacked are typed by hand.
import Derived.Test.YtikipnbdccbnfaaGL0
namespace Go.Proofs.Ytikipnbdccbnfaa.GL
open Go.RowKit Go.Proofs.YtikipnbdccbnfaaW.PrintWords Go.Proofs.YtikipnbdccbnfaaW.PrintLast Go.Proofs.YtikipnbdccbnfaaW.PrintMore
attribute [local go_sem] max2_int min2_int max_two min_two max_three min_three max_four min_four   -- for this text's walks alone
set_option linter.unusedVariables false
set_option linter.unusedSimpArgs false

/-! ### lattice_Good (typed by hand) -/

/-- The walk stands here. -/
def Stand (p : Prop) : Prop := p
theorem Stand.stop {p : Prop} (h : Stand p) : p := h
theorem Stand.go {p : Prop} (h : p) : Stand p := h
def goodB (a0 a1 : Int) (b : Bool) (l : List Int) : Bool :=
  if a0 = 1 ∨ a0 = 2 then (if b = true then decide ((l.length : Int) = a1) && l.all (fun c => decide (0 ≤ c) && decide (c ≤ if a0 = 2 then 1 else 3)) else decide (l.length = 0)) else false
def lattice_Good.f (_k : Nat) (a0 : Int) (a1 : Int) (a2_0 : Bool) (l2_1 : List Int) : Option (Bool) := some (goodB a0 a1 a2_0 l2_1)
theorem lattice_Good.mono : ∀ a0 a1 a2 a3 k, LeO (lattice_Good.f k a0 a1 a2 a3) (lattice_Good.f (k + 1) a0 a1 a2 a3) := fun _ _ _ _ _ => LeO.refl _

theorem greatest_any (w : World) (a : Int) : Calls Try.prog 61 #[.int .i64 a] w fun e w' => e = .returned (.int .i64 (if a = 2 then 1 else 3)) ∧ w = w' := by
  by_cases h : a = 2
  · have hb : (a == 2) = true := by simpa using h
    subst h
    go_enter Try.func61, Try.ntmps61
    go_wp2_with fail
    go_ret
    exact ⟨rfl, rfl⟩
  · have hb : (a == 2) = false := by simpa using h
    rw [if_neg h]
    go_enter Try.func61, Try.ntmps61
    go_wp2_with fail
    go_ret
    exact ⟨rfl, rfl⟩
/-- The predicate: whether a cell is none of the tag's. -/
def badC (a c : Int) : Bool := decide (c < 0) || decide ((if a = 2 then 1 else 3) < c)
theorem bad_walk (w : World) (b : Nat) (a c : Int) (hc : w.cell? ⟨b, 0, none⟩ = some (.int .i64 a)) : Calls Try.prog 60 #[.int .i64 c, .pointer (some ⟨b, 0, none⟩)] w fun e w' => e = .returned (.bool (badC a c)) ∧ w = w' := by
  unfold badC
  generalize hg : (if a = 2 then (1 : Int) else 3) = g
  have hga : Aside0 (∀ w, Calls Try.prog 61 #[.int .i64 a] w fun e w' => e = .returned (.int .i64 g) ∧ w = w') := ⟨fun w => by rw [← hg]; exact greatest_any w a⟩
  clear hg
  by_cases h : c < 0
  · have hb : decide (c < 0) = true := by simpa using h
    have H := Aside0.mk h
    clear h
    go_enter Try.func60, Try.ntmps60
    go_wp2_with (go_at_call 61; refine (hga.out _).mono ?_; rintro e w' ⟨rfl, rfl⟩)
    go_ret
    have h' := H.out
    exact ⟨by simp; omega, rfl⟩
  · have hb : decide (c < 0) = false := by simpa using h
    have H := Aside0.mk h
    clear h
    go_enter Try.func60, Try.ntmps60
    go_wp2_with (go_at_call 61; refine (hga.out _).mono ?_; rintro e w' ⟨rfl, rfl⟩)
    go_ret
    have h' := H.out
    exact ⟨by simp; omega, rfl⟩
theorem bad_walk_t (w : World) (b : Nat) (a c : Int) (hc : w.cell? ⟨b, 0, none⟩ = some (.int .i64 a)) (h : badC a c = true) : Calls Try.prog 60 #[.int .i64 c, .pointer (some ⟨b, 0, none⟩)] w fun e w' => e = .returned (.bool true) ∧ w = w' := by
  have := bad_walk w b a c hc
  rwa [h] at this
theorem bad_walk_f (w : World) (b : Nat) (a c : Int) (hc : w.cell? ⟨b, 0, none⟩ = some (.int .i64 a)) (h : badC a c = false) : Calls Try.prog 60 #[.int .i64 c, .pointer (some ⟨b, 0, none⟩)] w fun e w' => e = .returned (.bool false) ∧ w = w' := by
  have := bad_walk w b a c hc
  rwa [h] at this

theorem row_int {w : World} {A : Option Addr} {n : Nat} {L : List Int} (h : Kd.C (Kd.int .i64) w A n L) (hn : 0 < n) :
    ∃ b o, A = some ⟨b, o, none⟩ ∧ ∀ k : Nat, k < n → w.cell? ⟨b, o + k, none⟩ = some (.int .i64 (L.getD k 0)) := by
  obtain ⟨ad, hA, h0⟩ := Kd.at_int h 0 (by omega) (by omega)
  have hsp : ad.spot = none := by
    obtain ⟨b, o, s⟩ := ad
    cases s with
    | none => rfl
    | some s => simp [Addr.add, World.cell?] at h0; split at h0 <;> simp at h0
  obtain ⟨b, o, s⟩ := ad
  subst hsp
  refine ⟨b, o, hA, fun k hk => ?_⟩
  obtain ⟨ad2, hA2, hc⟩ := Kd.at_int h (k : Int) (by omega) (by omega)
  rw [hA] at hA2
  injection hA2 with hA2
  subst hA2
  rw [add_at, Int.toNat_natCast] at hc
  rw [hc]
  simp [rd, rdOf, List.getD_eq_getElem?_getD]

def Found (w : World) (p : Int → Bool) (l : List Int) (e : Ending) (w' : World) : Prop := ∃ r : Int, e = .returned (.int .i64 r) ∧ w = w' ∧ (decide (0 ≤ r) = l.any p)
theorem any_of_take {p : Int → Bool} {l : List Int} (h : ∀ j, j < l.length → p (l.getD j 0) = false) : l.any p = false := by
  rw [List.any_eq_false]
  intro x hx
  obtain ⟨j, hj, rfl⟩ := List.getElem_of_mem hx
  have := h j hj
  rw [List.getD_eq_getElem?_getD, List.getElem?_eq_getElem hj] at this
  simpa using this
theorem any_at {p : Int → Bool} {l : List Int} (j : Nat) (hj : j < l.length) (h : p (l.getD j 0) = true) : l.any p = true := by
  rw [List.any_eq_true]
  rw [List.getD_eq_getElem?_getD, List.getElem?_eq_getElem hj] at h
  exact ⟨l[j], List.getElem_mem hj, h⟩
/-- The first cell that is none of the tag's; -1: there is none. -/
theorem index_walk (w : World) (b : Nat) (a : Int) (A : Option Addr) (c : Nat) (l : List Int) (hr : Kd.C (Kd.int .i64) w A l.length l) (hc : w.cell? ⟨b, 0, none⟩ = some (.int .i64 a)) :
    Calls Try.prog 121 #[.slice A l.length c, .func (.func 60) #[] #[.pointer (some ⟨b, 0, none⟩)]] w (Found w (badC a) l) := by
  have HR := Aside0.mk hr
  have HC := Aside0.mk hc
  have hm := hr.2.1
  clear hr hc
  go_enter Try.func121, Try.ntmps121
  go_wp2_with fail
  go_loopg [8] l.length (fun g v w' => w' = w ∧ ∃ k : Nat, v = .int .i64 (k : Int) ∧ k + g = l.length ∧ Aside0 (∀ j, j < k → badC a (l.getD j 0) = false))
  case atStart => exact ⟨rfl, 0, rfl, by omega, ⟨fun j hj => by omega⟩⟩
  case round =>
    obtain ⟨rfl, k, rfl, hk, hF⟩ := hrel
    by_cases hlt : k < l.length
    · obtain ⟨lb, lo, hA, hcs⟩ := row_int HR.out (by omega)
      have y0 := hcs k hlt
      subst hA
      have k0 : (0 : Int) ≤ (k : Int) := by omega
      have k1 : (k : Int) < (l.length : Int) := by omega
      clear hcs
      cases hp : badC a (l.getD k 0) with
      | true =>
        have HP := Aside0.mk hp
        have hany := Aside0.mk (any_at k hlt hp)
        clear hp hlt
        generalize l.getD k 0 = x at y0 HP
        go_wp2_with (go_at_call 60; refine (bad_walk_t _ _ a _ HC.out HP.out).mono ?_; rintro e w' ⟨rfl, rfl⟩)
        go_ret
        exact ⟨_, rfl, rfl, by rw [hany.out]; simp⟩
      | false =>
        have HP := Aside0.mk hp
        have hF' : Aside0 (∀ j, j < k + 1 → badC a (l.getD j 0) = false) := ⟨fun j hj => by
          rcases Nat.lt_or_ge j k with h | h
          · exact hF.out j h
          · obtain rfl : j = k := by omega
            exact hp⟩
        clear hp hlt hF
        generalize l.getD k 0 = x at y0 HP
        go_wp2_with (go_at_call 60; refine (bad_walk_f _ _ a _ HC.out HP.out).mono ?_; rintro e w' ⟨rfl, rfl⟩)
        go_roundg (gk - 1)
        case measure => omega
        case rel => exact ⟨rfl, k + 1, by go_num, by omega, hF'⟩
    · obtain rfl : k = l.length := by omega
      have hany := Aside0.mk (any_of_take (p := badC a) (l := l) hF.out)
      clear hlt
      go_wp2_with fail
      go_ret
      exact ⟨_, rfl, rfl, by rw [hany.out]; simp⟩
theorem contains_walk (w : World) (b : Nat) (a : Int) (A : Option Addr) (c : Nat) (l : List Int) (hr : Kd.C (Kd.int .i64) w A l.length l) (hc : w.cell? ⟨b, 0, none⟩ = some (.int .i64 a)) :
    Calls Try.prog 62 #[.slice A l.length c, .func (.func 60) #[] #[.pointer (some ⟨b, 0, none⟩)]] w fun e w' => e = .returned (.bool (l.any (badC a))) ∧ w = w' := by
  have HX := Aside0.mk (index_walk w b a A c l hr hc)
  clear hr hc
  go_enter Try.func62, Try.ntmps62
  go_wp2_with (go_at_call 121; refine HX.out.mono ?_; rintro e w' ⟨r, rfl, rfl, hr⟩; have HRR := Aside0.mk hr; clear hr)
  go_ret
  exact ⟨congrArg (fun b => Ending.returned (.bool b)) HRR.out, rfl⟩
theorem any_bad (a : Int) (l : List Int) : l.any (badC a) = !l.all (fun c => decide (0 ≤ c) && decide (c ≤ if a = 2 then 1 else 3)) := by
  induction l with
  | nil => rfl
  | cons x r ih =>
    rw [List.any_cons, List.all_cons, ih, Bool.not_and]
    congr 1
    unfold badC
    generalize (if a = 2 then (1 : Int) else 3) = g
    rw [Bool.not_and, ← decide_not, ← decide_not]
    congr 1 <;> exact decide_eq_decide.2 (by omega)
theorem isTag_t (w : World) (a : Int) (h : a = 1 ∨ a = 2) : Calls Try.prog 59 #[.int .i64 a] w fun e w' => e = .returned (.bool true) ∧ w = w' := by
  rcases h with rfl | rfl
  all_goals
    go_enter Try.func59, Try.ntmps59
    go_wp2_with fail
    go_ret
    exact ⟨rfl, rfl⟩
theorem isTag_f (w : World) (a : Int) (h : ¬ (a = 1 ∨ a = 2)) : Calls Try.prog 59 #[.int .i64 a] w fun e w' => e = .returned (.bool false) ∧ w = w' := by
  have h1 : (a == 1) = false := beq_eq_false_iff_ne.2 (fun h2 => h (.inl h2))
  have h2 : (a == 2) = false := beq_eq_false_iff_ne.2 (fun h2 => h (.inr h2))
  clear h
  go_enter Try.func59, Try.ntmps59
  go_wp2_with fail
  go_ret
  exact ⟨rfl, rfl⟩
set_option maxHeartbeats 8000000 in
set_option maxRecDepth 100000 in
theorem lattice_Good.calls (k : Nat) (a0 : Int) (a1 : Int) (a2_0 : Bool) (A2_1 : Option Addr) (c2_1 : Nat) (l2_1 : List Int) (r : Bool) (w : World) (hr2_1 : Kd.C (Kd.int .i64) w A2_1 l2_1.length l2_1) (hc2_1 : l2_1.length ≤ c2_1) (h : lattice_Good.f k a0 a1 a2_0 l2_1 = some r) :
    Calls Try.prog 13 #[.int .i64 a0, .int .i64 a1, .agg #[.bool a2_0, .slice A2_1 l2_1.length c2_1]] w fun e w' => e = .returned (.bool r) ∧ Below w.heap.size w w' := by
  have hu24 := Try.underlying24
  obtain rfl := Option.some.inj h
  have HR := Aside0.mk hr2_1
  clear hr2_1 h hc2_1
  generalize hg : goodB a0 a1 a2_0 l2_1 = R
  by_cases ht : a0 = 1 ∨ a0 = 2
  · have HT := Aside0.mk ht
    clear ht
    cases a2_0 with
    | false =>
      have hR : ((l2_1.length : Int) == 0) = R := by
        rw [← hg]
        unfold goodB
        rw [if_pos HT.out, if_neg (by simp)]
        exact Bool.eq_iff_iff.2 ⟨fun h => by simpa using h, fun h => by simpa using h⟩
      have HG := Aside0.mk hR
      clear hg hR
      go_enter Try.func13, Try.ntmps13
      go_wp2_with (go_at_call 59; refine (isTag_t _ _ HT.out).mono ?_; rintro e w' ⟨rfl, rfl⟩)
      go_ret
      exact ⟨congrArg (fun b => Ending.returned (.bool b)) HG.out, ((Below.refl _ _).alloc (Nat.le_refl _) _).alloc (by simp) _⟩
    | true =>
      by_cases hl : (l2_1.length : Int) = a1
      · have hlb : ((l2_1.length : Int) == a1) = true := by simpa using hl
        have hR : (!l2_1.any (badC a0)) = R := by
          rw [← hg, any_bad, Bool.not_not]
          unfold goodB
          rw [if_pos HT.out, if_pos rfl, decide_eq_true hl, Bool.true_and]
        have HG := Aside0.mk hR
        clear hl hg hR
        go_enter Try.func13, Try.ntmps13
        go_wp2_with (first | (go_at_call 59; refine (isTag_t _ _ HT.out).mono ?_; rintro e w' ⟨rfl, rfl⟩) | (go_at_call 62; refine Stand.stop ?_))
        refine Stand.go ?_
        refine (contains_walk _ _ a0 _ _ _ (Kd.C_alloc (Kd.C_alloc HR.out _) _) (by go_simp)).mono ?_
        rintro e w' ⟨rfl, rfl⟩
        generalize l2_1.any (badC a0) = q at HG
        go_wp2_with fail
        go_ret
        exact ⟨congrArg (fun b => Ending.returned (.bool b)) HG.out, ((Below.refl _ _).alloc (Nat.le_refl _) _).alloc (by simp) _⟩
      · have hlb : ((l2_1.length : Int) == a1) = false := by simpa using hl
        have hR : false = R := by
          rw [← hg]
          unfold goodB
          rw [if_pos HT.out, if_pos rfl, decide_eq_false hl, Bool.false_and]
        have HG := Aside0.mk hR
        clear hl hg hR
        go_enter Try.func13, Try.ntmps13
        go_wp2_with (first | (go_at_call 59; refine (isTag_t _ _ HT.out).mono ?_; rintro e w' ⟨rfl, rfl⟩))
        go_ret
        exact ⟨congrArg (fun b => Ending.returned (.bool b)) HG.out, ((Below.refl _ _).alloc (Nat.le_refl _) _).alloc (by simp) _⟩
  · have hR : false = R := by
      rw [← hg]
      unfold goodB
      rw [if_neg ht]
    have HG := Aside0.mk hR
    have HT := Aside0.mk ht
    clear ht hg hR
    go_enter Try.func13, Try.ntmps13
    go_wp2_with (go_at_call 59; refine (isTag_f _ _ HT.out).mono ?_; rintro e w' ⟨rfl, rfl⟩)
    go_ret
    exact ⟨congrArg (fun b => Ending.returned (.bool b)) HG.out, ((Below.refl _ _).alloc (Nat.le_refl _) _).alloc (by simp) _⟩

end Go.Proofs.Ytikipnbdccbnfaa.GL
