/-
  Scopes: what a Put changes of what is found (the plain law of ScopeApart).
-/
import Derived.Test.YtnmahbpkaocjdaaScopeV
set_option linter.unusedVariables false
namespace Go.Proofs.Ytnmahbpkaocjdaa
open Go.RowKit Go.Proofs.YtnmahbpkaocjdaaW.PrintWords
namespace St
variable {st : St}

theorem here_under (st : St) (i : Int) : st.here i under = 0 := by
  by_cases h : st.here i under = 0
  · exact h
  · exact absurd rfl (here_lt h).2.2.2
theorem find_under (st : St) : ∀ (f : Nat) (i : Int), st.find under f i = (0, 0)
  | 0, _ => rfl
  | f + 1, i => by
    unfold find
    rw [here_under, find_under st f (st.out i)]
    simp
theorem Find_under (st : St) (i : Int) : st.Find i under = (0, 0) := find_under st _ i

theorem win_fuel (g : st.Good) (k : Int) : ∀ (n f1 f2 : Nat) (i : Int), i < n → (st.has i = true → i < f1) → (st.has i = true → i < f2) → st.win k f1 i = st.win k f2 i
  | 0, f1, f2, i, hn, h1, h2 => by
    have hh : st.has i = false := by
      cases hh : st.has i with
      | false => rfl
      | true => have := has_iff.1 hh; omega
    cases f1 <;> cases f2 <;> simp [win, hh]
  | n + 1, f1, f2, i, hn, h1, h2 => by
    cases hh : st.has i with
    | false => cases f1 <;> cases f2 <;> simp [win, hh]
    | true =>
      have hi := has_iff.1 hh
      have k1 := h1 hh
      have k2 := h2 hh
      have hlt := out_lt g hh
      obtain ⟨a, rfl⟩ : ∃ a, f1 = a + 1 := ⟨f1 - 1, by omega⟩
      obtain ⟨b, rfl⟩ : ∃ b, f2 = b + 1 := ⟨f2 - 1, by omega⟩
      unfold win
      rw [win_fuel g k n a b (st.out i) (by omega) (fun _ => by omega) (fun _ => by omega)]

/-- Outside k nothing turns. -/
theorem find_put_out (g : st.Good) (k : Int) (o : Ob) (nm : ByteArray) : ∀ (f w : Nat) (i : Int), (st.has i = true → i < w) → st.win k w i = false → (st.put k o).find nm f i = st.find nm f i
  | 0, _, _, _, _ => rfl
  | f + 1, w, i, hw, hwin => by
    have hhas : (st.put k o).has i = st.has i := rfl
    have hout : (st.put k o).out i = st.out i := rfl
    unfold find
    rw [hhas, hout]
    cases hh : st.has i with
    | false => simp
    | true =>
      have hi := has_iff.1 hh
      have k1 := hw hh
      have hlt := out_lt g hh
      obtain ⟨a, rfl⟩ : ∃ a, w = a + 1 := ⟨w - 1, by omega⟩
      unfold win at hwin
      by_cases hk : i = k
      · rw [if_neg (fun h => h.2 hk), decide_eq_true hk] at hwin
        cases hwin
      · rw [if_pos ⟨hh, hk⟩] at hwin
        have hhere : (st.put k o).here i nm = st.here i nm := by
          rw [here_put g]
          by_cases h3 : st.here i nm ≠ 0
          · rw [if_pos h3]
          · rw [if_neg h3, if_neg (fun h => hk h.1)]
            simp at h3
            exact h3.symm
        rw [hhere, find_put_out g k o nm f a (st.out i) (fun _ => by omega) hwin]

/-- Within k: the new one, or what was found before, nearer than k. -/
theorem find_put_in (g : st.Good) (k : Int) (o : Ob) (hk0 : st.has k = true) (hfree : st.here k o.name = 0) (hu : o.name ≠ under) : ∀ (f w : Nat) (i : Int), st.has i = true → i < f → i < w → st.win k w i = true →
    ((st.put k o).find o.name f i).1 = (st.objs.length : Int) ∨ ((st.put k o).find o.name f i = st.find o.name f i ∧ st.has ((st.put k o).find o.name f i).2 = true ∧ ((st.put k o).find o.name f i).2 ≠ k ∧ ((st.put k o).find o.name f i).2 ≤ i ∧ st.win k w ((st.put k o).find o.name f i).2 = true)
  | 0, _, i, hh, hf, _, _ => by
    have := has_iff.1 hh
    omega
  | f + 1, w, i, hh, hf, hw, hwin => by
    have hi := has_iff.1 hh
    have hhas : (st.put k o).has i = st.has i := rfl
    have hout : (st.put k o).out i = st.out i := rfl
    have hlt := out_lt g hh
    obtain ⟨a, rfl⟩ : ∃ a, w = a + 1 := ⟨w - 1, by omega⟩
    have hwin0 := hwin
    unfold win at hwin
    have hp := g.pos
    by_cases hk : i = k
    · refine .inl ?_
      subst hk
      have hn : (st.put i o).here i o.name = st.objs.length := by
        rw [here_put g, if_neg (by simp [hfree]), if_pos ⟨rfl, rfl, hu⟩]
      have hnz : st.objs.length ≠ 0 := by omega
      unfold find
      rw [hhas, if_pos hh, hn, if_pos hnz]
    · rw [if_pos ⟨hh, hk⟩] at hwin
      have hhere : (st.put k o).here i o.name = st.here i o.name := by
        rw [here_put g]
        by_cases h3 : st.here i o.name ≠ 0
        · rw [if_pos h3]
        · rw [if_neg h3, if_neg (fun h => hk h.1)]
          simp at h3
          exact h3.symm
      by_cases h3 : st.here i o.name ≠ 0
      · refine .inr ?_
        have e1 : (st.put k o).find o.name (f + 1) i = ((st.here i o.name : Int), i) := by
          unfold find
          rw [hhas, if_pos hh, hhere, if_pos h3]
        have e2 : st.find o.name (f + 1) i = ((st.here i o.name : Int), i) := by
          unfold find
          rw [if_pos hh, if_pos h3]
        rw [e1, e2]
        exact ⟨rfl, hh, hk, Int.le_refl _, hwin0⟩
      · have e1 : (st.put k o).find o.name (f + 1) i = (st.put k o).find o.name f (st.out i) := by
          conv => lhs; unfold find
          rw [hhas, if_pos hh, hhere, if_neg h3, hout]
        have e2 : st.find o.name (f + 1) i = st.find o.name f (st.out i) := by
          conv => lhs; unfold find
          rw [if_pos hh, if_neg h3]
        rw [e1, e2]
        have hho : st.has (st.out i) = true := by
          rcases has_out g hh with ⟨h0, _⟩ | ⟨h0, _⟩
          · rw [h0] at hwin
            have hz : st.has 0 = false := by
              cases hz : st.has 0 with
              | false => rfl
              | true => have := has_iff.1 hz; omega
            have hkk := has_iff.1 hk0
            cases a <;> simp [win, hz] at hwin <;> omega
          · exact h0
        rcases find_put_in g k o hk0 hfree hu f a (st.out i) hho (by omega) (by omega) hwin with h4 | ⟨h4, h5, h6, h7, h8⟩
        · exact .inl h4
        · refine .inr ⟨h4, h5, h6, by omega, ?_⟩
          have hb := has_iff.1 h5
          rw [← h8]
          exact win_fuel g k ((((st.put k o).find o.name f (st.out i)).2).toNat + 1) (a + 1) a _ (by omega) (fun _ => by omega) (fun _ => by omega)
end St
end Go.Proofs.Ytnmahbpkaocjdaa
