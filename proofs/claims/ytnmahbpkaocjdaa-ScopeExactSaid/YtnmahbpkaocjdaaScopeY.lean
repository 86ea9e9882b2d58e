/-
  ScopeNests: the plain law, and the calls on no scopes.
-/
import Derived.Test.YtnmahbpkaocjdaaScopeX
set_option linter.unusedVariables false
namespace Go.Proofs.Ytnmahbpkaocjdaa
open Go.RowKit Go.Proofs.YtnmahbpkaocjdaaW.PrintWords
namespace St
variable {st : St}

theorem has0 (st : St) : st.has 0 = false := by
  cases hz : st.has 0 with
  | false => rfl
  | true => have := has_iff.1 hz; omega
theorem win_self (k : Int) : ∀ f, st.win k f k = true
  | 0 => by simp [win]
  | f + 1 => by unfold win; rw [if_neg (by simp)]; simp
theorem win_lt (g : st.Good) (k : Int) : ∀ (f : Nat) (i : Int), i < k → st.win k f i = false
  | 0, i, h => by unfold win; exact decide_eq_false (by omega)
  | f + 1, i, h => by
    unfold win
    by_cases hh : st.has i = true ∧ i ≠ k
    · rw [if_pos hh]
      have := out_lt g hh.1
      exact win_lt g k f _ (by omega)
    · rw [if_neg hh]; exact decide_eq_false (by omega)
theorem within_gt (g : st.Good) {i k : Int} (h : i < k) : st.Within i k = false := by
  unfold Within
  rw [win_lt g k _ i h]; simp
theorem within_self {i : Int} (h : st.has i = true) : st.Within i i = true := by
  unfold Within
  rw [win_self, h]; rfl
theorem within_step (g : st.Good) {i k : Int} (hi : st.has i = true) (hk : st.has k = true) (hne : i ≠ k) : st.Within i k = st.Within (st.out i) k := by
  have h2 := g.o2
  have hii := has_iff.1 hi
  obtain ⟨f, hf⟩ : ∃ f, st.outer.length = f + 1 := ⟨st.outer.length - 1, by omega⟩
  have hlt := out_lt g hi
  unfold Within
  rw [hk, Bool.true_and, Bool.true_and, hf]
  conv => lhs; unfold win
  rw [if_pos ⟨hi, hne⟩]
  exact win_fuel g k (i.toNat + 1) f (f + 1) _ (by omega) (fun _ => by omega) (fun _ => by omega)
theorem within_zero (g : st.Good) {k : Int} (hk : st.has k = true) : st.Within 0 k = false := within_gt g (has_iff.1 hk).1
theorem within_one (g : st.Good) : ∀ (n : Nat) (i : Int), i < n → st.has i = true → st.Within i 1 = true
  | 0, i, h, hi => by have := has_iff.1 hi; omega
  | n + 1, i, h, hi => by
    have h2 := g.o2
    have h1 : st.has 1 = true := has_iff.2 ⟨by omega, by omega⟩
    by_cases he : i = 1
    · rw [he]; exact within_self h1
    · rw [within_step g hi h1 he]
      rcases has_out g hi with ⟨_, h3⟩ | ⟨h3, h4⟩
      · exact absurd h3 he
      · exact within_one g n _ (by omega) h3
/-- What the law's inner loop asks. -/
theorem nest_law (g : st.Good) {i k : Int} (hi : st.has i = true) (hk : st.has k = true) : st.Within i k = (decide (i = k) || (decide (1 < i) && st.Within (st.out i) k)) := by
  by_cases he : i = k
  · subst he; rw [within_self hi]; simp
  · rw [within_step g hi hk he]
    have hii := has_iff.1 hi
    by_cases h1 : i = 1
    · rw [h1, g.o1, within_zero g hk]
      rw [h1] at he
      simp [he]
    · have : decide (1 < i) = true := decide_eq_true (by omega)
      rw [this, decide_eq_false he]; simp
theorem outer_law (g : st.Good) {i : Int} (hi : st.has i = true) (h1 : 1 < i) : 1 ≤ st.out i ∧ st.out i < i := by
  rcases has_out g hi with ⟨_, h⟩ | ⟨h, h2⟩
  · omega
  · exact ⟨(has_iff.1 h).1, h2⟩
end St

theorem z_has (i : Int) (w : World) : Calls Try.prog 44 #[.pointer none, .int .i64 i] w fun e w' => e = .returned (.bool false) ∧ w = w' := by
  go_enter Try.func44, Try.ntmps44
  go_wp2_with fail
  go_ret
  exact ⟨rfl, rfl⟩
theorem z_holds (i : Int) (w : World) : Calls Try.prog 46 #[.pointer none, .int .i64 i] w fun e w' => e = .returned (.bool false) ∧ w = w' := by
  go_enter Try.func46, Try.ntmps46
  go_wp2_with fail
  go_ret
  exact ⟨rfl, rfl⟩
theorem z_len (w : World) : Calls Try.prog 28 #[.pointer none] w fun e w' => e = .returned (.int .i64 0) ∧ w = w' := by
  go_enter Try.func28, Try.ntmps28
  go_wp2_with fail
  go_ret
  exact ⟨rfl, rfl⟩
theorem z_open (i : Int) (w : World) : Calls Try.prog 35 #[.pointer none, .int .i64 i] w fun e w' => e = .returned (.tuple #[.int .i64 0, .int .i64 2]) ∧ w = w' := by
  go_enter Try.func35, Try.ntmps35
  go_wp2_with fail
  go_ret2
  exact ⟨rfl, rfl⟩
theorem z_put (i : Int) (o : Ob) (w : World) : Calls Try.prog 26 #[.pointer none, .int .i64 i, o.val] w fun e w' => e = .returned (.tuple #[.int .i64 0, .int .i64 2]) ∧ Below w.heap.size w w' := by
  unfold Ob.val
  go_enter Try.func26, Try.ntmps26
  go_wp2_with fail
  go_ret2
  exact ⟨rfl, (Below.refl _ _).alloc (Nat.le_refl _) _⟩
theorem z_here (i : Int) (s : ByteArray) (w : World) : Calls Try.prog 33 #[.pointer none, .int .i64 i, .string s] w fun e w' => e = .returned (.tuple #[.int .i64 0, .bool false]) ∧ w = w' := by
  go_enter Try.func33, Try.ntmps33
  go_wp2_with (go_at_call 44; refine (z_has _ _).mono ?_; rintro e w' ⟨rfl, rfl⟩)
  go_ret2
  exact ⟨rfl, rfl⟩
theorem z_find (i : Int) (s : ByteArray) (w : World) : Calls Try.prog 25 #[.pointer none, .int .i64 i, .string s] w fun e w' => e = .returned (.tuple #[.int .i64 0, .int .i64 0, .bool false]) ∧ w = w' := by
  go_enter Try.func25, Try.ntmps25
  go_wp2_with fail
  refine wp_loop_rounds 1 ?_
  rw [rounds_succ]
  go_wp2_with (go_at_call 44; refine (z_has _ _).mono ?_; rintro e w' ⟨rfl, rfl⟩)
  go_ret3
  exact ⟨rfl, rfl⟩
theorem z_change (i : Int) (o : Ob) (w : World) : Calls Try.prog 36 #[.pointer none, .int .i64 i, o.val] w fun e w' => e = .returned (.int .i64 2) ∧ Below w.heap.size w w' := by
  unfold Ob.val
  go_enter Try.func36, Try.ntmps36
  go_wp2_with fail
  go_ret
  exact ⟨rfl, (Below.refl _ _).alloc (Nat.le_refl _) _⟩
theorem z_outer (i : Int) (w : World) : Calls Try.prog 30 #[.pointer none, .int .i64 i] w fun e w' => e = .returned (.int .i64 0) ∧ w = w' := by
  go_enter Try.func30, Try.ntmps30
  go_wp2_with (go_at_call 44; refine (z_has _ _).mono ?_; rintro e w' ⟨rfl, rfl⟩)
  go_ret
  exact ⟨rfl, rfl⟩
theorem z_within (i k : Int) (w : World) : Calls Try.prog 27 #[.pointer none, .int .i64 i, .int .i64 k] w fun e w' => e = .returned (.bool false) ∧ w = w' := by
  go_enter Try.func27, Try.ntmps27
  go_wp2_with (go_at_call 44; refine (z_has _ _).mono ?_; rintro e w' ⟨rfl, rfl⟩)
  go_ret
  exact ⟨rfl, rfl⟩
theorem z_object (i : Int) (w : World) : Calls Try.prog 29 #[.pointer none, .int .i64 i] w fun e w' => e = .returned Ob.zero.val ∧ Below w.heap.size w w' := by
  go_enter Try.func29, Try.ntmps29
  go_wp2_with (go_at_call 46; refine (z_holds _ _).mono ?_; rintro e w' ⟨rfl, rfl⟩)
  refine bodyPost_ret (results_cell_row rfl _ _ w.heap.size 70 #[.int .i64 0, .string ByteArray.empty, .int .i64 0, .int .i64 0, .int .i64 0, .int .i64 0, .int .u64 0, .int .u64 0, .bool false, .string ByteArray.empty, .int .i64 0, .int .i64 0, .int .i64 0] (0, 0) _ rfl (heap_alloc_new w _) Try.underlying70 (by rfl) info70s) rfl ?_
  exact ⟨rfl, (Below.refl _ _).alloc (Nat.le_refl _) _⟩
end Go.Proofs.Ytnmahbpkaocjdaa
