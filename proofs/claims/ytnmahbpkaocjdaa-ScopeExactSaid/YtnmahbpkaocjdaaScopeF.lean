/-
  Scopes: Put.
-/
import Derived.Test.YtnmahbpkaocjdaaScopeE
set_option linter.unusedVariables false
namespace Go.Proofs.Ytnmahbpkaocjdaa
open Go.RowKit Go.Proofs.YtnmahbpkaocjdaaW.PrintWords

section
variable {w0 w : World} {F : Nat → Prop} {sb : Nat} {st : St}

theorem s_isKind_t (w : World) (k : Int) (h : isKindB k = true) : Calls Try.prog 45 #[.int .i64 k] w fun e w' => e = .returned (.bool true) ∧ w = w' := by
  have := s_isKind w k
  rw [h] at this
  exact this
theorem s_isKind_f (w : World) (k : Int) (h : isKindB k = false) : Calls Try.prog 45 #[.int .i64 k] w fun e w' => e = .returned (.bool false) ∧ w = w' := by
  have := s_isKind w k
  rw [h] at this
  exact this

/-- May the object be put there? -/
def St.fits (st : St) (i : Int) (o : Ob) : Prop := st.has i = true ∧ isKindB o.kind = true ∧ o.name ≠ ByteArray.empty

def Ob.cells (o : Ob) : Obj := .cells #[.int .i64 o.kind, .string o.name, .int .i64 o.typ, .int .i64 o.node, .int .i64 o.num, .int .i64 o.ck, .int .u64 o.hi, .int .u64 o.lo, .bool o.cb, .string o.cs, .int .i64 o.file, .int .i64 o.line, .int .i64 o.col] 70

theorem bytes_ext {a b : ByteArray} (h : a.toList = b.toList) : a = b := by
  rw [ByteArray.toList_eq, ByteArray.toList_eq] at h
  cases a; cases b
  simpa [Array.toList_inj] using h
theorem bytes_ne {a b : ByteArray} (h : a ≠ b) : (a.toList == b.toList) = false := beq_eq_false_iff_ne.2 (fun he => h (bytes_ext he))
theorem bytes_some {a : ByteArray} (h : a ≠ ByteArray.empty) : a.toList.isEmpty = false := by
  cases hl : a.toList with
  | cons x r => rfl
  | nil => exact absurd (bytes_ext (hl.trans (by rw [ByteArray.toList_eq]; rfl))) h

theorem s_put_bad (h : SRep w0 w F sb st) (i : Int) (o : Ob) (hb : ¬ st.fits i o) : Calls Try.prog 26 #[.pointer (some ⟨sb, 0, none⟩), .int .i64 i, o.val] w fun e w' => e = .returned (.tuple #[.int .i64 0, .int .i64 1]) ∧ Below w.heap.size w w' := by
  have HI := Aside0.mk (h.below ((Below.refl _ _).alloc (Nat.le_refl _) o.cells))
  clear h
  unfold Ob.val
  unfold Ob.cells at HI
  by_cases h1 : st.has i = true
  · have H1 := Aside0.mk h1
    by_cases h2 : isKindB o.kind = true
    · have H2 := Aside0.mk h2
      have h3 : o.name = ByteArray.empty := by
        by_cases h3 : o.name = ByteArray.empty
        · exact h3
        · exact absurd ⟨h1, h2, h3⟩ hb
      rw [h3] at HI ⊢
      clear hb h1 h2 h3
      go_enter Try.func26, Try.ntmps26
      go_wp2_with (first | (go_at_call 44; refine (s_has_t HI.out _ H1.out).mono ?_; rintro e w' ⟨rfl, rfl⟩) | (go_at_call 45; refine (s_isKind_t _ _ H2.out).mono ?_; rintro e w' ⟨rfl, rfl⟩))
      go_ret2
      exact ⟨rfl, (Below.refl _ _).alloc (Nat.le_refl _) _⟩
    · have h2' : isKindB o.kind = false := by simpa using h2
      have H2 := Aside0.mk h2'
      clear hb h1 h2 h2'
      go_enter Try.func26, Try.ntmps26
      go_wp2_with (first | (go_at_call 44; refine (s_has_t HI.out _ H1.out).mono ?_; rintro e w' ⟨rfl, rfl⟩) | (go_at_call 45; refine (s_isKind_f _ _ H2.out).mono ?_; rintro e w' ⟨rfl, rfl⟩))
      go_ret2
      exact ⟨rfl, (Below.refl _ _).alloc (Nat.le_refl _) _⟩
  · have h1' : st.has i = false := by simpa using h1
    have H1 := Aside0.mk h1'
    clear hb h1 h1'
    go_enter Try.func26, Try.ntmps26
    go_wp2_with (first | (go_at_call 44; refine (s_has_f HI.out _ H1.out).mono ?_; rintro e w' ⟨rfl, rfl⟩))
    go_ret2
    exact ⟨rfl, (Below.refl _ _).alloc (Nat.le_refl _) _⟩

theorem s_put_twice (h : SRep w0 w F sb st) (i : Int) (o : Ob) (hb : st.fits i o) (hn : o.name.size ≤ maxLen) (ht : st.here i o.name ≠ 0) : Calls Try.prog 26 #[.pointer (some ⟨sb, 0, none⟩), .int .i64 i, o.val] w fun e w' => e = .returned (.tuple #[.int .i64 0, .int .i64 8]) ∧ Below w.heap.size w w' := by
  have HI := Aside0.mk (h.below ((Below.refl _ _).alloc (Nat.le_refl _) o.cells))
  obtain ⟨h1, h2, h3⟩ := hb
  have H1 := Aside0.mk h1
  have H2 := Aside0.mk h2
  have HT := Aside0.mk ht
  have hne := bytes_some h3
  clear h h1 h2 ht
  unfold Ob.val
  unfold Ob.cells at HI
  go_enter Try.func26, Try.ntmps26
  go_wp2_with (first | (go_at_call 44; refine (s_has_t HI.out _ H1.out).mono ?_; rintro e w' ⟨rfl, rfl⟩) | (go_at_call 45; refine (s_isKind_t _ _ H2.out).mono ?_; rintro e w' ⟨rfl, rfl⟩) | (go_at_call 33; refine (s_here_t HI.out _ _ hn HT.out).mono ?_; rintro e w' ⟨rfl, rfl⟩))
  go_ret2
  exact ⟨rfl, (Below.refl _ _).alloc (Nat.le_refl _) _⟩
end
end Go.Proofs.Ytnmahbpkaocjdaa
