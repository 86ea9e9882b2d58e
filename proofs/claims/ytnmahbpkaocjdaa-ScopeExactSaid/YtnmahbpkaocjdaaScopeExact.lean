/-
  PROVED: the law 'ScopeExact' returns true at every input that reads as data, and leaves its arguments as they were. No condition beyond the row's own.
-/
import Derived.Test.YtnmahbpkaocjdaaRows
import Derived.Test.YtnmahbpkaocjdaaScopeEx
import Derived.WalkKit
import Derived.ProofKit
import Derived.OpenShut
import Derived.ShutString
import Derived.ChangeMaps5
import Derived.ChangeOld
import Derived.Below
import Derived.SizedLaws
set_option linter.unusedVariables false
namespace Go.Proofs.Ytnmahbpkaocjdaa.scopeExact
open Go.ChangeShapes Go.WideShapes Go.ChangeAt Go.RowKit Go.Proofs.YtnmahbpkaocjdaaW.PrintWords

theorem own : ownKnob Try.prog.godebug = none := by kernel_rfl
theorem laidOut : laidOutB Try.prog = true := by kernel_rfl

set_option maxRecDepth 100000 in
theorem lifted (os : Os) (started : os.Started) (H : Type) (enc : TypeId × Value → H) :
    ReturnsInHanded {} Try.checked os 6 .any (Rows.scopeExactSpec.pre6 enc Try.prog Try.f6 Rows.scopeExactRow.domain false) (Rows.scopeExactSpec.post enc Try.prog Try.f6 false true false false) := by
  refine returnsInHanded_of_change_sized (C := Try.checked) own started (by kernel_rfl) Try.func6
    (ChangeSpec.witness6 (enc := enc) (C := Try.checked) false ⟨#[], #[.slice none 0 0, .slice none 0 0], []⟩ 8 (by kernel_rfl) (by kernel_rfl) (by kernel_rfl) (by kernel_rfl)) ?_
  intro W base args ds gs before hval0 hW hcnd hsz0 _
  have hval : ∀ (j : Nat) t v, Try.f6.params[j]? = some t → args[j]? = some v → Value.okWide Try.prog W .any base t v := hval0
  have hW' := hW
  obtain ⟨p, q, hA0, hV, rfl, hfz, hnd⟩ := hW
  have hA : DataW.TrodAll enc Try.prog W 0 (fun _ => true) true Try.f6.params.toList args.toList ds p := hA0
  rw [Try.params6] at hA hval
  obtain ⟨v0, vs0, d0, ds0, p0, q0, hargs, rfl, rfl, h0, r0⟩ := trodAll_cons hA
  obtain ⟨v1, vs1, d1, ds1, p1, q1, rfl, rfl, rfl, h1, r1⟩ := trodAll_cons r0
  obtain ⟨rfl, rfl, rfl⟩ := trodAll_nil r1
  obtain rfl : args = #[v0, v1] := by cases args; simp_all
  obtain ⟨rfl, rfl⟩ := trodVars_none hV
  obtain ⟨a0, len0, cap0, rfl⟩ := okWide_slice Try.underlying50 (hval 0 50 v0 rfl rfl)
  have k0 := h0
  have lt0 : ∀ x ∈ p0, x.block < W.heap.size := by obtain ⟨m, hm⟩ := k0; exact DataW.trod_lt m _ _ _ hm
  obtain ⟨f0, hf0⟩ := h0
  obtain ⟨L0, hg0, A0, c0, he0, hlc0, hC0⟩ := opens_sacts enc W _ _ _ f0 _ _ hf0
  replace he0 : Value.slice a0 len0 cap0 = .slice A0 L0.length c0 := by simpa [Value.cells] using he0
  clear hf0
  obtain ⟨a1, len1, cap1, rfl⟩ := okWide_slice Try.underlying73 (hval 1 73 v1 rfl rfl)
  have k1 := h1
  have lt1 : ∀ x ∈ p1, x.block < W.heap.size := by obtain ⟨m, hm⟩ := k1; exact DataW.trod_lt m _ _ _ hm
  obtain ⟨f1, hf1⟩ := h1
  obtain ⟨L1, hg1, A1, c1, he1, hlc1, hC1⟩ := (Opens.slice 9 Try.underlying73 (by kernel_rfl) (Opens.string Try.underlying9)) enc W _ _ _ f1 _ _ hf1
  replace he1 : Value.slice a1 len1 cap1 = .slice A1 L1.length c1 := by simpa [Value.cells] using he1
  clear hf1
  clear hA0 hval0 hsz0
  rw [he0] at k0 hW' ⊢
  rw [he1] at k1 hW' ⊢
  refine (exact07_walk W A0 c0 L0 A1 c1 L1 hC0 hg0 hC1 hg1).mono fun e W' ⟨he, bel⟩ => ?_
  subst he
  exact ⟨_, rfl, _, _, _, [], _, [], hW', trodAll_mk1 (shut_bool Try.underlying4 _), (trodAll_cons_mk (Below.trod laidOut (by kernel_rfl) (of_decide_eq_true (by kernel_rfl)) k0 bel lt0) (trodAll_cons_mk (Below.trod laidOut (by kernel_rfl) (of_decide_eq_true (by kernel_rfl)) k1 bel lt1) trodAll_mk0)), rfl, bel.frame _, fun h => by cases h⟩

theorem over : Rows.scopeExactRow.holds Try.pinned (OpenSpec.ofChange Rows.scopeExactSpec) :=
  OpenClaim.holds_of_wide 6 Try.f6 rfl rfl rfl rfl rfl rfl rfl ⟨rfl, rfl, rfl, rfl, rfl⟩ rfl rfl rfl rfl rfl (by kernel_rfl) Try.func6 (by kernel_rfl)
    (of_decide_eq_true (by kernel_rfl)) (by unfold Func.isWrapper; first | (rw [if_pos (by decide +kernel)]; kernel_rfl) | (rw [if_neg (by decide +kernel)]; exact ⟨rfl, rfl⟩))
    (fun os started H enc _ => lifted os started H enc)
theorem proved : Rows.ScopeExactSaid := over
#print axioms proved
end Go.Proofs.Ytnmahbpkaocjdaa.scopeExact
namespace Go.Proofs.Ytnmahbpkaocjdaa
/-- The row, under a short name, for the claim. -/
theorem scopeExact_holds : Rows.ScopeExactSaid := scopeExact.proved
end Go.Proofs.Ytnmahbpkaocjdaa
