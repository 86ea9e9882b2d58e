/-
  Scopes: Object.
-/
import Derived.Test.YtnmahbpkaocjdaaScopeC
set_option linter.unusedVariables false
namespace Go.Proofs.Ytnmahbpkaocjdaa
open Go.RowKit Go.Proofs.YtnmahbpkaocjdaaW.PrintWords

section
variable {w0 w : World} {F : Nat → Prop} {sb : Nat} {st : St}

theorem info70s : (Try.prog.info? 70).map (·.size) = some 13 := by kernel_rfl

def Ob.val (o : Ob) : Value := .agg #[.int .i64 o.kind, .string o.name, .int .i64 o.typ, .int .i64 o.node, .int .i64 o.num, .int .i64 o.ck, .int .u64 o.hi, .int .u64 o.lo, .bool o.cb, .string o.cs, .int .i64 o.file, .int .i64 o.line, .int .i64 o.col]

theorem s_object_f (h : SRep w0 w F sb st) (i : Int) (hh : st.holds i = false) : Calls Try.prog 29 #[.pointer (some ⟨sb, 0, none⟩), .int .i64 i] w fun e w' => e = .returned Ob.zero.val ∧ Below w.heap.size w w' := by
  have HI := Aside0.mk (h.below ((Below.refl _ _).alloc (Nat.le_refl _) (.cells #[.int .i64 0, .string ByteArray.empty, .int .i64 0, .int .i64 0, .int .i64 0, .int .i64 0, .int .u64 0, .int .u64 0, .bool false, .string ByteArray.empty, .int .i64 0, .int .i64 0, .int .i64 0] 70)))
  have HH := Aside0.mk hh
  clear h hh
  go_enter Try.func29, Try.ntmps29
  go_wp2_with (go_at_call 46; refine (s_holds_f HI.out _ HH.out).mono ?_; rintro e w' ⟨rfl, rfl⟩)
  refine bodyPost_ret (results_cell_row rfl _ _ w.heap.size 70 #[.int .i64 0, .string ByteArray.empty, .int .i64 0, .int .i64 0, .int .i64 0, .int .i64 0, .int .u64 0, .int .u64 0, .bool false, .string ByteArray.empty, .int .i64 0, .int .i64 0, .int .i64 0] (0, 0) _ rfl (heap_alloc_new w _) Try.underlying70 (by rfl) info70s) rfl ?_
  exact ⟨rfl, (Below.refl _ _).alloc (Nat.le_refl _) _⟩
theorem s_object_t (h : SRep w0 w F sb st) (k : Nat) (hh : st.holds (k : Int) = true) : Calls Try.prog 29 #[.pointer (some ⟨sb, 0, none⟩), .int .i64 (k : Int)] w fun e w' => e = .returned (st.ob k).val ∧ Below w.heap.size w w' := by
  have hk : 1 ≤ (k : Int) ∧ (k : Int) < (st.objs.length : Int) := by simpa [St.holds] using hh
  have hd := h.below ((Below.refl _ _).alloc (Nat.le_refl _) (.cells #[.int .i64 0, .string ByteArray.empty, .int .i64 0, .int .i64 0, .int .i64 0, .int .i64 0, .int .u64 0, .int .u64 0, .bool false, .string ByteArray.empty, .int .i64 0, .int .i64 0, .int .i64 0] 70))
  have hd2 := hd
  obtain ⟨g, col, hI, _⟩ := hd
  have hf := g.few2
  obtain ⟨A1, c1, A2, c2, mb, _, x1, _, _, hc, _⟩ := hI.cells
  obtain ⟨lb, rfl, y0, y1, y2, y3, y4, y5, y6, y7, y8, y9, y10, y11, y12⟩ := hc k (by omega)
  have HI := Aside0.mk hd2
  have HH := Aside0.mk hh
  obtain ⟨h1, h2⟩ := hk
  have h3 : (0 : Int) ≤ (k : Int) := by omega
  generalize st.ob k = o at y0 y1 y2 y3 y4 y5 y6 y7 y8 y9 y10 y11 y12 ⊢
  clear h hh hI hd2 hc g
  go_enter Try.func29, Try.ntmps29
  go_wp2_with (go_at_call 46; refine (s_holds_t HI.out _ HH.out).mono ?_; rintro e w' ⟨rfl, rfl⟩)
  refine bodyPost_ret (results_cell_row rfl _ _ w.heap.size 70 #[.int .i64 o.kind, .string o.name, .int .i64 o.typ, .int .i64 o.node, .int .i64 o.num, .int .i64 o.ck, .int .u64 o.hi, .int .u64 o.lo, .bool o.cb, .string o.cs, .int .i64 o.file, .int .i64 o.line, .int .i64 o.col] (0, 0) _ rfl (heap_alloc_new w _) Try.underlying70 (by rfl) info70s) rfl ?_
  exact ⟨rfl, (Below.refl _ _).alloc (Nat.le_refl _) _⟩
end
end Go.Proofs.Ytnmahbpkaocjdaa
