/-
  Facts that came in; the laws on lattices, as walks over what came in.
-/
import Derived.Test.YtikipnbdccbnfaaO
import Derived.Test.YtikipnbdccbnfaaLr
set_option linter.unusedVariables false
namespace Go.Proofs.Ytikipnbdccbnfaa
open Go.RowKit Go.Proofs.YtikipnbdccbnfaaW.PrintWords Go.Proofs.Ytikipnbdccbnfaa.GL

theorem c3_ : Try.prog.cellsOf 3 = 1 := by kernel_rfl
theorem c4_ : Try.prog.cellsOf 4 = 1 := by kernel_rfl
theorem c22_ : Try.prog.cellsOf 22 = 1 := by kernel_rfl
theorem c24_ : Try.prog.cellsOf 24 = 2 := by kernel_rfl
theorem opens_ints : Opens Try.prog (Kd.slice 3 (Kd.int .i64)) 22 (fun l => ∀ x ∈ l, (Lit.int .i64 x).wf = true) := Opens.slice 3 Try.underlying22 (by kernel_rfl) (Opens.int Try.underlying3)
set_option maxRecDepth 100000 in
theorem opens_known : Opens Try.prog k24 24 (fun _ => True) := by
  intro H enc w base spare held fuel cs x h
  obtain ⟨xs, n, _, _, hl, hlen, hf⟩ := DataW.trod_struct Try.underlying24 h
  have hl5 : cs.length = 2 := hl.trans c24_
  match cs, hl5 with
  | [b0, b1], _ =>
    have hx : xs.length = 2 := hlen
    match xs, hx with
    | [x0, x1], _ =>
      have h0 := hf 0 _ rfl
      have h1 := hf 1 _ rfl
      simp [c4_, c22_] at h0 h1
      obtain ⟨b, he, _⟩ := DataW.trod_bool Try.underlying4 h0
      obtain ⟨l, _, hK⟩ := opens_ints enc w base spare held _ _ _ h1
      obtain ⟨A, c, he1, hlc, hC⟩ := hK
      simp at he he1
      subst he; subst he1
      exact ⟨⟨b, l⟩, trivial, k24_mk w ⟨b, l⟩ hlc hC⟩
theorem opens_knowns : Opens Try.prog (Kd.slice 24 k24) 33 (fun l => ∀ x ∈ l, True) := Opens.slice 24 Try.underlying33 (by kernel_rfl) opens_known
theorem known_shape {w : World} {x : S24} {cs : Array Value} (h : k24.K w x cs.toList) : ∃ A c, cs = #[.bool x.f0, .slice A x.f1.length c] ∧ x.f1.length ≤ c ∧ (Kd.int .i64).C w A x.f1.length x.f1 := by
  obtain ⟨A, c, he, hl, hC⟩ := k24_open h
  exact ⟨A, c, Array.toList_inj.1 he, hl, hC⟩

theorem rises_walk (w : World) (a : Int) (A : Option Addr) (c : Nat) (L : List S24) (ha : (Lit.int .i64 a).wf = true) (h : k24.C w A L.length L) (hg : ∀ x ∈ L, True) (hc : L.length ≤ c) :
    Calls Try.prog 4 #[.int .i64 a, .slice A L.length c] w fun e w' => e = .returned (.bool true) ∧ Below w.heap.size w w' :=
  lorgnettelaw20_LatticeRises.calls 2000 a A c L true w h hc (rises_pure a L)
theorem least_walk (w : World) (a : Int) (cs1 : Array Value) (x1 : S24) (cs2 : Array Value) (x2 : S24) (cs3 : Array Value) (x3 : S24) (ha : (Lit.int .i64 a).wf = true) (h1 : k24.K w x1 cs1.toList) (g1 : True) (h2 : k24.K w x2 cs2.toList) (g2 : True) (h3 : k24.K w x3 cs3.toList) (g3 : True) :
    Calls Try.prog 5 #[.int .i64 a, .agg cs1, .agg cs2, .agg cs3] w fun e w' => e = .returned (.bool true) ∧ Below w.heap.size w w' := by
  obtain ⟨A1, c1, rfl, l1, C1⟩ := known_shape h1
  obtain ⟨A2, c2, rfl, l2, C2⟩ := known_shape h2
  obtain ⟨A3, c3, rfl, l3, C3⟩ := known_shape h3
  exact lorgnettelaw20_LatticeLeast.calls 100 a x1.f0 A1 c1 x1.f1 x2.f0 A2 c2 x2.f1 x3.f0 A3 c3 x3.f1 true w C1 l1 C2 l2 C3 l3 (least_pure _ _ _ _ _ _ _)
end Go.Proofs.Ytikipnbdccbnfaa
