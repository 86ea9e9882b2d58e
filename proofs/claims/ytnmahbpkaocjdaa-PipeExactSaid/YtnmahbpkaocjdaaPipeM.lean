/-
  Values that came in, read as data.
-/
import Derived.Test.YtnmahbpkaocjdaaO
import Derived.Test.YtnmahbpkaocjdaaPipeL
set_option linter.unusedVariables false
namespace Go.Proofs.Ytnmahbpkaocjdaa
open Go.RowKit Go.Proofs.YtnmahbpkaocjdaaW.PrintWords

set_option maxRecDepth 100000 in
theorem opens_pv : Opens Try.prog pvk 84 (fun _ => True) := by
  intro H enc w base spare held fuel cs x h
  obtain ⟨xs, n, _, _, hl, hlen, hf⟩ := DataW.trod_struct Try.underlying84 h
  have hl5 : cs.length = 5 := hl.trans (by kernel_rfl)
  have c9 : Try.prog.cellsOf 9 = 1 := by kernel_rfl
  have c3 : Try.prog.cellsOf 3 = 1 := by kernel_rfl
  match cs, hl5 with
  | [a, b, c, d, e], _ =>
    have hx : xs.length = 5 := hlen
    match xs, hx with
    | [x0, x1, x2, x3, x4], _ =>
      have h0 := hf 0 _ rfl
      have h1 := hf 1 _ rfl
      have h2 := hf 2 _ rfl
      have h3 := hf 3 _ rfl
      have h4 := hf 4 _ rfl
      simp [c3, c9] at h0 h1 h2 h3 h4
      obtain ⟨k, he, _⟩ := DataW.trod_int Try.underlying3 h0
      obtain ⟨i, he1, _⟩ := DataW.trod_int Try.underlying3 h1
      obtain ⟨m, he2, _⟩ := DataW.trod_int Try.underlying3 h2
      obtain ⟨c', he3, _⟩ := DataW.trod_int Try.underlying3 h3
      obtain ⟨s, he4, _⟩ := DataW.trod_string Try.underlying9 h4
      simp at he he1 he2 he3 he4
      subst he; subst he1; subst he2; subst he3; subst he4
      exact ⟨⟨k, i, m, c', s⟩, trivial, rfl⟩
theorem opens_pvs : Opens Try.prog pvl 32 (fun _ => True) := fun enc w base spare held fuel cs x h => by
  obtain ⟨a, _, hK⟩ := (Opens.slice 84 Try.underlying32 (by kernel_rfl) opens_pv) enc w base spare held fuel cs x h
  exact ⟨a, trivial, hK⟩
theorem opens_pvss : Opens Try.prog (Kd.slice 32 pvl) 22 (fun _ => True) := fun enc w base spare held fuel cs x h => by
  obtain ⟨a, _, hK⟩ := (Opens.slice 32 Try.underlying22 (by kernel_rfl) opens_pvs) enc w base spare held fuel cs x h
  exact ⟨a, trivial, hK⟩
end Go.Proofs.Ytnmahbpkaocjdaa
