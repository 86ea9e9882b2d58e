/-
  What came in, read as data: out of an argument's reading (DataW.trod) what its cells say, kind by kind.
-/
import Derived.Test.YtikipnbdccbnfaaProg
import Derived.Test.YtikipnbdccbnfaaWWords
import Derived.ProofKit
import Derived.OpenShut
import Derived.Deep.Slices
set_option linter.unusedVariables false
namespace Go.Proofs.Ytikipnbdccbnfaa
open Go.RowKit Go.Proofs.YtikipnbdccbnfaaW.PrintWords

/-- Whatever reads as type t is of kind d, and G holds of it. -/
def Opens {α : Type} (P : Program) (d : Kd α) (t : TypeId) (G : α → Prop) : Prop :=
  ∀ {H : Type} (enc : TypeId × Value → H) (w : World) (base : Nat) (spare : Nat → Bool) (held : Bool) (fuel : Nat) (cs : List Value) (x : DataW H × List MemPlace),
    DataW.trod enc P w base spare held fuel t cs = some x → ∃ a, G a ∧ d.K w a cs

theorem Opens.int {P : Program} {k : IntKind} {t : TypeId} (ht : P.underlying t = some (.int k)) : Opens P (Kd.int k) t (fun n => (Lit.int k n).wf = true) := by
  intro H enc w base spare held fuel cs x h
  obtain ⟨n, rfl, _, hw⟩ := DataW.trod_int ht h
  exact ⟨n, hw, rfl⟩
theorem Opens.bool {P : Program} {t : TypeId} (ht : P.underlying t = some .bool) : Opens P Kd.bool t (fun _ => True) := by
  intro H enc w base spare held fuel cs x h
  obtain ⟨b, rfl, _⟩ := DataW.trod_bool ht h
  exact ⟨b, trivial, rfl⟩
theorem Opens.string {P : Program} {t : TypeId} (ht : P.underlying t = some .string) : Opens P Kd.string t (fun s => s.size ≤ maxLen) := by
  intro H enc w base spare held fuel cs x h
  obtain ⟨s, rfl, _, hs⟩ := DataW.trod_string ht h
  exact ⟨s, hs, rfl⟩

theorem cells_at {w : World} {base n : Nat} {a : Addr} {cs : List Value} (h : w.cells? base a n = some cs) : cs.length = n ∧ ∀ i u, cs[i]? = some u → w.cell? (a.add i) = some u := by
  obtain ⟨_, hl, hc⟩ := World.cells?_some h
  exact ⟨hl, fun i u hu => by rw [hc i (by have := (List.getElem?_eq_some_iff.1 hu).1; omega)]; exact hu⟩

theorem Opens.slice {α : Type} {P : Program} {d : Kd α} {t e : TypeId} {G : α → Prop} (e' : Nat) (ht : P.underlying t = some (.slice e)) (hsz : P.cellsOf e = d.sz) (h : Opens P d e G) : Opens P (Kd.slice e' d) t (fun xs => ∀ x ∈ xs, G x) := by
  intro H enc w base spare held fuel cs x hx
  rcases DataW.trod_slice ht hx with ⟨rfl, _⟩ | ⟨a, len, cap, elems, rest, n, _, rfl, _, hb, hl, hm, hlen, hel, _, _⟩
  · exact ⟨[], by simp, none, 0, rfl, Nat.le_refl _, Kd.C_nil d w⟩
  · have key : ∀ i, i < len → ∃ (y : α) (cs' : List Value), G y ∧ d.K w y cs' ∧ w.cells? base (a.add (i * d.sz)) d.sz = some cs' := by
      intro i hi
      have h1 := hel i hi
      rw [List.getElem?_eq_getElem (by omega)] at h1
      obtain ⟨cs', h2, h3⟩ := Option.bind_eq_some_iff.1 h1
      obtain ⟨y, hG, hK⟩ := h enc w base spare held n cs' _ h3
      rw [hsz] at h2
      exact ⟨y, cs', hG, hK, h2⟩
    classical
    have key2 : ∀ m, m ≤ len → ∃ xs : List α, xs.length = m ∧ (∀ x ∈ xs, G x) ∧ ∀ j p, xs[j]? = some p → ∃ cs', d.K w p cs' ∧ w.cells? base (a.add (j * d.sz)) d.sz = some cs' := by
      intro m
      induction m with
      | zero => exact fun _ => ⟨[], rfl, by simp, by simp⟩
      | succ m ih =>
        intro hm1
        obtain ⟨xs, h1, h2, h3⟩ := ih (by omega)
        obtain ⟨y, cs', hG, hK, hc⟩ := key m (by omega)
        refine ⟨xs ++ [y], by simp [h1], fun x hx => ?_, fun j p hp => ?_⟩
        · rcases List.mem_append.1 hx with hx | hx
          · exact h2 x hx
          · rw [List.mem_singleton.1 hx]; exact hG
        · rcases Nat.lt_or_ge j xs.length with hj | hj
          · rw [List.getElem?_append_left hj] at hp
            exact h3 j p hp
          · have hjm : j = m := by
              have := (List.getElem?_eq_some_iff.1 hp).1
              rw [List.length_append, List.length_singleton] at this
              omega
            subst hjm
            rw [List.getElem?_append_right hj, h1] at hp
            have hp' : y = p := by simpa using hp
            subst hp'
            exact ⟨cs', hK, hc⟩
    obtain ⟨xs, h1, h2, h3⟩ := key2 len (Nat.le_refl _)
    refine ⟨xs, h2, some a, cap, by rw [h1], by omega, ⟨rfl, by rw [h1]; simp only [maxLen] at hm; omega, fun hp => ⟨a, rfl, fun j p hp => ?_⟩⟩⟩
    obtain ⟨cs', hK, hc⟩ := h3 j p hp
    obtain ⟨hcl, hcc⟩ := cells_at hc
    refine ⟨cs', hcl, hK, fun i u hu => ?_⟩
    have := hcc i u hu
    rwa [Go.Proofs.YtikipnbdccbnfaaW.PrintWords.add_add] at this
end Go.Proofs.Ytikipnbdccbnfaa
