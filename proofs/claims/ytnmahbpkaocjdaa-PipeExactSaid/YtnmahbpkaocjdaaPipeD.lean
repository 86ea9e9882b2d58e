/-
  Channels: slices.Clone of a row of values.
-/
import Derived.Test.YtnmahbpkaocjdaaPipeC
set_option linter.unusedVariables false
namespace Go.Proofs.Ytnmahbpkaocjdaa
open Go.RowKit Go.Proofs.YtnmahbpkaocjdaaW.PrintWords

theorem info84 : (Try.prog.info? 84).map (fun i => (i.zero, i.size, i.bytes)) = some (some (.agg #[.int .i64 0, .int .i64 0, .int .i64 0, .int .i64 0, .string ByteArray.empty]), 5, 48) := by kernel_rfl

/-- A fresh row of values: what Clone hands back. -/
def Cloned (w : World) (xs : List PV) (e : Ending) (w' : World) : Prop := ∃ A c, e = .returned (.slice A xs.length c) ∧ pvk.R 84 w' w.heap.size (fun k => w.heap.size ≤ k) (.slice A xs.length c) xs ∧ Below w.heap.size w w'

theorem Clone_calls (w : World) (A : Option Addr) (c : Nat) (xs : List PV) (hn : A = none → xs.length = 0) (hC : pvk.C w A xs.length xs) (hl : xs.length ≤ 1000) :
    Calls Try.prog 38 #[.slice A xs.length c] w (Cloned w xs) := by
  have qT : ∀ (w : World) (a : Option Addr) (n c : Nat), (binOp .eql 32 (.slice a n c) (.slice none 0 0)).run Try.prog w = .ok (.bool a.isNone) w := fun w a n c => Lib.run_eql_slice_nil w 32 84 a n c 0 0 Try.underlying32
  cases A with
  | none =>
    have h0 := hn rfl
    obtain rfl : xs = [] := List.eq_nil_of_length_eq_zero h0
    clear h0 hn
    go_enter Try.func38, Try.ntmps38
    go_wp2
    go_ret
    exact ⟨none, 0, rfl, Kd.R_nil _ _ _ _ _, Below.refl _ _⟩
  | some ad =>
    have HC := Aside0.mk hC
    clear hC hn
    go_enter Try.func38, Try.ntmps38
    go_wp2_with (at_builtin; refine Stand.stop ?_)
    refine Stand.go ?_
    refine Kd.R_append_rows pvk (Rr := pvk.K (w.alloc (.cells #[] 84))) (w0 := w) w.heap.size rfl (.tmp 5) (.tmp 6) 32 84 _ 48 rfl Try.underlying32 info84 rfl (by decide) (by decide) (.slice (some ⟨w.heap.size, 0, none⟩) 0 0) [] xs (some ad) xs.length c (fun k => w.heap.size ≤ k) (fun k => False) (by rfl) (by rfl) ?c1 ?c2 ?c3 ?c4 ?c5 ?c6 ?c7 ?c8 ?_
    case c1 => exact R_empty pvk w (e := 84) (fun k => w.heap.size ≤ k) (Nat.le_refl _)
    case c2 => exact Kd.C_alloc HC.out _
    case c3 => exact fun x cs h => h
    case c4 => exact fun k h => h.elim
    case c5 => intro k hk; simp at hk; omega
    case c6 => exact (Below.refl _ _).alloc (Nat.le_refl _) _
    case c7 => simp
    case c8 => simp; omega
    intro v1 w1 hr hb hg hat
    obtain ⟨A1, c1, hv⟩ := Kd.R_slice hr
    rw [List.nil_append] at hr hv
    rw [hv] at hr ⊢
    have HR := Aside0.mk hr
    clear hr hv hat hg
    go_wp2
    go_ret
    exact ⟨A1, c1, rfl, HR.out, hb⟩
end Go.Proofs.Ytnmahbpkaocjdaa
