/-
  PipeExact: the calls that only read, as a region that draws asks for them.
-/
import Derived.Test.YtnmahbpkaocjdaaPipeT
set_option linter.unusedVariables false
namespace Go.Proofs.Ytnmahbpkaocjdaa
open Go.RowKit Go.Proofs.YtnmahbpkaocjdaaW.PrintWords
theorem Full_q {w0 w : World} {top : Nat → Prop} {sb : Nat} {chs : List Ch} (h : PRep w0 w top sb chs) (k : Nat) (hk : k < chs.length) :
    Calls Try.prog 22 #[.pointer (some ⟨sb, 0, none⟩), .int .i64 ((k + 1 : Nat) : Int)] w fun e w' => e = .returned (.bool (decide ((chs[k]'hk).room ≤ ((chs[k]'hk).q.length : Int)))) ∧ ∃ m, w' = w.drewN m := by
  have hc := h.each _ (List.getElem_mem hk)
  have hb := hc.blk
  have c0 : w.cell? ⟨(chs[k]'hk).b, 0, none⟩ = some (.int .i64 (chs[k]'hk).room) := by rw [blk_cell hb]; rfl
  obtain ⟨A, c, hv, _⟩ := Kd.Q_slice hc.row
  have c1 : w.cell? ⟨(chs[k]'hk).b, 1, none⟩ = some (.slice A (chs[k]'hk).q.length c) := by rw [blk_cell hb, ← hv]; rfl
  clear hb hc hv
  go_enter Try.func22, Try.ntmps22
  go_wp2_with (go_at_call 37; refine (channel_in h k hk).mono ?_; rintro e w' ⟨rfl, rfl⟩)
  go_quiet (fail)
  go_wp2
  go_ret
  exact ⟨rfl, nq, rfl⟩
section
variable {w0 w : World} {top : Nat → Prop} {sb : Nat} {chs : List Ch} {rok : Nat → Prop} {uv : Value} {us : List Uc}
theorem Bo.drewN (h : Bo w0 w top sb chs rok uv us) (n : Nat) : Bo w0 (w.drewN n) top sb chs rok uv us := h.upd ((Upd.refl (fun _ => False) w).drewN n) (fun _ _ h => h)
theorem Bo.q_room (h : Bo w0 w top sb chs rok uv us) (k : Nat) (hk : k < us.length) (n : Nat) :
    Calls Try.prog 11 #[.pointer (some ⟨sb, 0, none⟩), .int .i64 ((k : Int) + 1)] (w.drewN n) fun e w' => e = .returned (.int .i64 (us[k]'hk).room) ∧ ∃ m, w' = w.drewN m := by
  have hk' : k < chs.length := by rw [h.len]; exact hk
  have := Room_in (h.drewN n).p k hk'
  rw [show ((k + 1 : Nat) : Int) = (k : Int) + 1 by omega, (h.same k hk' hk).1] at this
  exact this.mono (by rintro e w1 ⟨rfl, rfl⟩; exact ⟨rfl, n, rfl⟩)
theorem Bo.q_full (h : Bo w0 w top sb chs rok uv us) (k : Nat) (hk : k < us.length) (n : Nat) :
    Calls Try.prog 22 #[.pointer (some ⟨sb, 0, none⟩), .int .i64 ((k : Int) + 1)] (w.drewN n) fun e w' => e = .returned (.bool (decide ((us[k]'hk).room ≤ ((us[k]'hk).q.length : Int)))) ∧ ∃ m, w' = w.drewN m := by
  have hk' : k < chs.length := by rw [h.len]; exact hk
  have := Full_q (h.drewN n).p k hk'
  rw [show ((k + 1 : Nat) : Int) = (k : Int) + 1 by omega, (h.same k hk' hk).1, (h.same k hk' hk).2.1] at this
  refine this.mono ?_
  rintro e w1 ⟨rfl, m, rfl⟩
  exact ⟨rfl, n + m, by simp [World.drewN, Nat.add_assoc]⟩
theorem Bo.q_empty (h : Bo w0 w top sb chs rok uv us) (k : Nat) (hk : k < us.length) (n : Nat) :
    Calls Try.prog 17 #[.pointer (some ⟨sb, 0, none⟩), .int .i64 ((k : Int) + 1)] (w.drewN n) fun e w' => e = .returned (.bool (((us[k]'hk).q.length : Int) == 0)) ∧ ∃ m, w' = w.drewN m := by
  have hk' : k < chs.length := by rw [h.len]; exact hk
  have := Empty_in (h.drewN n).p k hk'
  rw [show ((k + 1 : Nat) : Int) = (k : Int) + 1 by omega, (h.same k hk' hk).2.1] at this
  exact this.mono (by rintro e w1 ⟨rfl, rfl⟩; exact ⟨rfl, n, rfl⟩)
theorem Bo.q_closed (h : Bo w0 w top sb chs rok uv us) (k : Nat) (hk : k < us.length) (n : Nat) :
    Calls Try.prog 18 #[.pointer (some ⟨sb, 0, none⟩), .int .i64 ((k : Int) + 1)] (w.drewN n) fun e w' => e = .returned (.bool (us[k]'hk).closed) ∧ ∃ m, w' = w.drewN m := by
  have hk' : k < chs.length := by rw [h.len]; exact hk
  have := IsClosed_in (h.drewN n).p k hk'
  rw [show ((k + 1 : Nat) : Int) = (k : Int) + 1 by omega, (h.same k hk' hk).2.2] at this
  exact this.mono (by rintro e w1 ⟨rfl, rfl⟩; exact ⟨rfl, n, rfl⟩)
end
end Go.Proofs.Ytnmahbpkaocjdaa
