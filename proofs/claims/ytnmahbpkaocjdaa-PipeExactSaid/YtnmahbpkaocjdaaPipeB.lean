/-
  Channels: the calls that read (Len, Room, Full, Empty, IsClosed), and Close, New.
-/
import Derived.Test.YtnmahbpkaocjdaaPipeA
import Derived.Deep.QuietTactic
import Derived.BigQuiet
set_option linter.unusedVariables false
namespace Go.Proofs.Ytnmahbpkaocjdaa
open Go.RowKit Go.Proofs.YtnmahbpkaocjdaaW.PrintWords

section
variable {w0 w : World} {top : Nat → Prop} {sb : Nat} {chs : List Ch}

theorem Len_calls (h : PRep w0 w top sb chs) :
    Calls Try.prog 21 #[.pointer (some ⟨sb, 0, none⟩)] w fun e w' => e = .returned (.int .i64 (chs.length : Int)) ∧ w = w' := by
  obtain ⟨A, c, hc, _, _⟩ := h.list
  go_enter Try.func21, Try.ntmps21
  go_wp2
  go_ret
  exact ⟨rfl, rfl⟩

theorem Room_out (h : PRep w0 w top sb chs) (i : Int) (hi : i < 1 ∨ (chs.length : Int) < i) :
    Calls Try.prog 11 #[.pointer (some ⟨sb, 0, none⟩), .int .i64 i] w fun e w' => e = .returned (.int .i64 0) ∧ w = w' := by
  go_enter Try.func11, Try.ntmps11
  go_wp2_with (go_at_call 37; refine (channel_out h _ hi).mono ?_; rintro e w' ⟨rfl, rfl⟩)
  go_ret
  exact ⟨rfl, rfl⟩
theorem Room_in (h : PRep w0 w top sb chs) (k : Nat) (hk : k < chs.length) :
    Calls Try.prog 11 #[.pointer (some ⟨sb, 0, none⟩), .int .i64 ((k + 1 : Nat) : Int)] w fun e w' => e = .returned (.int .i64 (chs[k]'hk).room) ∧ w = w' := by
  have hc := h.each _ (List.getElem_mem hk)
  have hb := hc.blk
  have c0 : w.cell? ⟨(chs[k]'hk).b, 0, none⟩ = some (.int .i64 (chs[k]'hk).room) := by rw [blk_cell hb]; rfl
  clear hb hc
  go_enter Try.func11, Try.ntmps11
  go_wp2_with (go_at_call 37; refine (channel_in h k hk).mono ?_; rintro e w' ⟨rfl, rfl⟩)
  go_ret
  exact ⟨rfl, rfl⟩

theorem Full_out (h : PRep w0 w top sb chs) (i : Int) (hi : i < 1 ∨ (chs.length : Int) < i) :
    Calls Try.prog 22 #[.pointer (some ⟨sb, 0, none⟩), .int .i64 i] w fun e w' => e = .returned (.bool true) ∧ Same w w' := by
  go_enter Try.func22, Try.ntmps22
  go_wp2_with (go_at_call 37; refine (channel_out h _ hi).mono ?_; rintro e w' ⟨rfl, rfl⟩)
  go_quiet (fail)
  go_wp2
  go_ret
  exact ⟨rfl, Same.drewN _ _⟩
theorem Full_in (h : PRep w0 w top sb chs) (k : Nat) (hk : k < chs.length) :
    Calls Try.prog 22 #[.pointer (some ⟨sb, 0, none⟩), .int .i64 ((k + 1 : Nat) : Int)] w fun e w' => e = .returned (.bool (decide ((chs[k]'hk).room ≤ ((chs[k]'hk).q.length : Int)))) ∧ Same w w' := by
  have hc := h.each _ (List.getElem_mem hk)
  have hb := hc.blk
  have c0 : w.cell? ⟨(chs[k]'hk).b, 0, none⟩ = some (.int .i64 (chs[k]'hk).room) := by rw [blk_cell hb]; rfl
  obtain ⟨A, c, hv, _⟩ := Kd.Q_slice hc.row
  have c1 : w.cell? ⟨(chs[k]'hk).b, 1, none⟩ = some (.slice A (chs[k]'hk).q.length c) := by rw [blk_cell hb, ← hv]; rfl
  clear hb hc hv
  go_enter Try.func22, Try.ntmps22
  go_wp2_with (go_at_call 37; refine (channel_in h k hk).mono ?_; rintro e w' ⟨rfl, rfl⟩)
  go_quiet (fail)
  go_wp2
  go_ret
  exact ⟨rfl, Same.drewN _ _⟩

theorem Empty_out (h : PRep w0 w top sb chs) (i : Int) (hi : i < 1 ∨ (chs.length : Int) < i) :
    Calls Try.prog 17 #[.pointer (some ⟨sb, 0, none⟩), .int .i64 i] w fun e w' => e = .returned (.bool true) ∧ w = w' := by
  go_enter Try.func17, Try.ntmps17
  go_wp2_with (go_at_call 37; refine (channel_out h _ hi).mono ?_; rintro e w' ⟨rfl, rfl⟩)
  go_ret
  exact ⟨rfl, rfl⟩
theorem Empty_in (h : PRep w0 w top sb chs) (k : Nat) (hk : k < chs.length) :
    Calls Try.prog 17 #[.pointer (some ⟨sb, 0, none⟩), .int .i64 ((k + 1 : Nat) : Int)] w fun e w' => e = .returned (.bool (((chs[k]'hk).q.length : Int) == 0)) ∧ w = w' := by
  have hc := h.each _ (List.getElem_mem hk)
  have hb := hc.blk
  obtain ⟨A, c, hv, _⟩ := Kd.Q_slice hc.row
  have c1 : w.cell? ⟨(chs[k]'hk).b, 1, none⟩ = some (.slice A (chs[k]'hk).q.length c) := by rw [blk_cell hb, ← hv]; rfl
  clear hb hc hv
  go_enter Try.func17, Try.ntmps17
  go_wp2_with (go_at_call 37; refine (channel_in h k hk).mono ?_; rintro e w' ⟨rfl, rfl⟩)
  go_ret
  exact ⟨rfl, rfl⟩

theorem IsClosed_out (h : PRep w0 w top sb chs) (i : Int) (hi : i < 1 ∨ (chs.length : Int) < i) :
    Calls Try.prog 18 #[.pointer (some ⟨sb, 0, none⟩), .int .i64 i] w fun e w' => e = .returned (.bool false) ∧ w = w' := by
  go_enter Try.func18, Try.ntmps18
  go_wp2_with (go_at_call 37; refine (channel_out h _ hi).mono ?_; rintro e w' ⟨rfl, rfl⟩)
  go_ret
  exact ⟨rfl, rfl⟩
theorem IsClosed_in (h : PRep w0 w top sb chs) (k : Nat) (hk : k < chs.length) :
    Calls Try.prog 18 #[.pointer (some ⟨sb, 0, none⟩), .int .i64 ((k + 1 : Nat) : Int)] w fun e w' => e = .returned (.bool (chs[k]'hk).closed) ∧ w = w' := by
  have hc := h.each _ (List.getElem_mem hk)
  have hb := hc.blk
  have c2 : w.cell? ⟨(chs[k]'hk).b, 2, none⟩ = some (.bool (chs[k]'hk).closed) := by rw [blk_cell hb]; rfl
  clear hb hc
  go_enter Try.func18, Try.ntmps18
  go_wp2_with (go_at_call 37; refine (channel_in h k hk).mono ?_; rintro e w' ⟨rfl, rfl⟩)
  go_ret
  exact ⟨rfl, rfl⟩
end

theorem New_calls (w : World) :
    Calls Try.prog 9 #[] w fun e w' => e = .returned (.pointer (some ⟨w.heap.size, 0, none⟩)) ∧ w' = w.alloc (.cells #[.slice none 0 0] 87) := by
  go_enter Try.func9, Try.ntmps9
  go_wp2
  go_ret
  exact ⟨rfl, rfl⟩
end Go.Proofs.Ytnmahbpkaocjdaa
