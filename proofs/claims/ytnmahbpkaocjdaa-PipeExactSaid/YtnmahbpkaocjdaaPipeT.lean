/-
  PipeExact: the calls as the walk asks for them.
-/
import Derived.Test.YtnmahbpkaocjdaaPipeS
set_option linter.unusedVariables false
namespace Go.Proofs.Ytnmahbpkaocjdaa
open Go.RowKit Go.Proofs.YtnmahbpkaocjdaaW.PrintWords

theorem info45 : (Try.prog.info? 45).map (fun i => (i.zero, i.size, i.bytes)) = some (some (.agg #[.int .i64 0, .slice none 0 0, .bool false]), 3, 40) := by kernel_rfl

theorem Upd.undrew {S : Nat → Prop} {w w1 : World} (h : Upd S w.drew w1) : Upd S w w1 := ⟨h.os, h.tape, h.output, h.size, h.block⟩

section
variable {w0 w : World} {top : Nat → Prop} {sb : Nat} {chs : List Ch} {rok : Nat → Prop} {uv : Value} {us : List Uc}

theorem Bo.make_bad (h : Bo w0 w top sb chs rok uv us) (r : Int) (hr : r < 0 ∨ 1024 < r) :
    Calls Try.prog 10 #[.pointer (some ⟨sb, 0, none⟩), .int .i64 r] w fun e w' => e = .returned (.tuple #[.int .i64 0, .int .i64 1]) ∧ w = w' := Make_bad sb r hr

theorem Bo.make_ok (h : Bo w0 w top sb chs rok uv us) (h0 : w0.heap.size ≤ w.heap.size) (r : Int) (hr0 : 0 ≤ r) (hr1 : r ≤ 1024) (hf : us.length < 1000) :
    Calls Try.prog 10 #[.pointer (some ⟨sb, 0, none⟩), .int .i64 r] w fun e w1 => e = .returned (.tuple #[.int .i64 ((us.length : Int) + 1), .int .i64 0]) ∧ Upd (Bo.fp top chs rok us) w w1 ∧ rawk.R 45 w1 w0.heap.size rok uv (us.map Uc.raw) ∧
      ∀ w1a w2 v2, Below w1.heap.size w1 w1a → w1a.grownBy w2 uv.ownBlock → rawk.R 45 w2 w0.heap.size (fun j => rok j ∨ w1.heap.size ≤ j) v2 (us.map Uc.raw ++ [(r, .slice none 0 0, false)]) → Ex w0 w2 sb v2 (us.length + 1) := by
  refine (Make_ok h.p h0 r hr0 hr1 (by rw [h.len]; exact hf)).mono ?_
  rintro e w1 ⟨top', c, rfl, hu1, ht, hc, c1, c2, c3, hp⟩
  refine ⟨?_, hu1.mono (fun j _ hj => .inl (.inl hj)), Kd.R_upd h.u.row hu1 (fun j hj h2 => h.dis j (.inl h2) (.inl hj)), fun w1a w2 v2 hb hg hr => h.made h0 hr0 hr1 hf hu1 ht hc c1 c2 c3 hp hb hg hr⟩
  rw [h.len]
  simp

theorem Bo.len_calls (h : Bo w0 w top sb chs rok uv us) :
    Calls Try.prog 21 #[.pointer (some ⟨sb, 0, none⟩)] w fun e w' => e = .returned (.int .i64 (us.length : Int)) ∧ w = w' := by
  have := Len_calls h.p
  rw [h.len] at this
  exact this
theorem Bo.room (h : Bo w0 w top sb chs rok uv us) (k : Nat) (hk : k < us.length) :
    Calls Try.prog 11 #[.pointer (some ⟨sb, 0, none⟩), .int .i64 ((k : Int) + 1)] w fun e w' => e = .returned (.int .i64 (us[k]'hk).room) ∧ Same w w' := by
  have hk' : k < chs.length := by rw [h.len]; exact hk
  have := Room_in h.p k hk'
  rw [show ((k + 1 : Nat) : Int) = (k : Int) + 1 by omega, (h.same k hk' hk).1] at this
  exact this.mono (by rintro e w1 ⟨rfl, rfl⟩; exact ⟨rfl, Same.refl _⟩)
theorem Bo.full (h : Bo w0 w top sb chs rok uv us) (k : Nat) (hk : k < us.length) :
    Calls Try.prog 22 #[.pointer (some ⟨sb, 0, none⟩), .int .i64 ((k : Int) + 1)] w fun e w' => e = .returned (.bool (decide ((us[k]'hk).room ≤ ((us[k]'hk).q.length : Int)))) ∧ Same w w' := by
  have hk' : k < chs.length := by rw [h.len]; exact hk
  have := Full_in h.p k hk'
  rw [show ((k + 1 : Nat) : Int) = (k : Int) + 1 by omega, (h.same k hk' hk).1, (h.same k hk' hk).2.1] at this
  exact this
theorem Bo.empty (h : Bo w0 w top sb chs rok uv us) (k : Nat) (hk : k < us.length) :
    Calls Try.prog 17 #[.pointer (some ⟨sb, 0, none⟩), .int .i64 ((k : Int) + 1)] w fun e w' => e = .returned (.bool (((us[k]'hk).q.length : Int) == 0)) ∧ Same w w' := by
  have hk' : k < chs.length := by rw [h.len]; exact hk
  have := Empty_in h.p k hk'
  rw [show ((k + 1 : Nat) : Int) = (k : Int) + 1 by omega, (h.same k hk' hk).2.1] at this
  exact this.mono (by rintro e w1 ⟨rfl, rfl⟩; exact ⟨rfl, Same.refl _⟩)
theorem Bo.isClosed (h : Bo w0 w top sb chs rok uv us) (k : Nat) (hk : k < us.length) :
    Calls Try.prog 18 #[.pointer (some ⟨sb, 0, none⟩), .int .i64 ((k : Int) + 1)] w fun e w' => e = .returned (.bool (us[k]'hk).closed) ∧ Same w w' := by
  have hk' : k < chs.length := by rw [h.len]; exact hk
  have := IsClosed_in h.p k hk'
  rw [show ((k + 1 : Nat) : Int) = (k : Int) + 1 by omega, (h.same k hk' hk).2.2] at this
  exact this.mono (by rintro e w1 ⟨rfl, rfl⟩; exact ⟨rfl, Same.refl _⟩)
end

theorem Has_out (w : World) (A : Option Addr) (n c : Nat) (i : Int) (hi : i < 1 ∨ (n : Int) < i) :
    Calls Try.prog 20 #[.slice A n c, .int .i64 i] w fun e w' => e = .returned (.bool false) ∧ w = w' := by
  have hb : (decide (1 ≤ i) && decide (i ≤ (n : Int))) = false := by
    rw [Bool.and_eq_false_iff, decide_eq_false_iff_not, decide_eq_false_iff_not]
    omega
  have hc := Has_calls w A n c i
  rw [hb] at hc
  exact hc
theorem Same_self (w : World) (A B : Option Addr) (c d : Nat) (xs : List PV) (h1 : pvk.C w A xs.length xs) (h2 : pvk.C w B xs.length xs) :
    Calls Try.prog 16 #[.slice A xs.length c, .slice B xs.length d] w fun e w' => e = .returned (.bool true) ∧ Same w w' := by
  have := Same_eq w A B c d xs xs rfl h1 h2
  simpa using this
end Go.Proofs.Ytnmahbpkaocjdaa
namespace Go.Proofs.Ytnmahbpkaocjdaa
open Go.RowKit Go.Proofs.YtnmahbpkaocjdaaW.PrintWords
section
variable {w0 w : World} {top : Nat → Prop} {sb : Nat} {chs : List Ch} {rok : Nat → Prop} {uv : Value} {us : List Uc}
theorem Bo.close_twice (h : Bo w0 w top sb chs rok uv us) (k : Nat) (hk : k < us.length) (hcl : (us[k]'hk).closed = true) :
    Calls Try.prog 14 #[.pointer (some ⟨sb, 0, none⟩), .int .i64 ((k : Int) + 1)] w fun e w1 => e = .returned (.int .i64 15) ∧ MidC w0 (Bo.fp top chs rok us) sb uv us.length k true w w1 := by
  have := h.close_in k hk
  rw [hcl] at this
  exact this
theorem Bo.close_once (h : Bo w0 w top sb chs rok uv us) (k : Nat) (hk : k < us.length) (hcl : (us[k]'hk).closed = false) :
    Calls Try.prog 14 #[.pointer (some ⟨sb, 0, none⟩), .int .i64 ((k : Int) + 1)] w fun e w1 => e = .returned (.int .i64 0) ∧ MidC w0 (Bo.fp top chs rok us) sb uv us.length k false w w1 := by
  have := h.close_in k hk
  rw [hcl] at this
  exact this
end
end Go.Proofs.Ytnmahbpkaocjdaa
