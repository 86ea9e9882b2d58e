-- Walks: printed by a program (wip/tools) with the printer of the kit; contracts that it lacked are typed by hand.
import Derived.Test.YtikipnbdccbnfaaGL0
import Derived.Test.YtikipnbdccbnfaaGLmlatticeGood
import Derived.Test.YtikipnbdccbnfaaGL2
import Derived.Test.YtikipnbdccbnfaaNum
import Derived.Laws.CopyOwn
import Derived.Deep.RegionLaw
import Derived.IntWalk
namespace Go.Proofs.Ytikipnbdccbnfaa.GL
open Go.RowKit Go.Proofs.YtikipnbdccbnfaaW.PrintWords Go.Proofs.YtikipnbdccbnfaaW.PrintLast Go.Proofs.YtikipnbdccbnfaaW.PrintMore
attribute [local go_sem] max2_int min2_int max_two min_two max_three min_three max_four min_four   -- for this text's walks alone
set_option linter.unusedVariables false
set_option linter.unusedSimpArgs false

/-! ### slices_Repeat_int_int (typed by hand) -/

def slices_Repeat_int_int.f (l0 : List Int) (a1 : Int) : Option (List Int) := if 0 ≤ a1 ∧ a1 ≤ 65536 ∧ l0.length = 1 then some (List.replicate a1.toNat (rd l0 0)) else none
theorem mul_one_n (n : Int) (h0 : 0 ≤ n) (h1 : n ≤ 65536) : bits_Mul.f 1 n = some (0, n) := by
  unfold bits_Mul.f bits_Mul64.f
  rw [mul64_hi 1 n (by decide) (by decide) h0 (by omega), mul64_lo, Int.one_mul]
  simp only [Option.bind_some]
  rw [show n / 18446744073709551616 = 0 by omega, show n % 18446744073709551616 = n by omega]
theorem info3s : (Try.prog.info? 3).map (·.size) = some 1 := by kernel_rfl
theorem fill_splice {α : Type} {L : List α} {k m : Nat} {v : α} (h : L.take k = List.replicate k v) (hl : k + m ≤ L.length) : (splice L k (List.replicate m v)).take (k + m) = List.replicate (k + m) v := by
  unfold splice
  rw [h, List.length_replicate, ← List.append_assoc, List.replicate_append_replicate]
  rw [List.take_append_of_le_length (by simp)]
  simp
set_option maxHeartbeats 8000000 in
set_option maxRecDepth 100000 in
theorem slices_Repeat_int_int.calls (A0 : Option Addr) (c0 : Nat) (l0 : List Int) (a1 : Int) (r : List Int) (w : World) (hr0 : Kd.C (Kd.int .i64) w A0 l0.length l0) (hc0 : l0.length ≤ c0) (h : slices_Repeat_int_int.f l0 a1 = some r) :
    Calls Try.prog 66 #[.slice A0 l0.length c0, .int .i64 a1] w fun e w' => ∃ v0_ : Value, e = .returned (v0_) ∧ Kd.R (Kd.int .i64) 3 w' w.heap.size (fun _ => True) v0_ r ∧ Below w.heap.size w w' := by
  unfold slices_Repeat_int_int.f at h
  by_cases hh : 0 ≤ a1 ∧ a1 ≤ 65536 ∧ l0.length = 1
  · rw [if_pos hh] at h
    obtain ⟨h0, h1, h2⟩ := hh
    obtain rfl := Option.some.inj h
    obtain ⟨x, rfl⟩ : ∃ x, l0 = [x] := List.length_eq_one_iff.1 h2
    obtain ⟨n, rfl⟩ : ∃ n : Nat, a1 = (n : Int) := ⟨a1.toNat, by omega⟩
    have HR := Aside0.mk hr0
    have HM := Aside0.mk (bits_Mul.calls 1 (n : Int) 0 (n : Int) w (mul_one_n _ h0 h1))
    clear h hr0 h2
    go_enter Try.func66, Try.ntmps66
    go_wp2_with (go_at_call 124; refine Stand.stop ?_)
    refine Stand.go ?_
    refine HM.out.mono ?_
    rintro e w1 ⟨rfl, hd1⟩
    have HB1 : Aside0 (Below w.heap.size w w1) := ⟨hd1.below⟩
    clear hd1 HM
    have hd1 : decide ((9223372036854775807 : Int) < (n : Int)) = false := by simp; omega
    go_wp2_with (first | ((with_reducible refine gate_dst (N := 30) rfl ?_); refine Stand.stop ?_))
    refine Stand.go ?_
    refine Kd.R_make (Kd.int .i64) (w0 := w) (W := w1) w.heap.size 3 rfl (N := 30) rfl 22 (.tmp 29) (.tmp 29) rfl (n : Int) rfl rfl Try.underlying22 (.int .i64 0) 8 info3 rfl (by decide) (by omega) 0 (ok := fun _ => True) (okp := fun _ => True) rfl (fun _ hk => hk) trivial (by omega) (by omega) HB1.out HB1.out.size ?_
    intro v2 w2 hr2 hb2 hg2 hn2
    rw [Int.toNat_natCast] at hr2
    obtain ⟨hlen, hcase⟩ := Kd.own_of_R hr2
    rcases hcase with ⟨rfl, _⟩ | ⟨g, cap, cur, rfl, hgb, hh, hnc, hcm, hcs, _⟩
    · obtain ⟨b, hb, _⟩ := hn2
      cases hb
    rw [List.length_replicate] at hnc hlen
    have HH : Aside0 (w2.heap[g]? = some (.cells cur.toList.toArray 3 (0, 0))) := ⟨by simpa using hh⟩
    have HB2 := Aside0.mk hb2
    have HGB := Aside0.mk hgb
    have HCAP := Aside0.mk hcm
    have HCS : Aside0 (cur.toList.length = cap) := ⟨by rw [Array.length_toList]; omega⟩
    have HRX := Aside0.mk (Kd.C_below HR.out hb2)
    rw [List.length_replicate]
    clear hr2 hb2 hg2 hn2 hlen hgb hh hcs hcm HB1
    go_wp2_with (first | ((with_reducible refine gate_dst (N := 33) rfl ?_); refine Stand.stop ?_))
    refine Stand.go ?_
    obtain ⟨k0, hk0e, hk01, hkn, hk0c⟩ : ∃ k0, k0 = Nat.min 1 n ∧ k0 ≤ 1 ∧ k0 ≤ n ∧ (n = 0 ∨ 1 ≤ k0) := ⟨_, rfl, Nat.min_le_left _ _, Nat.min_le_right _ _, by
      rcases Nat.eq_zero_or_pos n with h | h
      · exact .inl h
      · exact .inr (Nat.le_min.2 ⟨Nat.le_refl _, h⟩)⟩
    refine wpList_copy_splice rfl (.tmp 31) (.tmp 32) 22 22 rfl 3 Try.underlying22 info3s (some ⟨g, 0, none⟩) A0 n cap 1 c0 rfl rfl g 0 cur.toList 3 HH.out (List.replicate k0 (.int .i64 x)) (by rw [List.length_replicate]; exact hk0e) (fun hp => ⟨rfl, ?_⟩) (by have := HCS.out; rw [List.length_replicate]; omega) (fun v hv => by rw [List.eq_of_mem_replicate hv]; rfl) w.heap.size w HB2.out HGB.out ?_
    · obtain ⟨lb, lo, hA, hcl⟩ := row_int HRX.out (Nat.lt_succ_self 0)
      refine ⟨_, hA, fun j v hj => ?_⟩
      obtain ⟨hj1, hj2⟩ := List.getElem?_eq_some_iff.1 hj
      rw [List.length_replicate] at hj1
      obtain rfl : j = 0 := by omega
      rw [← hj2, List.getElem_replicate]
      exact hcl 0 (Nat.lt_succ_self 0)
    intro w3 hh3 hb3
    have HF3 := Aside0.mk (fill_splice (L := cur.toList) (k := 0) (m := k0) (v := Value.int .i64 x) (by simp) (by have := HCS.out; omega))
    have HL3 : Aside0 ((splice cur.toList 0 (List.replicate k0 (Value.int .i64 x))).length = cap) := ⟨by rw [length_splice _ _ _ (by have := HCS.out; rw [List.length_replicate]; omega)]; exact HCS.out⟩
    have HH3 := hh3
    have HB3 := Aside0.mk hb3
    rw [Nat.zero_add] at HF3
    have HK0 := Aside0.mk hk0c
    clear hh3 hb3 HH HB2 HRX HR HCS hk0e hk0c
    rw [show goInt (List.replicate k0 (Value.int IntKind.i64 x)).length = .int .i64 (k0 : Int) by rw [List.length_replicate]; rfl]
    generalize splice cur.toList 0 (List.replicate k0 (Value.int .i64 x)) = L3 at HF3 HL3 HH3
    have HH3a := Aside0.mk HH3.out
    clear HH3
    go_wp2_with fail
    go_loopg [8] n (fun q v w' => ∃ (k : Nat) (L : List Value), v = .int .i64 (k : Int) ∧ n ≤ k + q ∧ k ≤ n ∧ Aside0 (n = 0 ∨ 1 ≤ k) ∧ Aside0 (w'.heap[g]? = some (.cells L.toArray 3 (0, 0))) ∧ Aside0 (L.length = cap) ∧ Aside0 (L.take k = List.replicate k (Value.int .i64 x)) ∧ Aside0 (Below w.heap.size w w'))
    case atStart => exact ⟨k0, L3, rfl, by omega, hkn, HK0, HH3a, HL3, HF3, HB3⟩
    case round =>
      obtain ⟨k, L, rfl, hk, hkn2, hK, hH, hL, hF, hB⟩ := hrel
      clear HK0 HH3a HL3 HF3 HB3
      by_cases hlt : k < n
      · have hk1 : 1 ≤ k := by rcases hK.out with h | h <;> omega
        have hkc : k < cap := by omega
        have i0 : (0 : Int) ≤ (k : Int) := by omega
        have i1 : (k : Int) ≤ (n : Int) := by omega
        have i2 : (k : Int) < (n : Int) := by omega
        have i3 : (n : Int) ≤ (cap : Int) := by omega
        have i4 : ¬ cap = k := by omega
        have i5 : k ≤ cap := by omega
        have i6 : k ≤ n := by omega
        obtain ⟨m, hme, hmk, hmn, hm1⟩ : ∃ m, m = Nat.min k (n - k) ∧ m ≤ k ∧ m ≤ n - k ∧ 1 ≤ m := ⟨_, rfl, Nat.min_le_left _ _, Nat.min_le_right _ _, Nat.le_min.2 ⟨hk1, by omega⟩⟩
        have HS : Aside0 (∀ j v, (List.replicate m (Value.int .i64 x))[j]? = some v → wr.drew.cell? (Addr.add ⟨g, 0, none⟩ j) = some v) := ⟨fun j v hj => by
          obtain ⟨hj1, hj2⟩ := List.getElem?_eq_some_iff.1 hj
          rw [List.length_replicate] at hj1
          have h0 := hF.out
          have hjl : j < L.length := by have := hL.out; omega
          have h1 : L[j]? = some (Value.int .i64 x) := by
            have : (L.take k)[j]? = some (Value.int .i64 x) := by rw [h0, List.getElem?_replicate, if_pos (by omega)]
            rw [List.getElem?_take] at this
            rw [if_pos (by omega)] at this
            exact this
          rw [← hj2, List.getElem_replicate]
          show wr.cell? (Addr.add ⟨g, 0, none⟩ j) = _
          rw [add_at, Nat.zero_add, blk_cell hH.out]
          simpa using h1⟩
        have HME := Aside0.mk hme
        have HW0 : Aside0 (wr.drew.heap[g]? = some (.cells L.toArray 3 (0, 0))) := ⟨hH.out⟩
        have HBW : Aside0 (Below w.heap.size w wr.drew) := ⟨hB.out.drew⟩
        clear hme
        have hwr : IntKind.i64.wrap ((k : Int) + (m : Int)) = (k : Int) + (m : Int) := IntWalk.i64_in _ (by omega)
        go_wp2_with fail
        go_region_law ((refine step_copy_splice rfl (.tmp 41) (.tmp 44) 22 22 rfl 3 Try.underlying22 info3s (some ⟨g, k, none⟩) (some ⟨g, 0, none⟩) (n - k) (cap - k) k cap (by simp [Act.eval, Act.put, i4]) (by simp [Act.eval, Act.put]) g k L 3 HW0.out (List.replicate m (.int .i64 x)) (by rw [List.length_replicate]; exact HME.out) (fun hp => ⟨rfl, ⟨g, 0, none⟩, rfl, HS.out⟩) (by have := hL.out; rw [List.length_replicate]; omega) (fun v hv => by rw [List.eq_of_mem_replicate hv]; rfl) w.heap.size w HBW.out HGB.out ?_; intro w4 hh4 hb4; have HH4 := Aside0.mk hh4.out; have HB4 := Aside0.mk hb4; clear hh4 hb4))
        clear hwr
        all_goals
          have HF4 := Aside0.mk (fill_splice (L := L) (k := k) (m := m) (v := Value.int .i64 x) hF.out (by have := hL.out; omega))
          have HL4 : Aside0 ((splice L k (List.replicate m (Value.int .i64 x))).length = cap) := ⟨by rw [length_splice _ _ _ (by have := hL.out; rw [List.length_replicate]; omega)]; exact hL.out⟩
          go_wp2_with fail
          go_roundg (gk - 1)
          case measure => omega
          case rel => exact ⟨k + m, _, by go_num, by omega, by omega, ⟨.inr (by omega)⟩, HH4, HL4, HF4, HB4⟩
      · obtain rfl : k = n := by omega
        clear hlt
        have hr : Kd.R (Kd.int .i64) 3 wr w.heap.size (fun _ => True) (.slice (some ⟨g, 0, none⟩) k cap) (List.replicate k x) := by
          refine Kd.R_of_own (enc := Value.int .i64) (h1 := fun _ => rfl) ⟨by simp [encs], .inr ⟨g, cap, L.toArray, ?_, HGB.out, hH.out, ?_, HCAP.out, ?_, ?_⟩⟩ (fun _ _ => trivial)
          · simp
          · simpa using hnc
          · simpa using hL.out
          · simpa [encs] using hF.out
        have HR9 := Aside0.mk hr
        clear hr
        go_wp2_with fail
        go_ret
        exact ⟨_, rfl, by simpa [rd, rdOf] using HR9.out, hB.out⟩
  · rw [if_neg hh] at h
    cases h

end Go.Proofs.Ytikipnbdccbnfaa.GL
