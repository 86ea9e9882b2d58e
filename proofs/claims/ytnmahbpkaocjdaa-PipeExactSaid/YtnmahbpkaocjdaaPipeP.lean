/-
  lorgnetteref16.Push.
-/
import Derived.Test.YtnmahbpkaocjdaaPipeN
set_option linter.unusedVariables false
namespace Go.Proofs.Ytnmahbpkaocjdaa
open Go.RowKit Go.Proofs.YtnmahbpkaocjdaaW.PrintWords

section
variable {w0 w : World} {rok : Nat → Prop} {us : List Uc} {uv : Value}

theorem UPush_out (w : World) (A : Option Addr) (n c : Nat) (i : Int) (hi : i < 1 ∨ (n : Int) < i) (v : Value) :
    Calls Try.prog 19 #[.slice A n c, .int .i64 i, v] w fun e w' => e = .returned (.int .i64 1) ∧ w = w' := by
  have hb : (decide (1 ≤ i) && decide (i ≤ (n : Int))) = false := by
    rw [Bool.and_eq_false_iff, decide_eq_false_iff_not, decide_eq_false_iff_not]
    omega
  have hc := Has_calls w A n c i
  rw [hb] at hc
  have HC := Aside0.mk hc
  clear hc hb
  go_enter Try.func19, Try.ntmps19
  go_wp2_with (go_at_call 20; refine (HC.out).mono ?_; rintro e w' ⟨rfl, rfl⟩)
  go_ret
  exact ⟨rfl, rfl⟩

theorem Has_in (w : World) (A : Option Addr) (n c k : Nat) (hk : k < n) :
    Calls Try.prog 20 #[.slice A n c, .int .i64 ((k : Int) + 1)] w fun e w' => e = .returned (.bool true) ∧ w = w' := by
  have hb : (decide (1 ≤ (k : Int) + 1) && decide ((k : Int) + 1 ≤ (n : Int))) = true := by
    rw [Bool.and_eq_true, decide_eq_true_iff, decide_eq_true_iff]
    omega
  have hc := Has_calls w A n c ((k : Int) + 1)
  rw [hb] at hc
  exact hc

theorem UPush_closed (h : URep w0 w rok uv us) (k : Nat) (hk : k < us.length) (v : Value) (hcl : (us[k]'hk).closed = true) :
    Calls Try.prog 19 #[uv, .int .i64 ((k : Int) + 1), v] w fun e w' => e = .returned (.int .i64 15) ∧ Same w w' := by
  obtain ⟨g, c, rfl, _, _, hcell⟩ := h.cells (by omega)
  obtain ⟨c0, c1, c2⟩ := hcell k hk
  rw [hcl] at c2
  have hfew := h.few
  have e0 : (0 : Int) ≤ (k : Int) := by omega
  have e1 : (k : Int) < (us.length : Int) := by omega
  clear c0 c1 hcell h hcl
  go_enter Try.func19, Try.ntmps19
  go_wp2_with (go_at_call 20; refine (Has_in _ _ _ _ _ hk).mono ?_; rintro e w' ⟨rfl, rfl⟩)
  go_ret
  exact ⟨rfl, Same.refl _⟩

theorem UPush_full (h : URep w0 w rok uv us) (k : Nat) (hk : k < us.length) (v : Value) (hcl : (us[k]'hk).closed = false) (hf : (us[k]'hk).room ≤ ((us[k]'hk).q.length : Int)) :
    Calls Try.prog 19 #[uv, .int .i64 ((k : Int) + 1), v] w fun e w' => e = .returned (.int .i64 14) ∧ Same w w' := by
  obtain ⟨g, c, rfl, _, _, hcell⟩ := h.cells (by omega)
  obtain ⟨c0, c1, c2⟩ := hcell k hk
  rw [hcl] at c2
  obtain ⟨Aq, cq, hv, _⟩ := Kd.Q_slice (h.each _ (List.getElem_mem hk)).row
  rw [hv] at c1
  have hfew := h.few
  have e0 : (0 : Int) ≤ (k : Int) := by omega
  have e1 : (k : Int) < (us.length : Int) := by omega
  clear hcell h hcl hv
  go_enter Try.func19, Try.ntmps19
  go_wp2_with (go_at_call 20; refine (Has_in _ _ _ _ _ hk).mono ?_; rintro e w' ⟨rfl, rfl⟩)
  go_quiet (fail)
  go_wp2
  go_ret
  exact ⟨rfl, Same.drewN _ _⟩

def UPushed (w0 : World) (rok : Nat → Prop) (uv : Value) (us : List Uc) (k : Nat) (hk : k < us.length) (xs : List PV) (w : World) (e : Ending) (w' : World) : Prop :=
  e = .returned (.int .i64 0) ∧ ∃ qv own, Upd (fun j => (us[k]'hk).own j ∨ rok j) w w' ∧ (∀ j, own j → (us[k]'hk).own j ∨ w.heap.size ≤ j) ∧ URep w0 w' rok uv (us.set k { (us[k]'hk) with qv := qv, q := (us[k]'hk).q ++ [xs], own := own })

theorem upush_fin {g c : Nat} (h : URep w0 w rok (.slice (some ⟨g, 0, none⟩) us.length c) us) (h0 : w0.heap.size ≤ w.heap.size) (k : Nat) (hk : k < us.length) (hf : ((us[k]'hk).q.length : Int) < (us[k]'hk).room) (xs : List PV)
    {w1 w2 : World} {v2 : Value} (hs : Same w w1)
    (hg : w1.grownBy w2 (us[k]'hk).qv.ownBlock)
    (HQ : (fxk w0).Q 32 w2 w0.heap.size (fun j => (us[k]'hk).own j ∨ w1.heap.size ≤ j) v2 ((us[k]'hk).q ++ [xs])) (h2v : v2.oneCell' = true) :
    UPushed w0 rok (.slice (some ⟨g, 0, none⟩) us.length c) us k hk xs w (.returned (.int .i64 0)) (w2.setCell ⟨g, k * 3 + 1, none⟩ v2) := by
  have hc := h.each _ (List.getElem_mem hk)
  have hrg : rok g := h.row.1 g (by simp [Value.ownBlock])
  have hin : ∀ j, (us[k]'hk).qv.ownBlock = some j → (us[k]'hk).own j := fun j hj => hc.row.1 j hj
  have hsw : w1.heap.size = w.heap.size := by rw [hs.heap]
  have hu2 : Upd (fun j => (us[k]'hk).qv.ownBlock = some j) w w2 := (hs.upd _).grown hg (fun j hj => .inl hj)
  have hap : ∀ j, (us[k]'hk).own j → ¬ rok j := h.apart _ (List.getElem_mem hk)
  have hr2 : rawk.R 45 w2 w0.heap.size rok (.slice (some ⟨g, 0, none⟩) us.length c) (us.map Uc.raw) := Kd.R_upd h.row hu2 (fun j hj he => hap j (hin j he) hj)
  have hr3 := (raw_put hr2 k (by rw [List.length_map]; exact hk)).1 v2 h2v
  have hu3 : Upd (fun j => (us[k]'hk).own j ∨ rok j) w (w2.setCell ⟨g, k * 3 + 1, none⟩ v2) := (hu2.mono (T := fun j => (us[k]'hk).own j ∨ rok j) (fun j _ hj => .inl (hin j hj))).setCell (.inl (.inr hrg)) _
  have hlt3 := hu3.size
  have hgl := (h.lt g hrg).2
  refine ⟨rfl, v2, fun j => (us[k]'hk).own j ∨ (w.heap.size ≤ j ∧ j < (w2.setCell ⟨g, k * 3 + 1, none⟩ v2).heap.size), hu3, fun j hj => hj.imp id (fun hj => hj.1), h.set k hk hu3 (fun _ hj => hj) _ ⟨?_, ?_, hc.room1, ?_⟩ ?_ (fun j hj => hj.imp id (fun hj => hj.1))⟩
  · have h2 : (fxk w0).Q 32 (w2.setCell ⟨g, k * 3 + 1, none⟩ v2) w0.heap.size (fun j => (us[k]'hk).own j ∨ w1.heap.size ≤ j) v2 ((us[k]'hk).q ++ [xs]) := Kd.Q_far (p := ⟨g, k * 3 + 1, none⟩) HQ (fun j hj he => by
      have he' : j = g := he
      rcases hj with hj | hj
      · exact hap _ hj (he' ▸ hrg)
      · omega) _
    refine Kd.Q_mono (Kd.Q_bound h2) (fun j hj => ?_)
    rcases hj.1 with h3 | h3
    · exact .inl h3
    · exact .inr ⟨by omega, hj.2.2.1⟩
  · rintro j (hj | hj)
    · exact ⟨(hc.lt j hj).1, Nat.lt_of_lt_of_le (hc.lt j hj).2 hlt3⟩
    · exact ⟨by omega, hj.2⟩
  · show (((us[k]'hk).q ++ [xs]).length : Int) ≤ (us[k]'hk).room
    rw [List.length_append, List.length_singleton]
    omega
  · simpa [Uc.raw] using hr3

set_option maxHeartbeats 1000000 in
theorem UPush_in (h : URep w0 w rok uv us) (h0 : w0.heap.size ≤ w.heap.size) (k : Nat) (hk : k < us.length) (hcl : (us[k]'hk).closed = false) (hf : ((us[k]'hk).q.length : Int) < (us[k]'hk).room)
    (A : Option Addr) (c : Nat) (xs : List PV) (hC : pvk.C w0 A xs.length xs) (hlc : xs.length ≤ c) :
    Calls Try.prog 19 #[uv, .int .i64 ((k : Int) + 1), .slice A xs.length c] w (UPushed w0 rok uv us k hk xs w) := by
  obtain ⟨g, cu, hue, hrg, hfz, hcell⟩ := h.cells (by omega)
  rw [hue] at h ⊢
  obtain ⟨c0, c1, c2⟩ := hcell k hk
  rw [hcl] at c2
  have hrow := (h.each _ (List.getElem_mem hk)).row
  obtain ⟨Aq, cq, hv, _⟩ := Kd.Q_slice hrow
  have hr1 := (h.each _ (List.getElem_mem hk)).room1
  rw [hv] at c1 hrow
  have f1 := hfz (k * 3 + 1)
  have hfew := h.few
  have e0 : (0 : Int) ≤ (k : Int) := by omega
  have e1 : (k : Int) < (us.length : Int) := by omega
  have hgl := (h.lt g hrg).2
  have hne : some g ≠ (Value.slice Aq (us[k]'hk).q.length cq).ownBlock := fun he => h.apart _ (List.getElem_mem hk) g (hrow.1 g he.symm) hrg
  have HV := Aside0.mk hv
  have HR := Aside0.mk hrow
  have HH := Aside0.mk h
  have HC := Aside0.mk hC
  have HNE := Aside0.mk hne
  have HZ := Aside0.mk (show 0 < (fxk w0).sz by show 0 < 1; omega)
  have HG := Aside0.mk hgl
  clear hcell h hcl hv hue hfz hrow hC hne hgl
  go_enter Try.func19, Try.ntmps19
  go_wp2_with (go_at_call 20; refine (Has_in _ _ _ _ _ hk).mono ?_; rintro e w' ⟨rfl, rfl⟩)
  go_quiet (fail)
  obtain ⟨wq, hwq⟩ : ∃ wq, wq = w.drewN nq := ⟨_, rfl⟩
  rw [← hwq]
  have HS : Aside0 (Same w wq) := ⟨by rw [hwq]; exact Same.drewN _ _⟩
  have d1 : wq.cell? ⟨g, k * 3 + 1, none⟩ = some (.slice Aq (us[k]'hk).q.length cq) := by rw [hwq]; exact c1
  have g1 : wq.frozen? ⟨g, k * 3 + 1, none⟩ = false := by rw [hwq]; exact f1
  have hglq : g < wq.heap.size := by rw [hwq]; exact HG.out
  have h0q : w0.heap.size ≤ wq.heap.size := by rw [hwq]; exact h0
  have HR2 : Aside0 ((fxk w0).Q 32 wq w0.heap.size (us[k]'hk).own (.slice Aq (us[k]'hk).q.length cq) (us[k]'hk).q) := ⟨by rw [hwq]; exact HR.out⟩
  clear hwq c0 c1 c2 f1
  go_wp2_with (at_builtin; refine Stand.stop ?_)
  refine Stand.go ?_
  refine Kd.Q_append (fxk w0) (w0 := wq) (W := wq) w0.heap.size rfl (.tmp 39) (.tmp 41) 22 32 (.slice none 0 0) 24 rfl Try.underlying22 info32 rfl HZ.out (by decide) (.slice Aq (us[k]'hk).q.length cq) (us[k]'hk).q xs [.slice A xs.length c] (fun j => (us[k]'hk).own j ∨ wq.heap.size ≤ j) (fun _ => False) (by rfl) (by rfl)
    ⟨A, c, rfl, hlc, HC.out⟩ (fun _ hj => hj.elim) (fun j hj => .inr hj) (Kd.Q_mono HR2.out (fun j hj => .inl hj)) (Below.refl _ _) h0q (by omega) ?_
  intro v2 w2 hq2 hb2 hg2 hat2
  obtain ⟨A2, cc2, hv2, _⟩ := Kd.Q_slice hq2
  rw [List.length_append, List.length_singleton] at hv2
  have d2 : w2.cell? ⟨g, k * 3 + 1, none⟩ = some (.slice Aq (us[k]'hk).q.length cq) := (hg2.cell_far _ hglq HNE.out).trans d1
  have g2 : w2.frozen? ⟨g, k * 3 + 1, none⟩ = false := (hg2.frozen_far _ hglq HNE.out).trans g1
  rw [← HV.out] at hg2
  have hfin := Aside0.mk (upush_fin HH.out h0 k hk hf xs HS.out hg2 hq2 (by rw [hv2]; rfl))
  rw [hv2] at hfin ⊢
  clear hq2 hb2 hg2 hat2 hv2 d1 g1
  go_wp2
  go_ret
  exact hfin.out
end
end Go.Proofs.Ytnmahbpkaocjdaa
