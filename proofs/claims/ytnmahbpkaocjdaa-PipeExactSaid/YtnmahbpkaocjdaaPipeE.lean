/-
  Channels: Push.
-/
import Derived.Test.YtnmahbpkaocjdaaPipeD
import Derived.Deep.RegionLaw
set_option linter.unusedVariables false
namespace Go.Proofs.Ytnmahbpkaocjdaa
open Go.RowKit Go.Proofs.YtnmahbpkaocjdaaW.PrintWords

theorem info32 : (Try.prog.info? 32).map (fun i => (i.zero, i.size, i.bytes)) = some (some (.slice none 0 0), 1, 24) := by kernel_rfl

section
variable {w0 w : World} {top : Nat → Prop} {sb : Nat} {chs : List Ch}

theorem Push_out (h : PRep w0 w top sb chs) (i : Int) (hi : i < 1 ∨ (chs.length : Int) < i) (v : Value) :
    Calls Try.prog 13 #[.pointer (some ⟨sb, 0, none⟩), .int .i64 i, v] w fun e w' => e = .returned (.int .i64 1) ∧ w = w' := by
  go_enter Try.func13, Try.ntmps13
  go_wp2_with (go_at_call 37; refine (channel_out h _ hi).mono ?_; rintro e w' ⟨rfl, rfl⟩)
  go_ret
  exact ⟨rfl, rfl⟩
theorem Push_closed (h : PRep w0 w top sb chs) (k : Nat) (hk : k < chs.length) (v : Value) (hcl : (chs[k]'hk).closed = true) :
    Calls Try.prog 13 #[.pointer (some ⟨sb, 0, none⟩), .int .i64 ((k + 1 : Nat) : Int), v] w fun e w' => e = .returned (.int .i64 15) ∧ w = w' := by
  have hc := h.each _ (List.getElem_mem hk)
  have hb := hc.blk
  rw [hcl] at hb
  have c2 : w.cell? ⟨(chs[k]'hk).b, 2, none⟩ = some (.bool true) := by rw [blk_cell hb]; rfl
  clear hb hc hcl
  go_enter Try.func13, Try.ntmps13
  go_wp2_with (go_at_call 37; refine (channel_in h k hk).mono ?_; rintro e w' ⟨rfl, rfl⟩)
  go_ret
  exact ⟨rfl, rfl⟩
theorem Push_full (h : PRep w0 w top sb chs) (k : Nat) (hk : k < chs.length) (v : Value) (hcl : (chs[k]'hk).closed = false) (hf : (chs[k]'hk).room ≤ ((chs[k]'hk).q.length : Int)) :
    Calls Try.prog 13 #[.pointer (some ⟨sb, 0, none⟩), .int .i64 ((k + 1 : Nat) : Int), v] w fun e w' => e = .returned (.int .i64 14) ∧ Same w w' := by
  have hc := h.each _ (List.getElem_mem hk)
  have hb := hc.blk
  rw [hcl] at hb
  have c2 : w.cell? ⟨(chs[k]'hk).b, 2, none⟩ = some (.bool false) := by rw [blk_cell hb]; rfl
  have c0 : w.cell? ⟨(chs[k]'hk).b, 0, none⟩ = some (.int .i64 (chs[k]'hk).room) := by rw [blk_cell hb]; rfl
  obtain ⟨A, c, hv, _⟩ := Kd.Q_slice hc.row
  have c1 : w.cell? ⟨(chs[k]'hk).b, 1, none⟩ = some (.slice A (chs[k]'hk).q.length c) := by rw [blk_cell hb, ← hv]; rfl
  clear hb hc hcl hv
  go_enter Try.func13, Try.ntmps13
  go_wp2_with (go_at_call 37; refine (channel_in h k hk).mono ?_; rintro e w' ⟨rfl, rfl⟩)
  go_quiet (fail)
  go_wp2
  go_ret
  exact ⟨rfl, Same.drewN _ _⟩

/-- A value more in channel k. -/
def Pushed (w0 : World) (top : Nat → Prop) (sb : Nat) (chs : List Ch) (k : Nat) (hk : k < chs.length) (xs : List PV) (w : World) (e : Ending) (w' : World) : Prop :=
  e = .returned (.int .i64 0) ∧ ∃ qv own, Upd (chs[k]'hk).own w w' ∧ (∀ j, own j → (chs[k]'hk).own j ∨ w.heap.size ≤ j) ∧ PRep w0 w' top sb (chs.set k { (chs[k]'hk) with qv := qv, q := (chs[k]'hk).q ++ [xs], own := own })

theorem push_fin (h : PRep w0 w top sb chs) (h0 : w0.heap.size ≤ w.heap.size) (k : Nat) (hk : k < chs.length) (hcl : (chs[k]'hk).closed = false) (hf : ((chs[k]'hk).q.length : Int) < (chs[k]'hk).room) (xs : List PV)
    {wq w1 w2 : World} {Aq A2 : Option Addr} {cq c2 : Nat} (hv : (chs[k]'hk).qv = .slice Aq (chs[k]'hk).q.length cq) (hs : Same w wq) (hb1 : Below wq.drew.heap.size wq.drew w1)
    (hg : w1.grownBy w2 (Value.slice Aq (chs[k]'hk).q.length cq).ownBlock)
    (HQ : (qk w0).Q 32 w2 w0.heap.size (fun j => ((chs[k]'hk).own j ∨ wq.heap.size ≤ j) ∧ j ≠ (chs[k]'hk).b) (.slice A2 ((chs[k]'hk).q.length + 1) c2) ((chs[k]'hk).q ++ [xs])) :
    Pushed w0 top sb chs k hk xs w (.returned (.int .i64 0)) (w2.setCell ⟨(chs[k]'hk).b, 1, none⟩ (.slice A2 ((chs[k]'hk).q.length + 1) c2)) := by
  have hc := h.each _ (List.getElem_mem hk)
  have hrow := hc.row
  rw [hv] at hrow
  have hne : some (chs[k]'hk).b ≠ (Value.slice Aq (chs[k]'hk).q.length cq).ownBlock := Kd.Q_away hrow (fun j hj => hj.2)
  have hin : ∀ j, (Value.slice Aq (chs[k]'hk).q.length cq).ownBlock = some j → (chs[k]'hk).own j := fun j hj => (hrow.1 j hj).1
  have hsw : wq.heap.size = w.heap.size := by rw [hs.heap]
  have hu1 : Upd (fun j => (Value.slice Aq (chs[k]'hk).q.length cq).ownBlock = some j) w w1 := (hs.upd _).trans (Upd.of_below (w := wq.drew) hb1 (fun _ => False) |> fun u => ⟨u.os, u.tape, u.output, u.size, u.block⟩) (fun _ hk => hk.elim)
  have hu2 : Upd (fun j => (Value.slice Aq (chs[k]'hk).q.length cq).ownBlock = some j) w w2 := hu1.grown hg (fun j hj => .inl hj)
  have hb2 : w2.heap[(chs[k]'hk).b]? = some (.cells #[.int .i64 (chs[k]'hk).room, (chs[k]'hk).qv, .bool (chs[k]'hk).closed] 90 (0, 0)) := hu2.blk hc.blk (fun he => hne he.symm)
  have hb3 := blk_put hb2 1 (.slice A2 ((chs[k]'hk).q.length + 1) c2) rfl
  have hu3 : Upd (chs[k]'hk).own w (w2.setCell ⟨(chs[k]'hk).b, 1, none⟩ (.slice A2 ((chs[k]'hk).q.length + 1) c2)) := (hu2.mono (T := (chs[k]'hk).own) (fun j _ hj => hin j hj)).setCell (.inl hc.own_b) _
  have hlt3 := hu3.size
  refine ⟨rfl, _, fun j => (chs[k]'hk).own j ∨ (w.heap.size ≤ j ∧ j < (w2.setCell ⟨(chs[k]'hk).b, 1, none⟩ (.slice A2 ((chs[k]'hk).q.length + 1) c2)).heap.size), hu3, fun j hj => hj.imp id (fun hj => hj.1), h.set k hk hu3 (fun _ hj => hj) _ ⟨.inl hc.own_b, hb3, ?_, ?_, hc.room0, hc.room1, ?_⟩ rfl (fun j hj => hj.imp id (fun hj => hj.1))⟩
  · have h2 : (qk w0).Q 32 (w2.setCell ⟨(chs[k]'hk).b, 1, none⟩ (.slice A2 ((chs[k]'hk).q.length + 1) c2)) w0.heap.size (fun j => ((chs[k]'hk).own j ∨ wq.heap.size ≤ j) ∧ j ≠ (chs[k]'hk).b) (.slice A2 ((chs[k]'hk).q.length + 1) c2) ((chs[k]'hk).q ++ [xs]) := Kd.Q_far (p := ⟨(chs[k]'hk).b, 1, none⟩) HQ (fun j hj => hj.2) _
    refine Kd.Q_mono (Kd.Q_bound h2) (fun j hj => ⟨?_, hj.1.2⟩)
    rcases hj.1.1 with h3 | h3
    · exact .inl h3
    · exact .inr ⟨by omega, hj.2.2.1⟩
  · rintro j (hj | hj)
    · exact ⟨(hc.lt j hj).1, Nat.lt_of_lt_of_le (hc.lt j hj).2 hlt3⟩
    · exact ⟨by omega, hj.2⟩
  · show (((chs[k]'hk).q ++ [xs]).length : Int) ≤ (chs[k]'hk).room
    rw [List.length_append, List.length_singleton]
    omega

set_option maxHeartbeats 1000000 in
theorem Push_in (h : PRep w0 w top sb chs) (h0 : w0.heap.size ≤ w.heap.size) (k : Nat) (hk : k < chs.length) (hcl : (chs[k]'hk).closed = false) (hf : ((chs[k]'hk).q.length : Int) < (chs[k]'hk).room)
    (A : Option Addr) (c : Nat) (xs : List PV) (hn : A = none → xs.length = 0) (hC : pvk.C w A xs.length xs) (hl : xs.length ≤ 1000) :
    Calls Try.prog 13 #[.pointer (some ⟨sb, 0, none⟩), .int .i64 ((k + 1 : Nat) : Int), .slice A xs.length c] w (Pushed w0 top sb chs k hk xs w) := by
  have hc := h.each _ (List.getElem_mem hk)
  have hb := hc.blk
  rw [hcl] at hb
  have c2 : w.cell? ⟨(chs[k]'hk).b, 2, none⟩ = some (.bool false) := by rw [blk_cell hb]; rfl
  have c0 : w.cell? ⟨(chs[k]'hk).b, 0, none⟩ = some (.int .i64 (chs[k]'hk).room) := by rw [blk_cell hb]; rfl
  have hroom := hc.room1
  have hlt := (hc.lt _ hc.own_b).2
  obtain ⟨Aq, cq, hv, _⟩ := Kd.Q_slice hc.row
  have c1 : w.cell? ⟨(chs[k]'hk).b, 1, none⟩ = some (.slice Aq (chs[k]'hk).q.length cq) := by rw [blk_cell hb, ← hv]; rfl
  have f1 : w.frozen? ⟨(chs[k]'hk).b, 1, none⟩ = false := blk_frozen hb _
  have hrow := hc.row
  rw [hv] at hrow
  have hne : some (chs[k]'hk).b ≠ (Value.slice Aq (chs[k]'hk).q.length cq).ownBlock := Kd.Q_away hrow (fun j hj => hj.2)
  have HR := Aside0.mk hrow
  have HC := Aside0.mk hC
  have HH := Aside0.mk h
  have HV := Aside0.mk hv
  have HB := Aside0.mk hb
  have HN := Aside0.mk hn
  have HNE := Aside0.mk hne
  have HCL := Aside0.mk hcl
  have HW0 := Aside0.mk h0
  clear hrow hC hc hcl hv hb hn hne
  go_enter Try.func13, Try.ntmps13
  go_wp2_with (go_at_call 37; refine (channel_in HH.out k hk).mono ?_; rintro e w' ⟨rfl, rfl⟩)
  go_quiet (fail)
  go_wp2_with fail
  obtain ⟨wq, hwq⟩ : ∃ wq, wq = w.drewN nq := ⟨_, rfl⟩
  rw [← hwq]
  have hs : Same w wq := by rw [hwq]; exact Same.drewN _ _
  have HS := Aside0.mk hs
  have d1 : wq.cell? ⟨(chs[k]'hk).b, 1, none⟩ = some (.slice Aq (chs[k]'hk).q.length cq) := by rw [hwq]; exact c1
  have g1 : wq.frozen? ⟨(chs[k]'hk).b, 1, none⟩ = false := by rw [hwq]; exact f1
  have hltq : (chs[k]'hk).b < wq.heap.size := by rw [hwq]; exact hlt
  have HC2 : Aside0 (pvk.C wq.drew A xs.length xs) := ⟨by rw [hwq]; exact HC.out⟩
  have HR2 : Aside0 ((qk w0).Q 32 wq w0.heap.size (fun j => (chs[k]'hk).own j ∧ j ≠ (chs[k]'hk).b) (.slice Aq (chs[k]'hk).q.length cq) (chs[k]'hk).q) := ⟨by rw [hwq]; exact HR.out⟩
  have h0q : w0.heap.size ≤ wq.heap.size := by rw [hwq]; exact h0
  clear hwq hs c0 c1 c2 f1 hlt h0
  have hqs : 0 < (qk w0).sz := by show 0 < 1; omega
  go_region_law (first
    | (go_simp; go_at_call 38; refine (Clone_calls _ A c xs HN.out HC2.out hl).mono ?_; rintro e w1 ⟨A1, cc1, rfl, hr1, hb1⟩; have d1' : w1.cell? ⟨(chs[k]'hk).b, 1, none⟩ = some (.slice Aq (chs[k]'hk).q.length cq) := cell_later hb1 d1; have d1'' := cell_alloc d1')
    | (refine Kd.Q_append_step (qk w0) (w0 := wq.drew) (W := w1) w0.heap.size rfl (.tmp 39) (.tmp 42) 22 32 (.slice none 0 0) 24 rfl Try.underlying22 info32 rfl hqs (by decide) (.slice Aq (chs[k]'hk).q.length cq) (chs[k]'hk).q xs [.slice A1 xs.length cc1] (fun j => ((chs[k]'hk).own j ∨ wq.heap.size ≤ j) ∧ j ≠ (chs[k]'hk).b) (fun j => wq.heap.size ≤ j) (by rfl) (by rfl)
            ⟨_, rfl, Kd.R_lower hr1 h0q⟩
            (fun j hj => ⟨⟨.inr hj, by omega⟩, fun he => by have := Kd.Q_lt HR2.out j he.symm; omega⟩)
            (fun j hj => by have hsz : wq.heap.size ≤ w1.heap.size := hb1.size; exact ⟨.inr (by omega), by omega⟩)
            (Kd.Q_mono (Kd.Q_below (Kd.Q_drew HR2.out) hb1) (fun j hj => ⟨.inl hj.1, hj.2⟩))
            (hb1.mono h0q) (by have hsz : wq.heap.size ≤ w1.heap.size := hb1.size; omega) (by omega) ?_
       intro v2 w2 hq2 hb2 hg2 hat2
       obtain ⟨A2, cc2, hv2, _⟩ := Kd.Q_slice hq2
       rw [List.length_append, List.length_singleton] at hv2
       rw [hv2] at hq2 hat2 ⊢
       have hsz : wq.heap.size ≤ w1.heap.size := hb1.size
       have hltq1 : (chs[k]'hk).b < w1.heap.size := by omega
       have d2 : w2.cell? ⟨(chs[k]'hk).b, 1, none⟩ = some (.slice Aq (chs[k]'hk).q.length cq) := (hg2.cell_far _ hltq1 HNE.out).trans d1'
       have g2 : w2.frozen? ⟨(chs[k]'hk).b, 1, none⟩ = false := (hg2.frozen_far _ hltq1 HNE.out).trans ((hb1.frozen hltq).trans g1)
       have HQ := Aside0.mk hq2
       have HG := Aside0.mk hg2
       clear hq2 hg2 hat2 hv2))
  all_goals
    go_wp2
    go_ret
    exact push_fin HH.out HW0.out k hk HCL.out hf xs HV.out HS.out hb1 HG.out HQ.out
end
end Go.Proofs.Ytnmahbpkaocjdaa
