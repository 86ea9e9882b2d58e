/-
  Channels: Pop and Make.
-/
import Derived.Test.YtnmahbpkaocjdaaPipeE
set_option linter.unusedVariables false
namespace Go.Proofs.Ytnmahbpkaocjdaa
open Go.RowKit Go.Proofs.YtnmahbpkaocjdaaW.PrintWords

section
variable {w0 w : World} {top : Nat → Prop} {sb : Nat} {chs : List Ch}

theorem Pop_out (h : PRep w0 w top sb chs) (i : Int) (hi : i < 1 ∨ (chs.length : Int) < i) :
    Calls Try.prog 15 #[.pointer (some ⟨sb, 0, none⟩), .int .i64 i] w fun e w' => e = .returned (.tuple #[.slice none 0 0, .bool false]) ∧ w = w' := by
  go_enter Try.func15, Try.ntmps15
  go_wp2_with (go_at_call 37; refine (channel_out h _ hi).mono ?_; rintro e w' ⟨rfl, rfl⟩)
  go_ret2
  exact ⟨rfl, rfl⟩
theorem Pop_empty (h : PRep w0 w top sb chs) (k : Nat) (hk : k < chs.length) (he : (chs[k]'hk).q = []) :
    Calls Try.prog 15 #[.pointer (some ⟨sb, 0, none⟩), .int .i64 ((k + 1 : Nat) : Int)] w fun e w' => e = .returned (.tuple #[.slice none 0 0, .bool false]) ∧ w = w' := by
  have hc := h.each _ (List.getElem_mem hk)
  have hb := hc.blk
  obtain ⟨A, c, hv, _⟩ := Kd.Q_slice hc.row
  have c1 : w.cell? ⟨(chs[k]'hk).b, 1, none⟩ = some (.slice A 0 c) := by rw [blk_cell hb, hv, he]; rfl
  clear hb hc hv he
  go_enter Try.func15, Try.ntmps15
  go_wp2_with (go_at_call 37; refine (channel_in h k hk).mono ?_; rintro e w' ⟨rfl, rfl⟩)
  go_ret2
  exact ⟨rfl, rfl⟩

/-- The first value of channel k is taken. -/
def Popped (w0 : World) (top : Nat → Prop) (sb : Nat) (chs : List Ch) (k : Nat) (hk : k < chs.length) (x : List PV) (r : List (List PV)) (w : World) (e : Ending) (w' : World) : Prop :=
  ∃ A c qv, e = .returned (.tuple #[.slice A x.length c, .bool true]) ∧ pvk.C w' A x.length x ∧ Upd (chs[k]'hk).own w w' ∧ PRep w0 w' top sb (chs.set k { (chs[k]'hk) with qv := qv, q := r })

theorem pop_fin (h : PRep w0 w top sb chs) (k : Nat) (hk : k < chs.length) (x : List PV) (r : List (List PV)) (he : (chs[k]'hk).q = x :: r) (qv : Value)
    (hq : (qk w0).Q 32 w w0.heap.size (fun j => (chs[k]'hk).own j ∧ j ≠ (chs[k]'hk).b) qv r) {A1 : Option Addr} {c1 : Nat} {okr : Nat → Prop} (hR : pvk.R 84 w w0.heap.size okr (.slice A1 x.length c1) x) (hokr : ∀ j, okr j → j ≠ (chs[k]'hk).b) :
    Popped w0 top sb chs k hk x r w (.returned (.tuple #[.slice A1 x.length c1, .bool true])) (w.setCell ⟨(chs[k]'hk).b, 1, none⟩ qv) := by
  have hc := h.each _ (List.getElem_mem hk)
  have hu : Upd (fun j => j = (chs[k]'hk).b) w (w.setCell ⟨(chs[k]'hk).b, 1, none⟩ qv) := Upd.cell _ _ _ _
  have hS : ∀ j, j = (chs[k]'hk).b → (chs[k]'hk).own j := fun j hj => by rw [hj]; exact hc.own_b
  have hl := hc.len
  rw [he, List.length_cons] at hl
  refine ⟨A1, c1, qv, rfl, ?_, hu.mono (fun j _ hj => hS j hj), h.set k hk hu hS _ ⟨hc.own_b, blk_put hc.blk 1 _ rfl, Kd.Q_upd hq hu (fun j hj => hj.2), fun j hj => ⟨(hc.lt j hj).1, by simpa [World.setCell] using (hc.lt j hj).2⟩, hc.room0, hc.room1, by show (r.length : Int) ≤ (chs[k]'hk).room; omega⟩ rfl (fun j hj => .inl hj)⟩
  exact (Kd.R_reads' (Kd.R_far (p := ⟨(chs[k]'hk).b, 1, none⟩) hR hokr qv)).2.2

theorem Pop_in (h : PRep w0 w top sb chs) (k : Nat) (hk : k < chs.length) (x : List PV) (r : List (List PV)) (he : (chs[k]'hk).q = x :: r) :
    Calls Try.prog 15 #[.pointer (some ⟨sb, 0, none⟩), .int .i64 ((k + 1 : Nat) : Int)] w (Popped w0 top sb chs k hk x r w) := by
  have hc := h.each _ (List.getElem_mem hk)
  have hb := hc.blk
  have hlen : (chs[k]'hk).q.length = r.length + 1 := by rw [he]; rfl
  obtain ⟨g, o, c, hv, _, hglt, _⟩ := Kd.Q_form hc.row (by omega)
  have hrow := hc.row
  rw [hv] at hrow
  have hnc := (Kd.Q_reads' hrow).2.1
  obtain ⟨cs, hcl, hM, hcell, _⟩ := Kd.Q_elem hrow [] 0 (by omega) (by omega)
  have hx : (chs[k]'hk).q.getD (0 : Int).toNat [] = x := by rw [he]; rfl
  rw [hx] at hM
  obtain ⟨v1, rfl, hR1⟩ := hM
  obtain ⟨A1, cc1, rfl⟩ := Kd.R_slice hR1
  have e0 : w.cell? ⟨g, o, none⟩ = some (.slice A1 x.length cc1) := by
    have h2 := hcell 0 _ rfl
    simpa using h2
  have hdrop := Kd.Q_drop hrow (k := 1) (by omega)
  rw [hlen, he] at hdrop
  have hdrop2 : (qk w0).Q 32 w w0.heap.size (fun j => (chs[k]'hk).own j ∧ j ≠ (chs[k]'hk).b) (.slice (if c = 1 then some ⟨g, o, none⟩ else Option.map (fun x : Addr => x.add (1 * (qk w0).sz)) (some ⟨g, o, none⟩)) r.length (c - 1)) r := hdrop
  obtain ⟨i32, hi32, hz⟩ := Option.map_eq_some_iff.1 info32
  simp only [Prod.mk.injEq] at hz
  have hcut := cut_from (P := Try.prog) 22 32 .i64 Try.underlying22 hi32 1 hz.2.1 (some ⟨g, o, none⟩) (r.length + 1) c 1 (by omega) (by omega)
  have hcut2 : ∀ W : World, (Instr.slice 22 (.slice (some ⟨g, o, none⟩) (r.length + 1) c) (some (.int .i64 1)) none none).run Try.prog W = .ok (.slice (if c = 1 then some ⟨g, o, none⟩ else Option.map (fun x : Addr => x.add (1 * (qk w0).sz)) (some ⟨g, o, none⟩)) r.length (c - 1)) W := hcut
  obtain ⟨A', hA'⟩ : ∃ A', A' = (if c = 1 then some ⟨g, o, none⟩ else Option.map (fun x : Addr => x.add (1 * (qk w0).sz)) (some ⟨g, o, none⟩)) := ⟨_, rfl⟩
  rw [← hA'] at hdrop2 hcut2
  have c1 : w.cell? ⟨(chs[k]'hk).b, 1, none⟩ = some (.slice (some ⟨g, o, none⟩) (r.length + 1) c) := by rw [blk_cell hb, hv, hlen]; rfl
  have f1 : w.frozen? ⟨(chs[k]'hk).b, 1, none⟩ = false := blk_frozen hb _
  have hfin := Aside0.mk (pop_fin h k hk x r he _ hdrop2 hR1 (fun j hj => hj.1.2))
  have hpos : (0 : Int) < ((r.length + 1 : Nat) : Int) := by omega
  have HH := Aside0.mk h
  clear h hcut hdrop hdrop2 hz hi32 hA' hx hcell hcl hR1 hrow hnc hglt hv hlen hb hc he
  go_enter Try.func15, Try.ntmps15
  go_wp2_with (go_at_call 37; refine (channel_in HH.out k hk).mono ?_; rintro e w' ⟨rfl, rfl⟩)
  go_ret2
  exact hfin.out
end
end Go.Proofs.Ytnmahbpkaocjdaa
