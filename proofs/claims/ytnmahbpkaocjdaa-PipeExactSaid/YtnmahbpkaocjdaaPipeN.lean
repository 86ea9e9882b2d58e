/-
  The document's channels in memory (a slice of structs), and the calls of lorgnetteref16.
-/
import Derived.Test.YtnmahbpkaocjdaaPipeM
set_option linter.unusedVariables false
namespace Go.Proofs.Ytnmahbpkaocjdaa
open Go.RowKit Go.Proofs.YtnmahbpkaocjdaaW.PrintWords

/-- A struct's three cells as they stand. -/
def rawk : Kd (Int × Value × Bool) where
  sz := 3
  E := []
  K := fun _ x cs => cs = [.int .i64 x.1, x.2.1, .bool x.2.2] ∧ x.2.1.oneCell' = true
  M := fun _ _ _ x cs => cs = [.int .i64 x.1, x.2.1, .bool x.2.2] ∧ x.2.1.oneCell' = true
  K_len := fun h => by rw [h.1]; rfl
  K_one := fun h u hu => by
    rw [h.1] at hu
    simp only [List.mem_cons, List.not_mem_nil, or_false] at hu
    rcases hu with rfl | rfl | rfl
    · rfl
    · exact h.2
    · rfl
  K_below := fun _ h => h
  K_of_M := fun h => h
  M_mono := fun _ h => h
  M_bound := fun h => h
  M_move := fun _ h => h
  M_lower := fun _ h => h

/-- A row of values that came in. -/
def fxk (w0 : World) : Kd (List PV) := Kd.fixed (Kd.slice 84 pvk) w0

structure Uc where
  room : Int
  qv : Value
  q : List (List PV)
  closed : Bool
  own : Nat → Prop
def Uc.raw (u : Uc) : Int × Value × Bool := (u.room, u.qv, u.closed)

structure UcRep (w0 w : World) (u : Uc) : Prop where
  row : (fxk w0).Q 32 w w0.heap.size u.own u.qv u.q
  lt : ∀ k, u.own k → w0.heap.size ≤ k ∧ k < w.heap.size
  room1 : u.room ≤ 1024
  len : (u.q.length : Int) ≤ u.room

structure URep (w0 w : World) (rok : Nat → Prop) (uv : Value) (us : List Uc) : Prop where
  row : rawk.R 45 w w0.heap.size rok uv (us.map Uc.raw)
  lt : ∀ k, rok k → w0.heap.size ≤ k ∧ k < w.heap.size
  each : ∀ u ∈ us, UcRep w0 w u
  apart : ∀ u ∈ us, ∀ k, u.own k → ¬ rok k
  pair : us.Pairwise fun c d => ∀ k, c.own k → ¬ d.own k
  few : us.length ≤ 1000

theorem UcRep.upd {w0 w w1 : World} {u : Uc} {S : Nat → Prop} (h : UcRep w0 w u) (hu : Upd S w w1) (hn : ∀ k, u.own k → ¬ S k) : UcRep w0 w1 u where
  row := Kd.Q_upd h.row hu hn
  lt := fun k hk => ⟨(h.lt k hk).1, Nat.lt_of_lt_of_le (h.lt k hk).2 hu.size⟩
  room1 := h.room1
  len := h.len
theorem URep.upd {w0 w w1 : World} {rok S : Nat → Prop} {uv : Value} {us : List Uc} (h : URep w0 w rok uv us) (hu : Upd S w w1) (h1 : ∀ k, rok k → ¬ S k) (h2 : ∀ u ∈ us, ∀ k, u.own k → ¬ S k) : URep w0 w1 rok uv us where
  row := Kd.R_upd h.row hu h1
  lt := fun k hk => ⟨(h.lt k hk).1, Nat.lt_of_lt_of_le (h.lt k hk).2 hu.size⟩
  each := fun u hc => (h.each u hc).upd hu (h2 u hc)
  apart := h.apart
  pair := h.pair
  few := h.few

/-- The facts that a walk wants. -/
theorem URep.form {w0 w : World} {rok : Nat → Prop} {uv : Value} {us : List Uc} (h : URep w0 w rok uv us) : ∃ A c, uv = .slice A us.length c := by
  obtain ⟨A, c, hv⟩ := Kd.R_slice h.row
  rw [List.length_map] at hv
  exact ⟨A, c, hv⟩
theorem URep.cells {w0 w : World} {rok : Nat → Prop} {uv : Value} {us : List Uc} (h : URep w0 w rok uv us) (hp : 0 < us.length) :
    ∃ g c, uv = .slice (some ⟨g, 0, none⟩) us.length c ∧ rok g ∧ (∀ j, w.frozen? ⟨g, j, none⟩ = false) ∧ ∀ k (hk : k < us.length), w.cell? ⟨g, k * 3, none⟩ = some (.int .i64 (us[k]'hk).room) ∧ w.cell? ⟨g, k * 3 + 1, none⟩ = some (us[k]'hk).qv ∧ w.cell? ⟨g, k * 3 + 2, none⟩ = some (.bool (us[k]'hk).closed) := by
  obtain ⟨g, c, hv, _, _, cells, hcells⟩ := Kd.R_form h.row (by rw [List.length_map]; exact hp)
  have hrow := h.row
  rw [hv] at hrow
  rw [List.length_map] at hv
  refine ⟨g, c, hv, hrow.1 g (by simp [Value.ownBlock]), fun j => blk_frozen hcells j, fun k hk => ?_⟩
  obtain ⟨cs, hcl, hM, hcell, _⟩ := Kd.R_elem hrow (0, .nilIface, false) (k : Int) (by omega) (by rw [List.length_map]; omega)
  rw [Int.toNat_natCast] at hM hcell
  have hg : (us.map Uc.raw).getD k (0, .nilIface, false) = (us[k]'hk).raw := by simp [List.getD_eq_getElem?_getD, hk]
  rw [hg] at hM
  obtain ⟨rfl, _⟩ := hM
  exact ⟨hcell 0 _ rfl, hcell 1 _ rfl, hcell 2 _ rfl⟩

section
variable {w0 w : World} {rok : Nat → Prop} {us : List Uc} {A : Option Addr} {c : Nat}

theorem Has_calls (w : World) (A : Option Addr) (n c : Nat) (i : Int) :
    Calls Try.prog 20 #[.slice A n c, .int .i64 i] w fun e w' => e = .returned (.bool (decide (1 ≤ i) && decide (i ≤ (n : Int)))) ∧ w = w' := by
  by_cases h1 : 1 ≤ i
  · go_enter Try.func20, Try.ntmps20
    go_wp2
    go_ret
    exact ⟨by simp [h1], rfl⟩
  · go_enter Try.func20, Try.ntmps20
    go_wp2
    go_ret
    exact ⟨by simp; omega, rfl⟩
end

theorem URep.set {w0 w w1 : World} {rok S : Nat → Prop} {uv : Value} {us : List Uc} (h : URep w0 w rok uv us) (k : Nat) (hk : k < us.length) (hu : Upd S w w1) (hS : ∀ j, S j → (us[k]'hk).own j ∨ rok j)
    (c' : Uc) (hc' : UcRep w0 w1 c') (hrow : rawk.R 45 w1 w0.heap.size rok uv ((us.map Uc.raw).set k c'.raw)) (hown : ∀ j, c'.own j → (us[k]'hk).own j ∨ w.heap.size ≤ j) : URep w0 w1 rok uv (us.set k c') := by
  have hap : ∀ j (hj : j < us.length), j ≠ k → ∀ q, (us[k]'hk).own q → ¬ (us[j]'hj).own q := by
    intro j hj hne q hq
    rcases Nat.lt_or_gt_of_ne hne with hlt | hgt
    · exact fun h2 => (List.pairwise_iff_getElem.1 h.pair j k hj hk hlt) q h2 hq
    · exact (List.pairwise_iff_getElem.1 h.pair k j hk hj hgt) q hq
  refine ⟨by rw [List.map_set]; exact hrow, fun j hj => ⟨(h.lt j hj).1, Nat.lt_of_lt_of_le (h.lt j hj).2 hu.size⟩, ?_, ?_, ?_, by rw [List.length_set]; exact h.few⟩
  · intro c hc
    obtain ⟨j, hj, rfl⟩ := List.getElem_of_mem hc
    rw [List.length_set] at hj
    by_cases hjk : j = k
    · subst hjk
      rw [List.getElem_set_self]
      exact hc'
    · rw [List.getElem_set_ne (by omega)]
      refine (h.each _ (List.getElem_mem hj)).upd hu (fun q hq h2 => ?_)
      rcases hS q h2 with h3 | h3
      · exact hap j hj hjk q h3 hq
      · exact h.apart _ (List.getElem_mem hj) q hq h3
  · intro c hc q hq ht
    rcases List.mem_or_eq_of_mem_set hc with hc | rfl
    · exact h.apart c hc q hq ht
    · rcases hown q hq with h2 | h2
      · exact h.apart _ (List.getElem_mem hk) q h2 ht
      · have := (h.lt q ht).2
        omega
  · refine pairwise_set h.pair (fun j hj hne => ⟨fun q hq h2 => ?_, fun q h2 hq => ?_⟩)
    · rcases hown q hq with h3 | h3
      · exact hap j hj hne q h3 h2
      · have := ((h.each _ (List.getElem_mem hj)).lt q h2).2
        omega
    · rcases hown q hq with h3 | h3
      · exact hap j hj hne q h3 h2
      · have := ((h.each _ (List.getElem_mem hj)).lt q h2).2
        omega

/-- One cell of element k is written. -/
theorem raw_put {w : World} {base g n cap : Nat} {ok : Nat → Prop} {xs : List (Int × Value × Bool)} (h : rawk.R 45 w base ok (.slice (some ⟨g, 0, none⟩) n cap) xs) (k : Nat) (hk : k < xs.length) :
    (∀ v, v.oneCell' = true → rawk.R 45 (w.setCell ⟨g, k * 3 + 1, none⟩ v) base ok (.slice (some ⟨g, 0, none⟩) n cap) (xs.set k ((xs[k]'hk).1, v, (xs[k]'hk).2.2))) ∧
    (∀ b, rawk.R 45 (w.setCell ⟨g, k * 3 + 2, none⟩ (.bool b)) base ok (.slice (some ⟨g, 0, none⟩) n cap) (xs.set k ((xs[k]'hk).1, (xs[k]'hk).2.1, b))) := by
  have hn := (Kd.R_reads' h).1
  obtain ⟨cs, hcl, hM, hcell, _⟩ := Kd.R_elem h (0, .nilIface, false) (k : Int) (by omega) (by omega)
  rw [Int.toNat_natCast] at hM hcell
  have hg : xs.getD k (0, .nilIface, false) = xs[k]'hk := by simp [List.getD_eq_getElem?_getD, hk]
  rw [hg] at hM
  obtain ⟨rfl, h1⟩ := hM
  refine ⟨fun v hv => ?_, fun b => ?_⟩
  · have h2 := (Kd.R_seg h (k : Int) (by omega) (by omega) (c := _) (seg := [v]) (j := 1) (okp := fun _ => False) (x' := ((xs[k]'hk).1, v, (xs[k]'hk).2.2)) hcl (by rw [Int.toNat_natCast]; exact hcell) (by show 2 ≤ 3; omega) ⟨rfl, hv⟩ (fun _ hk => hk.elim)).1
    rw [Int.toNat_natCast] at h2
    exact h2
  · have h2 := (Kd.R_seg h (k : Int) (by omega) (by omega) (c := _) (seg := [.bool b]) (j := 2) (okp := fun _ => False) (x' := ((xs[k]'hk).1, (xs[k]'hk).2.1, b)) hcl (by rw [Int.toNat_natCast]; exact hcell) (by show 3 ≤ 3; omega) ⟨rfl, h1⟩ (fun _ hk => hk.elim)).1
    rw [Int.toNat_natCast] at h2
    exact h2
end Go.Proofs.Ytnmahbpkaocjdaa
