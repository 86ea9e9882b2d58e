/-
  Channels in memory: what the program's struct and blocks hold (PRep), and the calls that only read it.
-/
import Derived.Test.YtnmahbpkaocjdaaA
import Derived.KernelRfl
import Derived.Outline
set_option linter.unusedVariables false
namespace Go.Proofs.Ytnmahbpkaocjdaa
open Go.RowKit Go.Proofs.YtnmahbpkaocjdaaW.PrintWords

/-- A channel: its block, the queue's value, what waits in it, the blocks that are its own. -/
structure Ch where
  b : Nat
  room : Int
  qv : Value
  q : List (List PV)
  closed : Bool
  own : Nat → Prop

/-- The kind of what waits in a queue: rows that were made. -/
def qk (_ : World) : Kd (List PV) := Kd.slice 84 pvk

structure ChRep (w0 w : World) (c : Ch) : Prop where
  own_b : c.own c.b
  blk : w.heap[c.b]? = some (.cells #[.int .i64 c.room, c.qv, .bool c.closed] 90 (0, 0))
  row : (qk w0).Q 32 w w0.heap.size (fun k => c.own k ∧ k ≠ c.b) c.qv c.q
  lt : ∀ k, c.own k → w0.heap.size ≤ k ∧ k < w.heap.size
  room0 : 0 ≤ c.room
  room1 : c.room ≤ 1024
  len : (c.q.length : Int) ≤ c.room

structure PRep (w0 w : World) (top : Nat → Prop) (sb : Nat) (chs : List Ch) : Prop where
  top_sb : top sb
  blk : ∃ v, w.heap[sb]? = some (.cells #[v] 87 (0, 0)) ∧ ptrk.R 88 w w0.heap.size (fun k => top k ∧ k ≠ sb) v (chs.map Ch.b)
  lt : ∀ k, top k → w0.heap.size ≤ k ∧ k < w.heap.size
  each : ∀ c ∈ chs, ChRep w0 w c
  apart : ∀ c ∈ chs, ∀ k, c.own k → ¬ top k
  pair : chs.Pairwise fun c d => ∀ k, c.own k → ¬ d.own k
  few : chs.length ≤ 1000

theorem ChRep.upd {w0 w w1 : World} {c : Ch} {S : Nat → Prop} (h : ChRep w0 w c) (hu : Upd S w w1) (hn : ∀ k, c.own k → ¬ S k) : ChRep w0 w1 c where
  own_b := h.own_b
  blk := hu.blk h.blk (hn _ h.own_b)
  row := Kd.Q_upd h.row hu (fun k hk => hn k hk.1)
  lt := fun k hk => ⟨(h.lt k hk).1, Nat.lt_of_lt_of_le (h.lt k hk).2 hu.size⟩
  room0 := h.room0
  room1 := h.room1
  len := h.len

/-- What is done elsewhere. -/
theorem PRep.upd {w0 w w1 : World} {top S : Nat → Prop} {sb : Nat} {chs : List Ch} (h : PRep w0 w top sb chs) (hu : Upd S w w1) (h1 : ∀ k, top k → ¬ S k) (h2 : ∀ c ∈ chs, ∀ k, c.own k → ¬ S k) : PRep w0 w1 top sb chs where
  top_sb := h.top_sb
  blk := by
    obtain ⟨v, hb, hr⟩ := h.blk
    exact ⟨v, hu.blk hb (h1 _ h.top_sb), Kd.R_upd hr hu (fun k hk => h1 k hk.1)⟩
  lt := fun k hk => ⟨(h.lt k hk).1, Nat.lt_of_lt_of_le (h.lt k hk).2 hu.size⟩
  each := fun c hc => (h.each c hc).upd hu (h2 c hc)
  apart := h.apart
  pair := h.pair
  few := h.few

theorem PRep.same {w0 w w1 : World} {top : Nat → Prop} {sb : Nat} {chs : List Ch} (h : PRep w0 w top sb chs) (hs : Same w w1) : PRep w0 w1 top sb chs :=
  h.upd (hs.upd (fun _ => False)) (fun _ _ h => h) (fun _ _ _ _ h => h)

/-- The facts that a walk wants: the list's slice. -/
theorem PRep.list {w0 w : World} {top : Nat → Prop} {sb : Nat} {chs : List Ch} (h : PRep w0 w top sb chs) :
    ∃ A c, w.cell? ⟨sb, 0, none⟩ = some (.slice A chs.length c) ∧ chs.length ≤ c ∧ ∀ k (hk : k < chs.length), ∃ lb, A = some ⟨lb, 0, none⟩ ∧ w.cell? ⟨lb, k, none⟩ = some (.pointer (some ⟨(chs[k]'hk).b, 0, none⟩)) := by
  obtain ⟨v, hb, hr⟩ := h.blk
  obtain ⟨A, c, hv⟩ := Kd.R_slice hr
  subst hv
  rw [List.length_map] at hb hr
  have hlc : chs.length ≤ c := by
    have := (Kd.R_reads' hr).2.1
    exact this
  refine ⟨A, c, ?_, hlc, fun k hk => ?_⟩
  · rw [blk_cell hb]; rfl
  · obtain ⟨g, cap, hv, _⟩ := Kd.R_form hr (by rw [List.length_map]; omega)
    injection hv with ha _ hc
    subst ha; subst hc
    refine ⟨g, rfl, ?_⟩
    have hr' : ptrk.R 88 w w0.heap.size (fun k => top k ∧ k ≠ sb) (.slice (some ⟨g, 0, none⟩) (chs.map Ch.b).length c) (chs.map Ch.b) := by rw [List.length_map]; exact hr
    have h3 := (Kd.R_cell (0 : Nat) hr' (k : Int) (by omega) (by rw [List.length_map]; omega)).1
    rw [Int.toNat_natCast] at h3
    rw [h3]
    simp [rdOf, List.getD_eq_getElem?_getD, hk]

section
variable {w0 w : World} {top : Nat → Prop} {sb : Nat} {chs : List Ch}

theorem channel_out (h : PRep w0 w top sb chs) (i : Int) (hi : i < 1 ∨ (chs.length : Int) < i) :
    Calls Try.prog 37 #[.pointer (some ⟨sb, 0, none⟩), .int .i64 i] w fun e w' => e = .returned (.tuple #[.pointer none, .int .i64 1]) ∧ w = w' := by
  obtain ⟨A, c, hc, _, _⟩ := h.list
  by_cases h1 : i < 1
  · go_enter Try.func37, Try.ntmps37
    go_wp2
    go_ret2
    exact ⟨rfl, rfl⟩
  · have h2 : (chs.length : Int) < i := by omega
    go_enter Try.func37, Try.ntmps37
    go_wp2
    go_ret2
    exact ⟨rfl, rfl⟩

theorem channel_in (h : PRep w0 w top sb chs) (k : Nat) (hk : k < chs.length) :
    Calls Try.prog 37 #[.pointer (some ⟨sb, 0, none⟩), .int .i64 ((k + 1 : Nat) : Int)] w fun e w' => e = .returned (.tuple #[.pointer (some ⟨(chs[k]'hk).b, 0, none⟩), .int .i64 0]) ∧ w = w' := by
  obtain ⟨A, c, hc, hlc, hl⟩ := h.list
  obtain ⟨lb, rfl, hcell⟩ := hl k hk
  have h1 : (1 : Int) ≤ ((k + 1 : Nat) : Int) := by omega
  have h2 : ((k + 1 : Nat) : Int) ≤ chs.length := by omega
  have hfew : chs.length ≤ 1000 := h.few
  generalize (chs[k]'hk).b = cb at hcell ⊢
  go_enter Try.func37, Try.ntmps37
  go_wp2
  go_ret2
  exact ⟨rfl, rfl⟩
end
end Go.Proofs.Ytnmahbpkaocjdaa
