/-
  One channel alone: the calls on it, said of its room, what waits in it and whether it is closed.
-/
import Derived.Test.YtnmahbpkaocjdaaPipeI
set_option linter.unusedVariables false
namespace Go.Proofs.Ytnmahbpkaocjdaa
open Go.RowKit Go.Proofs.YtnmahbpkaocjdaaW.PrintWords

theorem PRep.nil {w0 w : World} (h0 : w0.heap.size ≤ w.heap.size) : PRep w0 (w.alloc (.cells #[.slice none 0 0] 87)) (fun j => j = w.heap.size) w.heap.size [] where
  top_sb := rfl
  blk := ⟨.slice none 0 0, heap_alloc_new w _, Kd.R_nil _ _ _ _ _⟩
  lt := fun k hk => by rw [hk, World.size_alloc]; omega
  each := fun c hc => by simp at hc
  apart := fun c hc => by simp at hc
  pair := List.Pairwise.nil
  few := by simp

/-- One channel, within the footprint fp. -/
def One (w0 w : World) (fp : Nat → Prop) (sb : Nat) (room : Int) (q : List (List PV)) (closed : Bool) : Prop :=
  ∃ top c, PRep w0 w top sb [c] ∧ c.room = room ∧ c.q = q ∧ c.closed = closed ∧ (∀ k, top k → fp k) ∧ (∀ k, c.own k → fp k)

section
variable {w0 w : World} {fp : Nat → Prop} {sb : Nat} {room : Int} {q : List (List PV)} {closed : Bool}

theorem One.upd {S : Nat → Prop} {w1 : World} (h : One w0 w fp sb room q closed) (hu : Upd S w w1) (hS : ∀ k, fp k → ¬ S k) : One w0 w1 fp sb room q closed := by
  obtain ⟨top, c, hp, h1, h2, h3, h4, h5⟩ := h
  exact ⟨top, c, hp.upd hu (fun k hk => hS k (h4 k hk)) (fun d hd k hk => by rw [List.mem_singleton.1 hd] at hk; exact hS k (h5 k hk)), h1, h2, h3, h4, h5⟩
theorem One.below {w1 : World} (h : One w0 w fp sb room q closed) (hb : Below w.heap.size w w1) : One w0 w1 fp sb room q closed := h.upd (Upd.of_below hb (fun _ => False)) (fun _ _ h => h)
theorem One.mono {fp' : Nat → Prop} (h : One w0 w fp sb room q closed) (hf : ∀ k, fp k → fp' k) : One w0 w fp' sb room q closed := by
  obtain ⟨top, c, hp, h1, h2, h3, h4, h5⟩ := h
  exact ⟨top, c, hp, h1, h2, h3, fun k hk => hf k (h4 k hk), fun k hk => hf k (h5 k hk)⟩

def OneAfter (w0 w : World) (fp : Nat → Prop) (sb : Nat) (room : Int) (q : List (List PV)) (closed : Bool) (v : Value) (e : Ending) (w' : World) : Prop :=
  e = .returned v ∧ One w0 w' (fun k => fp k ∨ (w.heap.size ≤ k ∧ k < w'.heap.size)) sb room q closed ∧ Upd fp w w'

theorem One.len (h : One w0 w fp sb room q closed) : (q.length : Int) ≤ room ∧ 0 ≤ room ∧ room ≤ 1024 := by
  obtain ⟨top, c, hp, rfl, rfl, rfl, h4, h5⟩ := h
  have hc := hp.each c (by simp)
  exact ⟨hc.len, hc.room0, hc.room1⟩

theorem One_make {top : Nat → Prop} (h : PRep w0 w top sb []) (h0 : w0.heap.size ≤ w.heap.size) (r : Int) (hr0 : 0 ≤ r) (hr1 : r ≤ 1024) :
    Calls Try.prog 10 #[.pointer (some ⟨sb, 0, none⟩), .int .i64 r] w (OneAfter w0 w top sb r [] false (.tuple #[.int .i64 1, .int .i64 0])) := by
  refine (Make_ok h h0 r hr0 hr1 (by simp)).mono ?_
  rintro e w' ⟨top', c, rfl, hu, ht, ho, h1, h2, h3, hp⟩
  exact ⟨rfl, ⟨top', c, hp, h1, h2, h3, fun k hk => (ht k hk).imp id (fun h4 => ⟨h4, (hp.lt k hk).2⟩), fun k hk => .inr ⟨ho k hk, ((hp.each c (by simp)).lt k hk).2⟩⟩, hu⟩

theorem One_room (h : One w0 w fp sb room q closed) :
    Calls Try.prog 11 #[.pointer (some ⟨sb, 0, none⟩), .int .i64 1] w fun e w' => e = .returned (.int .i64 room) ∧ w = w' := by
  obtain ⟨top, c, hp, rfl, rfl, rfl, h4, h5⟩ := h
  exact Room_in hp 0 (by simp)
theorem One_empty (h : One w0 w fp sb room q closed) :
    Calls Try.prog 17 #[.pointer (some ⟨sb, 0, none⟩), .int .i64 1] w fun e w' => e = .returned (.bool ((q.length : Int) == 0)) ∧ w = w' := by
  obtain ⟨top, c, hp, rfl, rfl, rfl, h4, h5⟩ := h
  exact Empty_in hp 0 (by simp)
theorem One_isClosed (h : One w0 w fp sb room q closed) :
    Calls Try.prog 18 #[.pointer (some ⟨sb, 0, none⟩), .int .i64 1] w fun e w' => e = .returned (.bool closed) ∧ w = w' := by
  obtain ⟨top, c, hp, rfl, rfl, rfl, h4, h5⟩ := h
  exact IsClosed_in hp 0 (by simp)
theorem One_full (h : One w0 w fp sb room q closed) :
    Calls Try.prog 22 #[.pointer (some ⟨sb, 0, none⟩), .int .i64 1] w fun e w' => e = .returned (.bool (decide (room ≤ (q.length : Int)))) ∧ Same w w' := by
  obtain ⟨top, c, hp, rfl, rfl, rfl, h4, h5⟩ := h
  exact Full_in hp 0 (by simp)
theorem One_full9 (h : One w0 w fp sb room q closed) :
    Calls Try.prog 22 #[.pointer (some ⟨sb, 0, none⟩), .int .i64 9] w fun e w' => e = .returned (.bool true) ∧ Same w w' := by
  obtain ⟨top, c, hp, rfl, rfl, rfl, h4, h5⟩ := h
  exact Full_out hp 9 (.inr (by simp))
theorem One_empty9 (h : One w0 w fp sb room q closed) :
    Calls Try.prog 17 #[.pointer (some ⟨sb, 0, none⟩), .int .i64 9] w fun e w' => e = .returned (.bool true) ∧ w = w' := by
  obtain ⟨top, c, hp, rfl, rfl, rfl, h4, h5⟩ := h
  exact Empty_out hp 9 (.inr (by simp))

theorem One_push (h : One w0 w fp sb room q false) (h0 : w0.heap.size ≤ w.heap.size) (hf : (q.length : Int) < room) (A : Option Addr) (c : Nat) (xs : List PV) (hn : A = none → xs.length = 0) (hC : pvk.C w A xs.length xs) (hl : xs.length ≤ 1000) :
    Calls Try.prog 13 #[.pointer (some ⟨sb, 0, none⟩), .int .i64 1, .slice A xs.length c] w (OneAfter w0 w fp sb room (q ++ [xs]) false (.int .i64 0)) := by
  obtain ⟨top, ch, hp, rfl, rfl, h3, h4, h5⟩ := h
  refine (Push_in hp h0 0 (by simp) h3 hf A c xs hn hC hl).mono ?_
  rintro e w' ⟨rfl, qv, own, hu, ho, hp'⟩
  exact ⟨rfl, ⟨top, _, hp', rfl, rfl, h3, fun k hk => .inl (h4 k hk), fun k hk => (ho k hk).imp (h5 k) (fun h6 => ⟨h6, ((hp'.each _ (List.mem_singleton.2 rfl)).lt k hk).2⟩)⟩, hu.mono (fun k _ hk => h5 k hk)⟩
theorem One_push_full (h : One w0 w fp sb room q false) (hf : room ≤ (q.length : Int)) (v : Value) :
    Calls Try.prog 13 #[.pointer (some ⟨sb, 0, none⟩), .int .i64 1, v] w fun e w' => e = .returned (.int .i64 14) ∧ Same w w' := by
  obtain ⟨top, ch, hp, rfl, rfl, h3, h4, h5⟩ := h
  exact Push_full hp 0 (by simp) v h3 hf
theorem One_push_closed (h : One w0 w fp sb room q true) (v : Value) :
    Calls Try.prog 13 #[.pointer (some ⟨sb, 0, none⟩), .int .i64 1, v] w fun e w' => e = .returned (.int .i64 15) ∧ w = w' := by
  obtain ⟨top, ch, hp, rfl, rfl, h3, h4, h5⟩ := h
  exact Push_closed hp 0 (by simp) v h3
theorem One_close (h : One w0 w fp sb room q false) :
    Calls Try.prog 14 #[.pointer (some ⟨sb, 0, none⟩), .int .i64 1] w (OneAfter w0 w fp sb room q true (.int .i64 0)) := by
  obtain ⟨top, ch, hp, rfl, rfl, h3, h4, h5⟩ := h
  refine (Close_once hp 0 (by simp) h3).mono ?_
  rintro e w' ⟨rfl, hu, hp'⟩
  exact ⟨rfl, ⟨top, _, hp', rfl, rfl, rfl, fun k hk => .inl (h4 k hk), fun k hk => .inl (h5 k hk)⟩, hu.mono (fun k _ hk => h5 k hk)⟩
theorem One_close_twice (h : One w0 w fp sb room q true) :
    Calls Try.prog 14 #[.pointer (some ⟨sb, 0, none⟩), .int .i64 1] w fun e w' => e = .returned (.int .i64 15) ∧ w = w' := by
  obtain ⟨top, ch, hp, rfl, rfl, h3, h4, h5⟩ := h
  exact Close_twice hp 0 (by simp) h3
theorem One_pop_empty (h : One w0 w fp sb room [] closed) :
    Calls Try.prog 15 #[.pointer (some ⟨sb, 0, none⟩), .int .i64 1] w fun e w' => e = .returned (.tuple #[.slice none 0 0, .bool false]) ∧ w = w' := by
  obtain ⟨top, ch, hp, rfl, h2, h3, h4, h5⟩ := h
  exact Pop_empty hp 0 (by simp) h2

def OnePop (w0 w : World) (fp : Nat → Prop) (sb : Nat) (room : Int) (x : List PV) (q : List (List PV)) (closed : Bool) (e : Ending) (w' : World) : Prop :=
  ∃ A c, e = .returned (.tuple #[.slice A x.length c, .bool true]) ∧ pvk.C w' A x.length x ∧ One w0 w' fp sb room q closed ∧ Upd fp w w'
theorem One_pop {x : List PV} (h : One w0 w fp sb room (x :: q) closed) :
    Calls Try.prog 15 #[.pointer (some ⟨sb, 0, none⟩), .int .i64 1] w (OnePop w0 w fp sb room x q closed) := by
  obtain ⟨top, ch, hp, rfl, h2, rfl, h4, h5⟩ := h
  refine (Pop_in hp 0 (by simp) x q h2).mono ?_
  rintro e w' ⟨A, c, qv, rfl, hC, hu, hp'⟩
  exact ⟨A, c, rfl, hC, ⟨top, _, hp', rfl, rfl, rfl, h4, h5⟩, hu.mono (fun k _ hk => h5 k hk)⟩
end

/-- No channel yet. -/
def Newed (w0 w : World) (e : Ending) (w' : World) : Prop := ∃ sb, e = .returned (.pointer (some ⟨sb, 0, none⟩)) ∧ PRep w0 w' (fun j => j = sb) sb [] ∧ w.heap.size ≤ sb ∧ sb < w'.heap.size ∧ Upd (fun _ => False) w w'
theorem New_rep (w0 w : World) (h0 : w0.heap.size ≤ w.heap.size) : Calls Try.prog 9 #[] w (Newed w0 w) := by
  refine (New_calls w).mono ?_
  rintro e w' ⟨rfl, rfl⟩
  exact ⟨_, rfl, PRep.nil h0, Nat.le_refl _, by rw [World.size_alloc]; omega, (Upd.refl _ _).alloc _⟩

/-- A literal of one value. -/
theorem pv_lit (w : World) (x : PV) : pvk.R 84 (w.alloc (.cells #[.int .i64 x.k, .int .i64 x.n, .int .i64 x.m, .int .i64 x.c, .string x.s] 84)) w.heap.size (fun k => k = w.heap.size) (.slice (some ⟨w.heap.size, 0, none⟩) 1 1) [x] := by
  refine ⟨fun k hk => ?_, PV.enc x, ?_, ?_⟩
  · have : w.heap.size = k := by simpa [Value.ownBlock] using hk
    exact this.symm
  · have h2 := World.ownsRow_lit (base := w.heap.size) (e := 84) (size := pvk.sz) w (PV.enc x).toArray 1 (Nat.le_refl _) (by simp [maxLen]) (by rfl)
    simpa [PV.enc] using h2
  · exact Reps.snoc (Reps.none _ _) rfl rfl
end Go.Proofs.Ytnmahbpkaocjdaa
