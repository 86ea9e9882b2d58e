/-
  Words for the proofs over channels and scopes: kinds of flat structs and of pointers; footprints of what a call may write. No statement of the seed is proved here.
-/
import Derived.Test.YtnmahbpkaocjdaaProg
import Derived.Test.YtnmahbpkaocjdaaWWords
import Derived.Test.YtnmahbpkaocjdaaWQPut
import Derived.WalkLawsBesides
import Derived.WalkSpells
set_option linter.unusedVariables false
namespace Go.Proofs.Ytnmahbpkaocjdaa
open Go.RowKit Go.Proofs.YtnmahbpkaocjdaaW.PrintWords

/-- The walk stands here: 'go_wp2_with (at_builtin; refine Stand.stop ?_)', then 'refine Stand.go ?_'. -/
def Stand (p : Prop) : Prop := p
theorem Stand.stop {p : Prop} (h : Stand p) : p := h
theorem Stand.go {p : Prop} (h : p) : Stand p := h

/-- A struct of scalars alone. -/
def flat {α : Type} (n : Nat) (enc : α → List Value) (hl : ∀ x, (enc x).length = n) (h1 : ∀ x, ∀ u ∈ enc x, u.oneCell' = true) : Kd α where
  sz := n
  E := []
  K := fun _ x cs => cs = enc x
  M := fun _ _ _ x cs => cs = enc x
  K_len := fun h => by rw [h]; exact hl _
  K_one := fun h u hu => by rw [h] at hu; exact h1 _ u hu
  K_below := fun _ h => h
  K_of_M := fun h => h
  M_mono := fun _ h => h
  M_bound := fun h => h
  M_move := fun _ h => h
  M_lower := fun _ h => h

theorem cell_alloc {w : World} {a : Addr} {v : Value} (h : w.cell? a = some v) (o : Obj) : (w.alloc o).cell? a = some v := cell_later ((Below.refl _ _).alloc (Nat.le_refl _) o) h
theorem frozen_alloc {w : World} {a : Addr} (h : w.frozen? a = false) (hlt : a.block < w.heap.size) (o : Obj) : (w.alloc o).frozen? a = false := (((Below.refl w.heap.size w).alloc (Nat.le_refl _) o).frozen hlt).trans h
/-- '[]T{}': a row of its own without elements. -/
theorem R_empty {α : Type} (d : Kd α) (w : World) {e : Nat} (ok : Nat → Prop) (hok : ok w.heap.size) : d.R e (w.alloc (.cells #[] e)) w.heap.size ok (.slice (some ⟨w.heap.size, 0, none⟩) 0 0) [] := by
  refine ⟨fun k hk => ?_, [], ?_, Reps.none _ _⟩
  · have : w.heap.size = k := by simpa [Value.ownBlock] using hk
    subst this
    exact hok
  · simpa using World.ownsRow_lit (base := w.heap.size) (e := e) (size := d.sz) w #[] 0 (Nat.le_refl _) (by simp [maxLen]) (by simp)
/-- A value of the small language: its five cells. -/
structure PV where
  k : Int
  n : Int
  m : Int
  c : Int
  s : ByteArray
  deriving DecidableEq

def PV.enc (x : PV) : List Value := [.int .i64 x.k, .int .i64 x.n, .int .i64 x.m, .int .i64 x.c, .string x.s]
def pvk : Kd PV := flat 5 PV.enc (fun _ => rfl) (fun x u hu => by
  simp only [PV.enc, List.mem_cons, List.not_mem_nil, or_false] at hu
  rcases hu with rfl | rfl | rfl | rfl | rfl <;> rfl)
/-- Pointers to blocks. -/
def ptrk : Kd Nat := Kd.scalar (fun b => .pointer (some ⟨b, 0, none⟩)) (fun _ => rfl)

/-- What a call turns: the blocks of S alone, and new ones. -/
structure Upd (S : Nat → Prop) (w w' : World) : Prop where
  os : w'.os = w.os
  tape : w'.tape = w.tape
  output : w'.output = w.output
  size : w.heap.size ≤ w'.heap.size
  block : ∀ k, k < w.heap.size → ¬ S k → w'.heap[k]? = w.heap[k]?

section
variable {S S2 T : Nat → Prop} {w w1 w2 : World}
theorem Upd.refl (S : Nat → Prop) (w : World) : Upd S w w := ⟨rfl, rfl, rfl, Nat.le_refl _, fun _ _ _ => rfl⟩
theorem Upd.mono (h : Upd S w w1) (hs : ∀ k, k < w.heap.size → S k → T k) : Upd T w w1 := ⟨h.os, h.tape, h.output, h.size, fun k hk hn => h.block k hk (fun h2 => hn (hs k hk h2))⟩
theorem Upd.trans (h : Upd S w w1) (k : Upd S2 w1 w2) (hs : ∀ k, S2 k → S k ∨ w.heap.size ≤ k) : Upd S w w2 :=
  ⟨k.os.trans h.os, k.tape.trans h.tape, k.output.trans h.output, Nat.le_trans h.size k.size, fun i hi hn => (k.block i (Nat.lt_of_lt_of_le hi h.size) (fun h2 => (hs i h2).elim hn (fun h3 => by omega))).trans (h.block i hi hn)⟩
theorem Upd.alloc (h : Upd S w w1) (o : Obj) : Upd S w (w1.alloc o) := h.trans (S2 := fun _ => False) ⟨rfl, rfl, rfl, by simp, fun k hk _ => Below.heap_alloc _ _ _ hk⟩ (fun _ h => h.elim)
theorem Upd.drew (h : Upd S w w1) : Upd S w w1.drew := ⟨h.os, h.tape, h.output, h.size, h.block⟩
theorem Upd.drewN (h : Upd S w w1) (n : Nat) : Upd S w (w1.drewN n) := ⟨h.os, h.tape, h.output, h.size, h.block⟩
theorem Upd.setCell (h : Upd S w w1) {p : Addr} (hp : S p.block ∨ w.heap.size ≤ p.block) (u : Value) : Upd S w (w1.setCell p u) :=
  h.trans (S2 := fun k => k = p.block) ⟨rfl, rfl, rfl, by simp [World.setCell], fun k _ hn => Below.heap_setCell w1 p u k hn⟩ (fun k hk => by rw [hk]; exact hp)
theorem Upd.cell (w : World) (g o : Nat) (u : Value) : Upd (fun j => j = g) w (w.setCell ⟨g, o, none⟩ u) := (Upd.refl (fun j => j = g) w).setCell (p := ⟨g, o, none⟩) (.inl rfl) u
theorem Upd.grown (h : Upd S w w1) {row : Option Nat} (hg : w1.grownBy w2 row) (hr : ∀ k, row = some k → S k ∨ w.heap.size ≤ k) : Upd S w w2 :=
  h.trans (S2 := fun k => row = some k) ⟨hg.os, hg.tape, hg.output, hg.size, fun i hi hn => hg.block i hi (fun he => hn he.symm)⟩ hr
theorem Upd.below (h : Upd (fun _ => False) w w1) : Below w.heap.size w w1 := ⟨h.os, h.tape, h.output, h.size, fun k hk => h.block k hk (fun h => h)⟩
theorem Upd.of_below (h : Below w.heap.size w w1) (S : Nat → Prop) : Upd S w w1 := ⟨h.os, h.tape, h.output, h.size, fun k hk _ => h.block k hk⟩
theorem Upd.belowAt {B : Nat} (h : Upd S w w1) (hs : ∀ k, S k → B ≤ k) (hB : B ≤ w.heap.size) : Below B w w1 := ⟨h.os, h.tape, h.output, h.size, fun k hk => h.block k (by omega) (fun h2 => by have := hs k h2; omega)⟩
theorem Upd.blk (h : Upd S w w1) {g : Nat} {o : Obj} (hb : w.heap[g]? = some o) (hn : ¬ S g) : w1.heap[g]? = some o := (h.block g (blk_lt hb) hn).trans hb
end
theorem Kd.R_upd {α : Type} {d : Kd α} {e base : Nat} {ok S : Nat → Prop} {w w1 : World} {v : Value} {xs : List α} (h : d.R e w base ok v xs) (hu : Upd S w w1) (hn : ∀ k, ok k → ¬ S k) : d.R e w1 base ok v xs :=
  Kd.R_step h (fun k ho hlt => hu.block k hlt (hn k ho))
theorem Kd.Q_upd {α : Type} {d : Kd α} {e base : Nat} {ok S : Nat → Prop} {w w1 : World} {v : Value} {xs : List α} (h : d.Q e w base ok v xs) (hu : Upd S w w1) (hn : ∀ k, ok k → ¬ S k) : d.Q e w1 base ok v xs :=
  Kd.Q_step h (fun k ho hlt => hu.block k hlt (hn k ho))

/-- Nothing has turned but the number of draws. -/
structure Same (w w' : World) : Prop where
  os : w'.os = w.os
  tape : w'.tape = w.tape
  output : w'.output = w.output
  heap : w'.heap = w.heap
theorem Same.refl (w : World) : Same w w := ⟨rfl, rfl, rfl, rfl⟩
theorem Same.drewN (w : World) (n : Nat) : Same w (w.drewN n) := ⟨rfl, rfl, rfl, rfl⟩
theorem Same.upd {w w' : World} (h : Same w w') (S : Nat → Prop) : Upd S w w' := ⟨h.os, h.tape, h.output, by rw [h.heap]; exact Nat.le_refl _, fun k _ _ => by rw [h.heap]⟩
theorem Same.trans {w w1 w2 : World} (h : Same w w1) (k : Same w1 w2) : Same w w2 := ⟨k.os.trans h.os, k.tape.trans h.tape, k.output.trans h.output, k.heap.trans h.heap⟩
theorem Same.below {w w' : World} (h : Same w w') : Below w.heap.size w w' := (h.upd (fun _ => False)).below

end Go.Proofs.Ytnmahbpkaocjdaa
