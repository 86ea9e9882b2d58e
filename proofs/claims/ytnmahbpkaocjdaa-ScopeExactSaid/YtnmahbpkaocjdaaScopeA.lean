/-
  Scopes as lists: the plain law (no program in sight).
-/
import Derived.Test.YtnmahbpkaocjdaaA
set_option linter.unusedVariables false
namespace Go.Proofs.Ytnmahbpkaocjdaa
open Go.RowKit Go.Proofs.YtnmahbpkaocjdaaW.PrintWords

/-- An object: its thirteen cells. -/
structure Ob where
  kind : Int
  name : ByteArray
  typ : Int
  node : Int
  num : Int
  ck : Int
  hi : Int
  lo : Int
  cb : Bool
  cs : ByteArray
  file : Int
  line : Int
  col : Int
  deriving DecidableEq

def Ob.enc (o : Ob) : List Value := [.int .i64 o.kind, .string o.name, .int .i64 o.typ, .int .i64 o.node, .int .i64 o.num, .int .i64 o.ck, .int .u64 o.hi, .int .u64 o.lo, .bool o.cb, .string o.cs, .int .i64 o.file, .int .i64 o.line, .int .i64 o.col]
def Ob.zero : Ob := ⟨0, ByteArray.empty, 0, 0, 0, 0, 0, 0, false, ByteArray.empty, 0, 0, 0⟩

/-- Scopes: each one's outer one, each object's scope, the objects; from 1 on. -/
structure St where
  outer : List Int
  inn : List Int
  objs : List Ob

def under : ByteArray := { data := #[95] }

namespace St
def has (st : St) (i : Int) : Bool := decide (1 ≤ i) && decide (i < (st.outer.length : Int))
def ob (st : St) (i : Nat) : Ob := st.objs.getD i Ob.zero
def out (st : St) (i : Int) : Int := st.outer.getD i.toNat 0
def hit (st : St) (at_ : Int) (nm : ByteArray) (i : Nat) : Prop := st.inn.getD i 0 = at_ ∧ (st.ob i).name = nm ∧ nm ≠ under
instance (st : St) (at_ : Int) (nm : ByteArray) (i : Nat) : Decidable (st.hit at_ nm i) := by unfold hit; exact inferInstance
/-- The first object below n that has the name in the scope; 0: none. -/
def hereUp (st : St) (at_ : Int) (nm : ByteArray) : Nat → Nat
  | 0 => 0
  | n + 1 => if st.hereUp at_ nm n ≠ 0 then st.hereUp at_ nm n else if n ≠ 0 ∧ st.hit at_ nm n then n else 0
def here (st : St) (at_ : Int) (nm : ByteArray) : Nat := st.hereUp at_ nm st.objs.length
def find (st : St) (nm : ByteArray) : Nat → Int → Int × Int
  | 0, _ => (0, 0)
  | f + 1, i => if st.has i = true then (if st.here i nm ≠ 0 then ((st.here i nm : Int), i) else st.find nm f (st.out i)) else (0, 0)
def Find (st : St) (i : Int) (nm : ByteArray) : Int × Int := st.find nm st.outer.length i
def win (st : St) (k : Int) : Nat → Int → Bool
  | 0, i => decide (i = k)
  | f + 1, i => if st.has i = true ∧ i ≠ k then st.win k f (st.out i) else decide (i = k)
def Within (st : St) (i k : Int) : Bool := st.has k && st.win k st.outer.length i

structure Good (st : St) : Prop where
  o2 : 2 ≤ st.outer.length
  o0 : st.out 0 = 0
  o1 : st.out 1 = 0
  up : ∀ i : Nat, 2 ≤ i → i < st.outer.length → 1 ≤ st.out i ∧ st.out i < i
  len : st.inn.length = st.objs.length
  pos : 1 ≤ st.objs.length
  ins : ∀ i : Nat, 1 ≤ i → i < st.inn.length → 1 ≤ st.inn.getD i 0 ∧ st.inn.getD i 0 < (st.outer.length : Int)
  few1 : st.outer.length ≤ 1000
  few2 : st.objs.length ≤ 1000
  nm : ∀ i, (st.ob i).name.size ≤ maxLen

def open_ (st : St) (i : Int) : St := { st with outer := st.outer ++ [i] }
def put (st : St) (i : Int) (o : Ob) : St := { st with inn := st.inn ++ [i], objs := st.objs ++ [o] }
def change (st : St) (i : Nat) (o : Ob) : St := { st with objs := st.objs.set i o }

variable {st : St}

theorem has_iff {i : Int} : st.has i = true ↔ 1 ≤ i ∧ i < (st.outer.length : Int) := by simp [has]
theorem has_out (g : st.Good) {i : Int} (h : st.has i = true) : st.out i = 0 ∧ i = 1 ∨ st.has (st.out i) = true ∧ st.out i < i := by
  obtain ⟨h1, h2⟩ := has_iff.1 h
  by_cases hi : i = 1
  · subst hi
    exact .inl ⟨g.o1, rfl⟩
  · have := g.up i.toNat (by omega) (by omega)
    rw [Int.toNat_of_nonneg (by omega)] at this
    exact .inr ⟨has_iff.2 ⟨this.1, by omega⟩, this.2⟩
theorem out_lt (g : st.Good) {i : Int} (h : st.has i = true) : st.out i < i ∧ 0 ≤ st.out i := by
  have hi := has_iff.1 h
  rcases has_out g h with h2 | h2
  · omega
  · have := has_iff.1 h2.1
    omega

theorem hereUp_lt (at_ : Int) (nm : ByteArray) : ∀ n, st.hereUp at_ nm n ≠ 0 → st.hereUp at_ nm n < n ∧ st.hit at_ nm (st.hereUp at_ nm n)
  | 0, h => absurd rfl h
  | n + 1, h => by
    unfold hereUp at h ⊢
    by_cases h1 : st.hereUp at_ nm n ≠ 0
    · have := hereUp_lt at_ nm n h1
      rw [if_pos h1]
      exact ⟨by omega, this.2⟩
    · rw [if_neg h1] at h ⊢
      by_cases h2 : n ≠ 0 ∧ st.hit at_ nm n
      · rw [if_pos h2]
        exact ⟨by omega, h2.2⟩
      · rw [if_neg h2] at h
        exact absurd rfl h
theorem hereUp_stay {at_ : Int} {nm : ByteArray} {n : Nat} (h : st.hereUp at_ nm n ≠ 0) : ∀ d, st.hereUp at_ nm (n + d) = st.hereUp at_ nm n
  | 0 => rfl
  | d + 1 => by
    have := hereUp_stay h d
    rw [← Nat.add_assoc, hereUp, this, if_pos h]
theorem here_of_hit {at_ : Int} {nm : ByteArray} {n : Nat} (h : st.hereUp at_ nm n = 0) (hn : n ≠ 0) (hl : n < st.objs.length) (hh : st.hit at_ nm n) : st.here at_ nm = n := by
  have h1 : st.hereUp at_ nm (n + 1) = n := by rw [hereUp, if_neg (by simp [h]), if_pos ⟨hn, hh⟩]
  have h2 := hereUp_stay (st := st) (n := n + 1) (by rw [h1]; exact hn) (st.objs.length - (n + 1))
  rw [show n + 1 + (st.objs.length - (n + 1)) = st.objs.length by omega, h1] at h2
  exact h2
theorem hereUp_step {at_ : Int} {nm : ByteArray} {n : Nat} (h : st.hereUp at_ nm n = 0) (hh : ¬ st.hit at_ nm n) : st.hereUp at_ nm (n + 1) = 0 := by
  rw [hereUp, if_neg (by simp [h]), if_neg (fun h => hh h.2)]
theorem here_lt {at_ : Int} {nm : ByteArray} (h : st.here at_ nm ≠ 0) : st.here at_ nm < st.objs.length ∧ st.hit at_ nm (st.here at_ nm) := hereUp_lt at_ nm _ h
theorem here_le (at_ : Int) (nm : ByteArray) : st.here at_ nm ≤ st.objs.length := by
  by_cases h : st.here at_ nm = 0
  · omega
  · exact Nat.le_of_lt (here_lt h).1
theorem here_out (g : st.Good) {at_ : Int} (nm : ByteArray) (h : st.has at_ = false) : st.here at_ nm = 0 := by
  by_cases h1 : st.here at_ nm = 0
  · exact h1
  · exfalso
    obtain ⟨h2, h3, _⟩ := here_lt h1
    have := g.ins (st.here at_ nm) (by omega) (by rw [g.len]; exact h2)
    rw [h3] at this
    have h4 := has_iff.2 this
    rw [h4] at h
    cases h

theorem hereUp_congr {st2 : St} {at_ : Int} {nm : ByteArray} : ∀ n, (∀ i, i < n → (st.hit at_ nm i ↔ st2.hit at_ nm i)) → st.hereUp at_ nm n = st2.hereUp at_ nm n
  | 0, _ => rfl
  | n + 1, h => by
    unfold hereUp
    rw [hereUp_congr n (fun i hi => h i (by omega))]
    have := h n (by omega)
    simp only [this]
theorem ob_put (st : St) (i : Int) (o : Ob) (j : Nat) : (st.put i o).ob j = if j = st.objs.length then o else st.ob j := by
  unfold ob put
  simp only [List.getD_eq_getElem?_getD]
  by_cases h : j < st.objs.length
  · rw [List.getElem?_append_left h, if_neg (by omega)]
  · rw [List.getElem?_append_right (by omega)]
    by_cases h2 : j = st.objs.length
    · simp [h2]
    · rw [if_neg h2, List.getElem?_eq_none (by rw [List.length_singleton]; omega), List.getElem?_eq_none (by omega)]
theorem inn_put (g : st.Good) (i : Int) (o : Ob) (j : Nat) : (st.put i o).inn.getD j 0 = if j = st.objs.length then i else st.inn.getD j 0 := by
  have hl := g.len
  unfold put
  simp only [List.getD_eq_getElem?_getD]
  by_cases h : j < st.inn.length
  · rw [List.getElem?_append_left h, if_neg (by omega)]
  · rw [List.getElem?_append_right (by omega)]
    by_cases h2 : j = st.objs.length
    · simp [h2, hl]
    · rw [if_neg h2, List.getElem?_eq_none (by rw [List.length_singleton]; omega), List.getElem?_eq_none (by omega)]
theorem here_put (g : st.Good) (i : Int) (o : Ob) (at_ : Int) (nm : ByteArray) :
    (st.put i o).here at_ nm = if st.here at_ nm ≠ 0 then st.here at_ nm else if at_ = i ∧ nm = o.name ∧ nm ≠ under then st.objs.length else 0 := by
  have hp := g.pos
  have hl : (st.put i o).objs.length = st.objs.length + 1 := by simp [put]
  have hc : (st.put i o).hereUp at_ nm st.objs.length = st.here at_ nm := hereUp_congr _ (fun j hj => by
    unfold hit
    rw [inn_put g, ob_put, if_neg (by omega), if_neg (by omega)])
  unfold here
  rw [hl, hereUp, hc]
  have hh : (st.put i o).hit at_ nm st.objs.length ↔ at_ = i ∧ nm = o.name ∧ nm ≠ under := by
    unfold hit
    rw [inn_put g, ob_put, if_pos rfl, if_pos rfl]
    constructor
    · rintro ⟨rfl, rfl, h⟩; exact ⟨rfl, rfl, h⟩
    · rintro ⟨rfl, rfl, h⟩; exact ⟨rfl, rfl, h⟩
  simp only [hh]
  have : st.objs.length ≠ 0 := by omega
  simp only [this, ne_eq, not_false_eq_true, true_and]
  rfl
theorem ob_change (st : St) (i : Nat) (o : Ob) (j : Nat) (hi : i < st.objs.length) : (st.change i o).ob j = if j = i then o else st.ob j := by
  unfold ob change
  simp only [List.getD_eq_getElem?_getD]
  by_cases h : j = i
  · subst h
    rw [List.getElem?_set_self hi, if_pos rfl]
    rfl
  · rw [List.getElem?_set_ne (by omega), if_neg h]
theorem here_change (i : Nat) (o : Ob) (hi : i < st.objs.length) (hn : o.name = (st.ob i).name) (at_ : Int) (nm : ByteArray) : (st.change i o).here at_ nm = st.here at_ nm := by
  have hl : (st.change i o).objs.length = st.objs.length := by simp [change]
  unfold here
  rw [hl]
  refine hereUp_congr _ (fun j _ => ?_)
  unfold hit
  rw [ob_change st i o j hi]
  by_cases h : j = i
  · subst h
    rw [if_pos rfl, hn]
    rfl
  · rw [if_neg h]
    rfl
theorem here_open (i at_ : Int) (nm : ByteArray) : (st.open_ i).here at_ nm = st.here at_ nm := hereUp_congr _ (fun _ _ => Iff.rfl)
theorem out_open (i : Int) (j : Int) : (st.open_ i).out j = if j.toNat = st.outer.length then i else st.out j := by
  unfold out open_
  simp only [List.getD_eq_getElem?_getD]
  by_cases h : j.toNat < st.outer.length
  · rw [List.getElem?_append_left h, if_neg (by omega)]
  · rw [List.getElem?_append_right (by omega)]
    by_cases h2 : j.toNat = st.outer.length
    · simp [h2]
    · rw [if_neg h2, List.getElem?_eq_none (by rw [List.length_singleton]; omega), List.getElem?_eq_none (by omega)]

theorem Good.open_ (g : st.Good) {i : Int} (h : st.has i = true) (hf : st.outer.length < 1000) : (st.open_ i).Good := by
  have hi := has_iff.1 h
  have hl : (st.open_ i).outer.length = st.outer.length + 1 := by simp [St.open_]
  have ho2 := g.o2
  refine ⟨by omega, ?_, ?_, ?_, g.len, g.pos, ?_, by omega, g.few2, g.nm⟩
  · rw [out_open, if_neg (by simp; omega)]; exact g.o0
  · rw [out_open, if_neg (by simp; omega)]; exact g.o1
  · intro j hj hj2
    rw [out_open]
    by_cases h2 : (j : Int).toNat = st.outer.length
    · rw [if_pos h2]; omega
    · rw [if_neg h2]
      exact g.up j hj (by omega)
  · intro j hj hj2
    have := g.ins j hj hj2
    refine ⟨this.1, ?_⟩
    have h3 := this.2
    rw [hl]
    show st.inn.getD j 0 < _
    omega
theorem Good.put (g : st.Good) {i : Int} {o : Ob} (h : st.has i = true) (hf : st.objs.length < 1000) (hn : o.name.size ≤ maxLen) : (st.put i o).Good := by
  have hi := has_iff.1 h
  have hl : (st.put i o).objs.length = st.objs.length + 1 := by simp [St.put]
  have hl2 : (st.put i o).inn.length = st.inn.length + 1 := by simp [St.put]
  have hgl := g.len
  refine ⟨g.o2, g.o0, g.o1, g.up, by omega, by omega, ?_, g.few1, by omega, ?_⟩
  · intro j hj hj2
    rw [inn_put g]
    by_cases h2 : j = st.objs.length
    · rw [if_pos h2]; exact hi
    · rw [if_neg h2]
      exact g.ins j hj (by omega)
  · intro j
    rw [ob_put]
    by_cases h2 : j = st.objs.length
    · rw [if_pos h2]; exact hn
    · rw [if_neg h2]; exact g.nm j
theorem Good.change (g : st.Good) {i : Nat} {o : Ob} (hi : i < st.objs.length) (hn : o.name = (st.ob i).name) : (st.change i o).Good := by
  have hl : (st.change i o).objs.length = st.objs.length := by simp [St.change]
  refine ⟨g.o2, g.o0, g.o1, g.up, by rw [hl]; exact g.len, by rw [hl]; exact g.pos, g.ins, g.few1, by rw [hl]; exact g.few2, fun j => ?_⟩
  rw [ob_change st i o j hi]
  by_cases h2 : j = i
  · rw [if_pos h2, hn]; exact g.nm i
  · rw [if_neg h2]; exact g.nm j
end St
end Go.Proofs.Ytnmahbpkaocjdaa
