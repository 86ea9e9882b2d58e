/-
  The lattice: the plain laws (what the printed functions answer; joins are the least).
-/
import Derived.Test.YtikipnbdccbnfaaGL3
set_option linter.unusedVariables false
set_option linter.unusedSimpArgs false
namespace Go.Proofs.Ytikipnbdccbnfaa
open Go.RowKit Go.Proofs.YtikipnbdccbnfaaW.PrintWords Go.Proofs.YtikipnbdccbnfaaW.PrintLast Go.Proofs.YtikipnbdccbnfaaW.PrintMore Go.Proofs.Ytikipnbdccbnfaa.GL

def flatB (c : Int) : Bool := decide (0 ≤ c) && decide (c ≤ 3)
def cellS (t a b : Int) : Int := if t = 1 ∧ flatB a = true ∧ flatB b = true then (if a = b ∨ b = 0 then a else if a = 0 then b else 3) else mx a b
theorem isFlat_is (c : Int) : lattice_isFlat.f c = some (flatB c) := by
  unfold lattice_isFlat.f flatB
  by_cases h : c ≥ 0
  · rw [if_pos h, decide_eq_true (show 0 ≤ c from h), Bool.true_and]
  · rw [if_neg h, decide_eq_false (show ¬ 0 ≤ c from h), Bool.false_and]
theorem cell_k (k : Nat) (hk : 2 ≤ k) (t a b : Int) : lattice_cell.f k t a b = some (cellS t a b) := by
  obtain ⟨k, rfl⟩ : ∃ j, k = j + 2 := ⟨k - 2, by omega⟩
  unfold lattice_cell.f cellS
  rw [isFlat_is, isFlat_is]
  simp only [Option.bind_some]
  by_cases ht : t = 1
  · rw [if_pos ht]
    cases ha : flatB a with
    | false => simp [lattice_cell.j0]
    | true =>
      cases hb : flatB b with
      | false => simp [lattice_cell.j0]
      | true =>
        by_cases he : a = b
        · simp [lattice_cell.j0, lattice_cell.j1, he, ht]
        · by_cases h0 : b = 0
          · simp [lattice_cell.j0, lattice_cell.j1, he, h0, ht]
          · by_cases ha0 : a = 0
            · have : ¬ (0 = b) := fun h => h0 h.symm
              simp [lattice_cell.j0, lattice_cell.j1, h0, ha0, ht, this]
            · simp [lattice_cell.j0, lattice_cell.j1, he, h0, ha0, ht]
  · rw [if_neg ht, if_neg (fun h => ht h.1)]
    simp [lattice_cell.j0]

def joinS (t : Int) (b1 : Bool) (l1 : List Int) (b2 : Bool) (l2 : List Int) : Bool × List Int :=
  if b1 = true then (if b2 = true then (true, List.zipWith (cellS t) l1 l2) else (b1, l1)) else (b2, l2)
theorem wrap_succ {i : Int} (h0 : 0 ≤ i) (h1 : i < 1000000) : wrap64 (i + 1) = i + 1 := by unfold wrap64; omega
theorem clone_is (b : Bool) (l : List Int) (h : l.length ≤ 60) : lattice_clone.f b l = some (b, l) := by
  unfold lattice_clone.f slices_Clone_int_int.f
  rw [if_pos (by omega)]
  rfl
theorem rd_nat (l : List Int) (i : Nat) (h : i < l.length) : rd l (i : Int) = l[i] := by
  simp [rd, List.getD_eq_getElem?_getD, h]
theorem join_l0 (t : Int) (b1 b2 b3 : Bool) (l1 l2 : List Int) (h1 : l1.length ≤ 60) (m : Nat) (hm1 : m ≤ l1.length) (hm2 : m ≤ l2.length) : ∀ (d k i : Nat) (acc : List Int), i + d = m → d + 2 < k → acc.length ≤ i →
    lattice_Join.l0 k t (m : Int) (i : Int) b1 l1 b2 l2 b3 acc = some (b3, acc ++ ((List.zipWith (cellS t) l1 l2).take m).drop i)
  | 0, k, i, acc, hd, hk, ha => by
    obtain ⟨k, rfl⟩ : ∃ j, k = j + 1 := ⟨k - 1, by omega⟩
    simp only [lattice_Join.l0]
    rw [if_neg (by omega), List.drop_eq_nil_of_le (by simp; omega), List.append_nil]
  | d + 1, k, i, acc, hd, hk, ha => by
    obtain ⟨k, rfl⟩ : ∃ j, k = j + 1 := ⟨k - 1, by omega⟩
    simp only [lattice_Join.l0]
    rw [if_pos (by omega), if_pos (by omega), if_pos (by omega), if_pos (by omega), cell_k k (by omega)]
    simp only [Option.bind_some]
    rw [if_pos (by omega), wrap_succ (by omega) (by omega)]
    have := join_l0 t b1 b2 b3 l1 l2 h1 m hm1 hm2 d k (i + 1) (acc ++ [cellS t (rd l1 (i : Int)) (rd l2 (i : Int))]) (by omega) (by omega) (by simp; omega)
    rw [show ((i + 1 : Nat) : Int) = (i : Int) + 1 by omega] at this
    rw [this, rd_nat l1 i (by omega), rd_nat l2 i (by omega), List.append_assoc]
    have hz : i < ((List.zipWith (cellS t) l1 l2).take m).length := by simp; omega
    have : cellS t l1[i] l2[i] = ((List.zipWith (cellS t) l1 l2).take m)[i] := by simp
    rw [this, List.singleton_append, List.getElem_cons_drop]
theorem mn_len (l1 l2 : List Int) : mn (l1.length : Int) (l2.length : Int) = ((min l1.length l2.length : Nat) : Int) := by
  unfold mn
  split <;> omega
theorem join_k (k : Nat) (hk : 64 ≤ k) (t : Int) (b1 b2 : Bool) (l1 l2 : List Int) (h1 : l1.length ≤ 60) (h2 : l2.length ≤ 60) : lattice_Join.f k t b1 l1 b2 l2 = some (joinS t b1 l1 b2 l2) := by
  unfold lattice_Join.f joinS
  cases b1 with
  | false => rw [if_neg (by simp), if_neg (by simp), clone_is b2 l2 h2]; rfl
  | true =>
    rw [if_pos rfl, if_pos rfl]
    cases b2 with
    | false => rw [if_neg (by simp), if_neg (by simp), clone_is true l1 h1]; rfl
    | true =>
      rw [if_pos rfl, if_pos rfl, mn_len]
      have := join_l0 t true true true l1 l2 h1 (min l1.length l2.length) (by omega) (by omega) (min l1.length l2.length) k 0 [] (by omega) (by omega) (by simp)
      rw [show ((0 : Nat) : Int) = 0 from rfl] at this
      rw [this, List.nil_append, List.drop_zero, List.take_of_length_le (by simp)]

def sameS (b1 : Bool) (l1 : List Int) (b2 : Bool) (l2 : List Int) : Bool := (b1 == b2) && decide (l1 = l2)
theorem equal_l0 (l1 l2 : List Int) (h1 : l1.length ≤ 60) (hl : l1.length = l2.length) : ∀ (d k i : Nat), i + d = l1.length → d < k → l1.take i = l2.take i →
    slices_Equal_int_int.l0 k l1 l2 (l1.length : Int) (i : Int) = some (decide (l1 = l2))
  | 0, k, i, hd, hk, ht => by
    obtain ⟨k, rfl⟩ : ∃ j, k = j + 1 := ⟨k - 1, by omega⟩
    simp only [slices_Equal_int_int.l0]
    rw [if_neg (by omega)]
    rw [List.take_of_length_le (by omega), List.take_of_length_le (by omega)] at ht
    rw [decide_eq_true ht]
  | d + 1, k, i, hd, hk, ht => by
    obtain ⟨k, rfl⟩ : ∃ j, k = j + 1 := ⟨k - 1, by omega⟩
    simp only [slices_Equal_int_int.l0]
    rw [if_pos (by omega), if_pos (by omega), if_pos (by omega), if_pos (by omega), wrap_succ (by omega) (by omega), rd_nat l1 i (by omega), rd_nat l2 i (by omega)]
    by_cases he : l1[i] = l2[i]
    · rw [if_pos he]
      have := equal_l0 l1 l2 h1 hl d k (i + 1) (by omega) (by omega) (by
        rw [List.take_succ_eq_append_getElem (by omega), List.take_succ_eq_append_getElem (by omega), ht, he])
      rw [show ((i + 1 : Nat) : Int) = (i : Int) + 1 by omega] at this
      exact this
    · rw [if_neg he, decide_eq_false (fun h => he (by subst h; rfl))]
theorem equal_k (k : Nat) (hk : 64 ≤ k) (l1 l2 : List Int) (h1 : l1.length ≤ 60) : slices_Equal_int_int.f k l1 l2 = some (decide (l1 = l2)) := by
  unfold slices_Equal_int_int.f
  by_cases hl : l1.length = l2.length
  · rw [if_pos (by omega)]
    exact equal_l0 l1 l2 h1 hl l1.length k 0 (by omega) (by omega) (by simp)
  · rw [if_neg (by omega), decide_eq_false (fun h => hl (by rw [h]))]
theorem same_k (k : Nat) (hk : 64 ≤ k) (b1 b2 : Bool) (l1 l2 : List Int) (h1 : l1.length ≤ 60) : lattice_Same.f k b1 l1 b2 l2 = some (sameS b1 l1 b2 l2) := by
  unfold lattice_Same.f sameS
  cases hb : (b1 == b2) with
  | false => rw [if_neg (by simp)]; simp
  | true => rw [if_pos rfl, equal_k k hk l1 l2 h1]; simp
theorem joinS_len (t : Int) (b1 b2 : Bool) (l1 l2 : List Int) (h1 : l1.length ≤ 60) (h2 : l2.length ≤ 60) : (joinS t b1 l1 b2 l2).2.length ≤ 60 := by
  unfold joinS
  split
  · split
    · simp; omega
    · exact h1
  · exact h2
def belowS (t : Int) (b1 : Bool) (l1 : List Int) (b2 : Bool) (l2 : List Int) : Bool := sameS (joinS t b1 l1 b2 l2).1 (joinS t b1 l1 b2 l2).2 b2 l2
theorem below_k (k : Nat) (hk : 64 ≤ k) (t : Int) (b1 b2 : Bool) (l1 l2 : List Int) (h1 : l1.length ≤ 60) (h2 : l2.length ≤ 60) : lattice_Below.f k t b1 l1 b2 l2 = some (belowS t b1 l1 b2 l2) := by
  unfold lattice_Below.f belowS
  rw [join_k k hk t b1 b2 l1 l2 h1 h2]
  simp only [Option.bind_some]
  rw [same_k k hk _ _ _ _ (joinS_len t b1 b2 l1 l2 h1 h2)]
  rfl
theorem good_k (k : Nat) (t n : Int) (b : Bool) (l : List Int) : lattice_Good.f k t n b l = some (goodB t n b l) := rfl
theorem bottom_is (n : Int) : lattice_Bottom.f n = some (false, []) := rfl
end Go.Proofs.Ytikipnbdccbnfaa
