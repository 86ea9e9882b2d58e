/-
  LatticeLeast, LatticeRises: the pure statements.
-/
import Derived.Test.YtikipnbdccbnfaaLq
import Derived.Test.YtikipnbdccbnfaaGL4
import Derived.Test.YtikipnbdccbnfaaGL5
set_option linter.unusedVariables false
set_option linter.unusedSimpArgs false
namespace Go.Proofs.Ytikipnbdccbnfaa
open Go.RowKit Go.Proofs.YtikipnbdccbnfaaW.PrintWords Go.Proofs.YtikipnbdccbnfaaW.PrintLast Go.Proofs.YtikipnbdccbnfaaW.PrintMore Go.Proofs.Ytikipnbdccbnfaa.GL

theorem mx_ge (a b : Int) : a ≤ mx a b ∧ b ≤ mx a b ∧ (mx a b = a ∨ mx a b = b) := by unfold mx; split <;> omega

theorem least_pure (t : Int) (b1 : Bool) (l1 : List Int) (b2 : Bool) (l2 : List Int) (b3 : Bool) (l3 : List Int) : lorgnettelaw20_LatticeLeast.f 100 t b1 l1 b2 l2 b3 l3 = some true := by
  unfold lorgnettelaw20_LatticeLeast.f lorgnettelaw20_awake.f
  simp only [Option.bind_some, if_true]
  obtain ⟨m1, m2, _⟩ := mx_ge (l1.length : Int) (l2.length : Int)
  obtain ⟨m3, m4, _⟩ := mx_ge (mx (l1.length : Int) (l2.length : Int)) (l3.length : Int)
  generalize mx (mx (l1.length : Int) (l2.length : Int)) (l3.length : Int) = n at *
  have hj : lorgnettelaw20_LatticeLeast.j0 100 t n true b1 l1 b2 l2 b3 l3 = some true := by rw [lorgnettelaw20_LatticeLeast.j0, if_pos rfl]
  by_cases hn : n > 60
  · rw [if_pos hn]; exact hj
  · rw [if_neg hn]
    have k1 : l1.length ≤ 60 := by omega
    have k2 : l2.length ≤ 60 := by omega
    have k3 : l3.length ≤ 60 := by omega
    simp only [good_k, Option.bind_some]
    by_cases g1 : goodB t n b1 l1 = true
    · rw [if_pos g1]
      by_cases g2 : goodB t n b2 l2 = true
      · rw [if_pos g2]
        by_cases g3 : goodB t n b3 l3 = true
        · rw [g3]
          rw [Bool.not_true, lorgnettelaw20_LatticeLeast.j0, if_neg (by simp), join_k 99 (by omega) t b1 b2 l1 l2 k1 k2]
          simp only [Option.bind_some]
          have gj := join_good g1 g2
          have kj := joinS_len t b1 b2 l1 l2 k1 k2
          have hb13 := below_k 99 (by omega) t b1 b3 l1 l3 k1 k3
          have hb23 := below_k 99 (by omega) t b2 b3 l2 l3 k2 k3
          have hbj := below_k 99 (by omega) t (joinS t b1 l1 b2 l2).1 b3 (joinS t b1 l1 b2 l2).2 l3 kj k3
          have hl := join_least g1 g2 g3
          rw [hb13, hb23, hbj]
          simp only [Option.bind_some, good_k, gj]
          generalize belowS t b1 l1 b3 l3 = A at *
          generalize belowS t b2 l2 b3 l3 = B at *
          generalize belowS t (joinS t b1 l1 b2 l2).1 (joinS t b1 l1 b2 l2).2 b3 l3 = C at *
          clear hb13 hb23 hbj
          generalize ((joinS t b1 l1 b2 l2).2.length : Int) = m at *
          by_cases h0 : (0 : Int) < m
          · cases A <;> cases B <;> cases C <;> simp [h0] at hl ⊢
          · cases A <;> cases B <;> cases C <;> simp [h0] at hl ⊢
        · rw [Bool.eq_false_iff.2 g3]; exact hj
      · rw [if_neg g2]; exact hj
    · rw [if_neg g1]; exact hj
end Go.Proofs.Ytikipnbdccbnfaa
namespace Go.Proofs.Ytikipnbdccbnfaa
open Go.RowKit Go.Proofs.YtikipnbdccbnfaaW.PrintWords Go.Proofs.YtikipnbdccbnfaaW.PrintLast Go.Proofs.YtikipnbdccbnfaaW.PrintMore Go.Proofs.Ytikipnbdccbnfaa.GL

theorem isTag_is {t : Int} (ht : t = 1 ∨ t = 2) : lattice_isTag.f t = some true := by
  unfold lattice_isTag.f
  rcases ht with rfl | rfl <;> rfl
theorem bounded_is {n : Int} (h0 : 0 ≤ n) (h1 : n ≤ 60) : lattice_bounded.f n = some n := by
  unfold lattice_bounded.f mn mx
  congr 1
  split <;> split <;> omega
theorem height_k (k : Nat) (hk : 1 ≤ k) {t n : Int} (ht : t = 1 ∨ t = 2) (h0 : 0 ≤ n) (h1 : n ≤ 60) : lattice_Height.f k t n = some (if t = 2 then 1 + n else 1 + 2 * n) := by
  obtain ⟨k, rfl⟩ : ∃ j, k = j + 1 := ⟨k - 1, by omega⟩
  unfold lattice_Height.f
  rw [if_neg (by omega), isTag_is ht]
  simp only [Option.bind_some, Bool.not_true, lattice_Height.j0]
  rw [if_neg (by simp), bounded_is h0 h1]
  simp only [Option.bind_some]
  rcases ht with rfl | rfl
  · rw [if_pos rfl, if_neg (by decide)]
    congr 1
    unfold wrap64; omega
  · rw [if_neg (by decide), if_pos rfl]
    congr 1
    unfold wrap64; omega

theorem rises_l2 (t n : Int) (L : List S24) (hn0 : 0 ≤ n) (hn : n ≤ 60) (ht : t = 1 ∨ t = 2) (hg : ∀ j : Nat, j < L.length → goodB t n (rd_T24 L (j : Int)).f0 (rd_T24 L (j : Int)).f1 = true) (hl : L.length ≤ 200) :
    ∀ (d k i : Nat) (x9 : Int) (b : Bool) (l : List Int), i + d = L.length → 2 * d + 70 ≤ k → goodB t n b l = true → 0 ≤ x9 → x9 ≤ rank t b l → lorgnettelaw20_LatticeRises.l2 k t L n x9 (i : Int) b l = some true
  | 0, k, i, x9, b, l, hd, hk, g, h0, h1 => by
    obtain ⟨k, rfl⟩ : ∃ j, k = j + 1 := ⟨k - 1, by omega⟩
    simp only [lorgnettelaw20_LatticeRises.l2]
    rw [if_neg (by omega), height_k k (by omega) ht hn0 hn]
    have := (rank_le g hn0).2
    simp only [Option.bind_some]
    rw [decide_eq_true (by omega)]
  | d + 1, k, i, x9, b, l, hd, hk, g, h0, h1 => by
    obtain ⟨k, rfl⟩ : ∃ j, k = j + 2 := ⟨k - 2, by omega⟩
    have gx := hg i (by omega)
    generalize hbx : (rd_T24 L (i : Int)).f0 = bx at gx
    generalize hlx : (rd_T24 L (i : Int)).f1 = lx at gx
    have gj := join_good g gx
    have kl := good_len g hn
    have kx := good_len gx hn
    have kj := good_len gj hn
    have hrank := rank_rises g gx
    have hrk := rank_le gj hn0
    rw [lorgnettelaw20_LatticeRises.l2]
    rw [if_pos (by omega), if_pos (by omega), hlx, hbx, join_k (k + 1) (by omega) t b bx l lx kl kx]
    have hbl := below_join g gx
    have hsm := same_k k (by omega) b (joinS t b l bx lx).1 l (joinS t b l bx lx).2 kl
    have hbk := below_k (k + 1) (by omega) t b (joinS t b l bx lx).1 l (joinS t b l bx lx).2 kl kj
    simp only [Option.bind_some]
    generalize (joinS t b l bx lx).1 = bj at *
    generalize (joinS t b l bx lx).2 = lj at *
    rw [hbk, hbl]
    simp only [Option.bind_some, if_true, good_k, gj, Bool.not_true]
    rw [lorgnettelaw20_LatticeRises.j4, if_neg (by simp), hsm]
    simp only [Option.bind_some]
    have hr9 : rank t b l ≤ 121 := by
      have := (rank_le g hn0).2
      split at this <;> omega
    rw [wrap_succ (by omega) (by omega), wrap_succ h0 (by omega), show (i : Int) + 1 = ((i + 1 : Nat) : Int) by omega]
    by_cases hs : sameS b l bj lj = true
    · rw [if_pos hs]
      exact rises_l2 t n L hn0 hn ht hg hl d k (i + 1) x9 bj lj (by omega) (by omega) gj h0 (by omega)
    · rw [if_neg hs]
      have := hrank.2 (Bool.eq_false_iff.2 hs)
      exact rises_l2 t n L hn0 hn ht hg hl d k (i + 1) (x9 + 1) bj lj (by omega) (by omega) gj (by omega) (by omega)

theorem rises_l1 (t n : Int) (L : List S24) (hn0 : 0 ≤ n) (hn : n ≤ 60) (hl : L.length ≤ 200) : ∀ (d k i : Nat), i + d = L.length → d + 500 ≤ k → (∀ j : Nat, j < i → goodB t n (rd_T24 L (j : Int)).f0 (rd_T24 L (j : Int)).f1 = true) → 0 < L.length →
    lorgnettelaw20_LatticeRises.l1 k t L n (i : Int) = some true
  | 0, k, i, hd, hk, hg, hp => by
    obtain ⟨k, rfl⟩ : ∃ j, k = j + 1 := ⟨k - 1, by omega⟩
    rw [lorgnettelaw20_LatticeRises.l1, if_neg (by omega), bottom_is]
    simp only [Option.bind_some]
    have ht := (good_cases (hg 0 (by omega))).1
    exact rises_l2 t n L hn0 hn ht (fun j hj => hg j (by omega)) hl L.length k 0 0 false [] (by omega) (by omega) (good_bot ht) (Int.le_refl 0) (by simp [rank])
  | d + 1, k, i, hd, hk, hg, hp => by
    obtain ⟨k, rfl⟩ : ∃ j, k = j + 1 := ⟨k - 1, by omega⟩
    rw [lorgnettelaw20_LatticeRises.l1, if_pos (by omega), if_pos (by omega), good_k]
    simp only [Option.bind_some]
    by_cases g : goodB t n (rd_T24 L (i : Int)).f0 (rd_T24 L (i : Int)).f1 = true
    · rw [if_pos g, wrap_succ (by omega) (by omega), show (i : Int) + 1 = ((i + 1 : Nat) : Int) by omega]
      exact rises_l1 t n L hn0 hn hl d k (i + 1) (by omega) (by omega) (fun j hj => by
        rcases Nat.lt_or_ge j i with h | h
        · exact hg j h
        · obtain rfl : j = i := by omega
          exact g) hp
    · rw [if_neg g]
theorem rises_l0 (t : Int) (L : List S24) (hl : L.length ≤ 200) (hp : 0 < L.length) : ∀ (d k i : Nat) (n : Int), i + d = L.length → d + 800 ≤ k → 0 ≤ n → lorgnettelaw20_LatticeRises.l0 k t L n (i : Int) = some true
  | 0, k, i, n, hd, hk, h0 => by
    obtain ⟨k, rfl⟩ : ∃ j, k = j + 1 := ⟨k - 1, by omega⟩
    rw [lorgnettelaw20_LatticeRises.l0, if_neg (by omega)]
    by_cases hn : n > 60
    · rw [if_pos hn]
    · rw [if_neg hn]
      exact rises_l1 t n L h0 (by omega) hl L.length k 0 (by omega) (by omega) (fun j hj => by omega) hp
  | d + 1, k, i, n, hd, hk, h0 => by
    obtain ⟨k, rfl⟩ : ∃ j, k = j + 1 := ⟨k - 1, by omega⟩
    rw [lorgnettelaw20_LatticeRises.l0, if_pos (by omega), if_pos (by omega), wrap_succ (by omega) (by omega), show (i : Int) + 1 = ((i + 1 : Nat) : Int) by omega]
    exact rises_l0 t L hl hp d k (i + 1) _ (by omega) (by omega) (by have := (mx_ge n (((rd_T24 L (i : Int)).f1).length : Int)).1; omega)
theorem rises_pure (t : Int) (L : List S24) : lorgnettelaw20_LatticeRises.f 2000 t L = some true := by
  unfold lorgnettelaw20_LatticeRises.f lorgnettelaw20_awake.f
  simp only [Option.bind_some, if_true]
  by_cases h1 : (L.length : Int) > 200
  · rw [if_pos h1, lorgnettelaw20_LatticeRises.j0, if_pos rfl]
  · rw [if_neg h1, lorgnettelaw20_LatticeRises.j0]
    by_cases h2 : L.length = 0
    · rw [if_pos (by simp [h2])]
    · rw [if_neg (by simpa using h2)]
      exact rises_l0 t L (by omega) (by omega) L.length 1999 0 0 (by omega) (by omega) (Int.le_refl 0)
end Go.Proofs.Ytikipnbdccbnfaa
