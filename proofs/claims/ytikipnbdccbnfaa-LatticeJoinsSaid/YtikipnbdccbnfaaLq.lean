/-
  The lattice: joins are joins; what rises comes to an end (plain laws).
-/
import Derived.Test.YtikipnbdccbnfaaLp
set_option linter.unusedVariables false
set_option linter.unusedSimpArgs false
namespace Go.Proofs.Ytikipnbdccbnfaa
open Go.RowKit Go.Proofs.YtikipnbdccbnfaaW.PrintWords Go.Proofs.YtikipnbdccbnfaaW.PrintLast Go.Proofs.YtikipnbdccbnfaaW.PrintMore Go.Proofs.Ytikipnbdccbnfaa.GL

/-- A cell of the tag's. -/
def okC (t c : Int) : Prop := 0 ≤ c ∧ c ≤ if t = 2 then 1 else 3
theorem okC_1 {c : Int} : okC 1 c ↔ c = 0 ∨ c = 1 ∨ c = 2 ∨ c = 3 := by
  unfold okC; rw [if_neg (by decide)]; omega
theorem okC_2 {c : Int} : okC 2 c ↔ c = 0 ∨ c = 1 := by
  unfold okC; rw [if_pos rfl]; omega
theorem good_cases {t n : Int} {b : Bool} {l : List Int} (h : goodB t n b l = true) : (t = 1 ∨ t = 2) ∧ ((b = false ∧ l = []) ∨ (b = true ∧ (l.length : Int) = n ∧ ∀ c ∈ l, okC t c)) := by
  unfold goodB at h
  by_cases ht : t = 1 ∨ t = 2
  · rw [if_pos ht] at h
    refine ⟨ht, ?_⟩
    cases b with
    | false => rw [if_neg (by simp)] at h; exact .inl ⟨rfl, List.eq_nil_of_length_eq_zero (by simpa using h)⟩
    | true =>
      rw [if_pos rfl, Bool.and_eq_true, List.all_eq_true] at h
      refine .inr ⟨rfl, by simpa using h.1, fun c hc => ?_⟩
      have := h.2 c hc
      rw [Bool.and_eq_true] at this
      exact ⟨by simpa using this.1, of_decide_eq_true this.2⟩
  · rw [if_neg ht] at h; cases h
theorem good_mk {t n : Int} {l : List Int} (ht : t = 1 ∨ t = 2) (hn : (l.length : Int) = n) (hc : ∀ c ∈ l, okC t c) : goodB t n true l = true := by
  unfold goodB
  rw [if_pos ht, if_pos rfl, Bool.and_eq_true, List.all_eq_true]
  refine ⟨by simpa using hn, fun c h => ?_⟩
  rw [Bool.and_eq_true]
  exact ⟨by simpa using (hc c h).1, decide_eq_true (hc c h).2⟩
theorem good_bot {t n : Int} (ht : t = 1 ∨ t = 2) : goodB t n false [] = true := by
  unfold goodB
  rw [if_pos ht, if_neg (by simp)]; rfl

theorem cell_facts {t a b c : Int} (ht : t = 1 ∨ t = 2) (ha : okC t a) (hb : okC t b) (hc : okC t c) :
    okC t (cellS t a b) ∧ cellS t a b = cellS t b a ∧ cellS t a a = a ∧ cellS t (cellS t a b) c = cellS t a (cellS t b c) := by
  rcases ht with rfl | rfl
  · rw [okC_1] at ha hb hc
    rw [okC_1]
    rcases ha with rfl | rfl | rfl | rfl <;> rcases hb with rfl | rfl | rfl | rfl <;> rcases hc with rfl | rfl | rfl | rfl <;> decide
  · rw [okC_2] at ha hb hc
    rw [okC_2]
    rcases ha with rfl | rfl <;> rcases hb with rfl | rfl <;> rcases hc with rfl | rfl <;> decide
theorem zip_comm {t : Int} (ht : t = 1 ∨ t = 2) : ∀ (l1 l2 : List Int), (∀ c ∈ l1, okC t c) → (∀ c ∈ l2, okC t c) → List.zipWith (cellS t) l1 l2 = List.zipWith (cellS t) l2 l1
  | [], l2, _, _ => by simp
  | x :: r, [], _, _ => by simp
  | x :: r, y :: s, h1, h2 => by
    rw [List.zipWith_cons_cons, List.zipWith_cons_cons, (cell_facts ht (h1 x (by simp)) (h2 y (by simp)) (h2 y (by simp))).2.1, zip_comm ht r s (fun c hc => h1 c (by simp [hc])) (fun c hc => h2 c (by simp [hc]))]
theorem zip_idem {t : Int} (ht : t = 1 ∨ t = 2) : ∀ (l : List Int), (∀ c ∈ l, okC t c) → List.zipWith (cellS t) l l = l
  | [], _ => by simp
  | x :: r, h => by
    have hx := h x (by simp)
    rw [List.zipWith_cons_cons, (cell_facts ht hx hx hx).2.2.1, zip_idem ht r (fun c hc => h c (by simp [hc]))]
theorem zip_assoc {t : Int} (ht : t = 1 ∨ t = 2) : ∀ (l1 l2 l3 : List Int), (∀ c ∈ l1, okC t c) → (∀ c ∈ l2, okC t c) → (∀ c ∈ l3, okC t c) → List.zipWith (cellS t) (List.zipWith (cellS t) l1 l2) l3 = List.zipWith (cellS t) l1 (List.zipWith (cellS t) l2 l3)
  | [], l2, l3, _, _, _ => by simp
  | x :: r, [], l3, _, _, _ => by simp
  | x :: r, y :: s, [], _, _, _ => by simp
  | x :: r, y :: s, z :: q, h1, h2, h3 => by
    simp only [List.zipWith_cons_cons]
    rw [(cell_facts ht (h1 x (by simp)) (h2 y (by simp)) (h3 z (by simp))).2.2.2, zip_assoc ht r s q (fun c hc => h1 c (by simp [hc])) (fun c hc => h2 c (by simp [hc])) (fun c hc => h3 c (by simp [hc]))]
theorem zip_ok {t : Int} (ht : t = 1 ∨ t = 2) : ∀ (l1 l2 : List Int), (∀ c ∈ l1, okC t c) → (∀ c ∈ l2, okC t c) → ∀ c ∈ List.zipWith (cellS t) l1 l2, okC t c
  | [], l2, _, _ => by simp
  | x :: r, [], _, _ => by simp
  | x :: r, y :: s, h1, h2 => by
    intro c hc
    rw [List.zipWith_cons_cons, List.mem_cons] at hc
    rcases hc with rfl | hc
    · exact (cell_facts ht (h1 x (by simp)) (h2 y (by simp)) (h2 y (by simp))).1
    · exact zip_ok ht r s (fun c hc => h1 c (by simp [hc])) (fun c hc => h2 c (by simp [hc])) c hc

section
variable {t n : Int} {b1 b2 b3 : Bool} {l1 l2 l3 : List Int}
theorem join_good (h1 : goodB t n b1 l1 = true) (h2 : goodB t n b2 l2 = true) : goodB t n (joinS t b1 l1 b2 l2).1 (joinS t b1 l1 b2 l2).2 = true := by
  obtain ⟨ht, c1⟩ := good_cases h1
  obtain ⟨_, c2⟩ := good_cases h2
  unfold joinS
  rcases c1 with ⟨rfl, rfl⟩ | ⟨rfl, hn1, hc1⟩
  · rw [if_neg (by simp)]; exact h2
  · rw [if_pos rfl]
    rcases c2 with ⟨rfl, rfl⟩ | ⟨rfl, hn2, hc2⟩
    · rw [if_neg (by simp)]; exact h1
    · rw [if_pos rfl]
      exact good_mk ht (by rw [List.length_zipWith]; omega) (zip_ok ht l1 l2 hc1 hc2)
theorem join_comm (h1 : goodB t n b1 l1 = true) (h2 : goodB t n b2 l2 = true) : joinS t b1 l1 b2 l2 = joinS t b2 l2 b1 l1 := by
  obtain ⟨ht, c1⟩ := good_cases h1
  obtain ⟨_, c2⟩ := good_cases h2
  unfold joinS
  rcases c1 with ⟨rfl, rfl⟩ | ⟨rfl, hn1, hc1⟩ <;> rcases c2 with ⟨rfl, rfl⟩ | ⟨rfl, hn2, hc2⟩
  · rfl
  · simp
  · simp
  · simp [zip_comm ht l1 l2 hc1 hc2]
theorem join_idem (h1 : goodB t n b1 l1 = true) : joinS t b1 l1 b1 l1 = (b1, l1) := by
  obtain ⟨ht, c1⟩ := good_cases h1
  unfold joinS
  rcases c1 with ⟨rfl, rfl⟩ | ⟨rfl, hn1, hc1⟩
  · rfl
  · rw [if_pos rfl, if_pos rfl, zip_idem ht l1 hc1]
theorem join_assoc (h1 : goodB t n b1 l1 = true) (h2 : goodB t n b2 l2 = true) (h3 : goodB t n b3 l3 = true) :
    joinS t (joinS t b1 l1 b2 l2).1 (joinS t b1 l1 b2 l2).2 b3 l3 = joinS t b1 l1 (joinS t b2 l2 b3 l3).1 (joinS t b2 l2 b3 l3).2 := by
  obtain ⟨ht, c1⟩ := good_cases h1
  obtain ⟨_, c2⟩ := good_cases h2
  obtain ⟨_, c3⟩ := good_cases h3
  unfold joinS
  rcases c1 with ⟨rfl, rfl⟩ | ⟨rfl, hn1, hc1⟩ <;> rcases c2 with ⟨rfl, rfl⟩ | ⟨rfl, hn2, hc2⟩ <;> rcases c3 with ⟨rfl, rfl⟩ | ⟨rfl, hn3, hc3⟩ <;> simp
  exact zip_assoc ht l1 l2 l3 hc1 hc2 hc3
theorem same_iff : sameS b1 l1 b2 l2 = true ↔ b1 = b2 ∧ l1 = l2 := by unfold sameS; simp
theorem below_iff : belowS t b1 l1 b2 l2 = true ↔ joinS t b1 l1 b2 l2 = (b2, l2) := by
  unfold belowS
  rw [same_iff]
  constructor
  · rintro ⟨h1, h2⟩; exact Prod.ext h1 h2
  · intro h; rw [h]; exact ⟨rfl, rfl⟩
/-- What is joined is the least. -/
theorem join_least (h1 : goodB t n b1 l1 = true) (h2 : goodB t n b2 l2 = true) (h3 : goodB t n b3 l3 = true) (ha : belowS t b1 l1 b3 l3 = true) (hb : belowS t b2 l2 b3 l3 = true) : belowS t (joinS t b1 l1 b2 l2).1 (joinS t b1 l1 b2 l2).2 b3 l3 = true := by
  rw [below_iff] at ha hb ⊢
  rw [join_assoc h1 h2 h3, hb]
  exact ha
theorem below_join (h1 : goodB t n b1 l1 = true) (h2 : goodB t n b2 l2 = true) : belowS t b1 l1 (joinS t b1 l1 b2 l2).1 (joinS t b1 l1 b2 l2).2 = true := by
  rw [below_iff, ← join_assoc h1 h1 h2, join_idem h1]
theorem below_join2 (h1 : goodB t n b1 l1 = true) (h2 : goodB t n b2 l2 = true) : belowS t b2 l2 (joinS t b1 l1 b2 l2).1 (joinS t b1 l1 b2 l2).2 = true := by
  rw [join_comm h1 h2]; exact below_join h2 h1
theorem below_anti (h1 : goodB t n b1 l1 = true) (h2 : goodB t n b2 l2 = true) (ha : belowS t b1 l1 b2 l2 = true) (hb : belowS t b2 l2 b1 l1 = true) : sameS b1 l1 b2 l2 = true := by
  rw [below_iff] at ha hb
  rw [join_comm h2 h1, ha] at hb
  rw [same_iff]
  injection hb with e1 e2
  exact ⟨e1.symm, e2.symm⟩
theorem below_trans (h1 : goodB t n b1 l1 = true) (h2 : goodB t n b2 l2 = true) (h3 : goodB t n b3 l3 = true) (ha : belowS t b1 l1 b2 l2 = true) (hb : belowS t b2 l2 b3 l3 = true) : belowS t b1 l1 b3 l3 = true := by
  rw [below_iff] at ha hb ⊢
  have := join_assoc h1 h2 h3
  rw [ha, hb] at this
  exact this.symm
theorem good_len (h1 : goodB t n b1 l1 = true) (hn : n ≤ 60) : l1.length ≤ 60 := by
  obtain ⟨_, c1⟩ := good_cases h1
  rcases c1 with ⟨rfl, rfl⟩ | ⟨rfl, hn1, _⟩
  · simp
  · omega

/-- How high a fact stands. -/
def rankC (t c : Int) : Int := if t = 2 then c else if c = 0 then 0 else if c = 3 then 2 else 1
def rankL (t : Int) (l : List Int) : Int := (l.map (rankC t)).sum
def rank (t : Int) (b : Bool) (l : List Int) : Int := if b = true then 1 + rankL t l else 0
theorem rankC_facts {t a b : Int} (ht : t = 1 ∨ t = 2) (ha : okC t a) (hb : okC t b) : rankC t a ≤ rankC t (cellS t a b) ∧ (cellS t a b ≠ a → rankC t a + 1 ≤ rankC t (cellS t a b)) ∧ 0 ≤ rankC t a ∧ rankC t a ≤ if t = 2 then 1 else 2 := by
  rcases ht with rfl | rfl
  · rw [okC_1] at ha hb
    rcases ha with rfl | rfl | rfl | rfl <;> rcases hb with rfl | rfl | rfl | rfl <;> decide
  · rw [okC_2] at ha hb
    rcases ha with rfl | rfl <;> rcases hb with rfl | rfl <;> decide
theorem rankL_rises {t : Int} (ht : t = 1 ∨ t = 2) : ∀ (l1 l2 : List Int), l1.length = l2.length → (∀ c ∈ l1, okC t c) → (∀ c ∈ l2, okC t c) → rankL t l1 ≤ rankL t (List.zipWith (cellS t) l1 l2) ∧ (List.zipWith (cellS t) l1 l2 ≠ l1 → rankL t l1 + 1 ≤ rankL t (List.zipWith (cellS t) l1 l2))
  | [], [], _, _, _ => by simp [rankL]
  | x :: r, y :: s, hl, h1, h2 => by
    obtain ⟨i1, i2⟩ := rankL_rises ht r s (by simpa using hl) (fun c hc => h1 c (by simp [hc])) (fun c hc => h2 c (by simp [hc]))
    obtain ⟨j1, j2, _, _⟩ := rankC_facts ht (h1 x (by simp)) (h2 y (by simp))
    unfold rankL at i1 i2 ⊢
    rw [List.zipWith_cons_cons, List.map_cons, List.map_cons, List.sum_cons, List.sum_cons]
    refine ⟨by omega, fun hne => ?_⟩
    by_cases hx : cellS t x y = x
    · have : List.zipWith (cellS t) r s ≠ r := fun h => hne (by rw [hx, h])
      have := i2 this
      omega
    · have := j2 hx
      omega
theorem rankL_le {t : Int} (ht : t = 1 ∨ t = 2) : ∀ (l : List Int), (∀ c ∈ l, okC t c) → 0 ≤ rankL t l ∧ rankL t l ≤ (l.length : Int) * (if t = 2 then 1 else 2)
  | [], _ => by simp [rankL]
  | x :: r, h => by
    obtain ⟨i1, i2⟩ := rankL_le ht r (fun c hc => h c (by simp [hc]))
    obtain ⟨_, _, j3, j4⟩ := rankC_facts ht (h x (by simp)) (h x (by simp))
    unfold rankL at i1 i2 ⊢
    rw [List.map_cons, List.sum_cons, List.length_cons]
    generalize (if t = 2 then (1 : Int) else 2) = q at *
    rw [Int.natCast_succ, Int.add_mul, Int.one_mul]
    omega
theorem rank_rises (h1 : goodB t n b1 l1 = true) (h2 : goodB t n b2 l2 = true) : rank t b1 l1 ≤ rank t (joinS t b1 l1 b2 l2).1 (joinS t b1 l1 b2 l2).2 ∧ (sameS b1 l1 (joinS t b1 l1 b2 l2).1 (joinS t b1 l1 b2 l2).2 = false → rank t b1 l1 + 1 ≤ rank t (joinS t b1 l1 b2 l2).1 (joinS t b1 l1 b2 l2).2) := by
  obtain ⟨ht, c1⟩ := good_cases h1
  obtain ⟨_, c2⟩ := good_cases h2
  unfold joinS rank
  rcases c1 with ⟨rfl, rfl⟩ | ⟨rfl, hn1, hc1⟩ <;> rcases c2 with ⟨rfl, rfl⟩ | ⟨rfl, hn2, hc2⟩
  · simp [sameS]
  · have := (rankL_le ht l2 hc2).1
    simp [sameS]; omega
  · simp [sameS]
  · have hr := rankL_rises ht l1 l2 (by omega) hc1 hc2
    simp only [if_true, sameS]
    refine ⟨by omega, fun h => ?_⟩
    have : List.zipWith (cellS t) l1 l2 ≠ l1 := fun he => by rw [he] at h; simp at h
    have := hr.2 this
    omega
theorem rank_le (h1 : goodB t n b1 l1 = true) (hn : 0 ≤ n) : 0 ≤ rank t b1 l1 ∧ rank t b1 l1 ≤ if t = 2 then 1 + n else 1 + 2 * n := by
  obtain ⟨ht, c1⟩ := good_cases h1
  unfold rank
  rcases c1 with ⟨rfl, rfl⟩ | ⟨rfl, hn1, hc1⟩
  · simp; split <;> omega
  · have := rankL_le ht l1 hc1
    simp only [if_true]
    rcases ht with rfl | rfl
    · simp at this ⊢; omega
    · simp at this ⊢; omega
end
end Go.Proofs.Ytikipnbdccbnfaa
