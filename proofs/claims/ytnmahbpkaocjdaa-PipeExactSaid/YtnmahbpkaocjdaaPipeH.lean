/-
  Rows of values compared (Same), and what is more than is asked (great).
-/
import Derived.Test.YtnmahbpkaocjdaaPipeG
import Derived.Laws.StructEq
import Derived.Test.YtnmahbpkaocjdaaWEqStruct
set_option linter.unusedVariables false
namespace Go.Proofs.Ytnmahbpkaocjdaa
open Go.RowKit Go.Proofs.YtnmahbpkaocjdaaW.PrintWords

/-- The cells of a row of values that is read. -/
theorem pv_cells {w : World} {A : Option Addr} {n : Nat} {xs : List PV} (h : pvk.C w A n xs) (hn : 0 < n) :
    ∃ b o, A = some ⟨b, o, none⟩ ∧ ∀ k (hk : k < xs.length), w.cell? ⟨b, o + k * 5, none⟩ = some (.int .i64 (xs[k]'hk).k) ∧ w.cell? ⟨b, o + k * 5 + 1, none⟩ = some (.int .i64 (xs[k]'hk).n) ∧
      w.cell? ⟨b, o + k * 5 + 2, none⟩ = some (.int .i64 (xs[k]'hk).m) ∧ w.cell? ⟨b, o + k * 5 + 3, none⟩ = some (.int .i64 (xs[k]'hk).c) ∧ w.cell? ⟨b, o + k * 5 + 4, none⟩ = some (.string (xs[k]'hk).s) := by
  obtain ⟨ad, hA, hc⟩ := h.2.2 hn
  have hl : 0 < xs.length := by have := h.1; omega
  obtain ⟨cs, hcl, hcs, hcell⟩ := hc 0 _ (List.getElem?_eq_getElem hl)
  have h0 := hcell 0 (.int .i64 (xs[0]'hl).k) (by rw [hcs]; rfl)
  have hsp : ad.spot = none := by
    obtain ⟨b, o, s⟩ := ad
    cases s with
    | none => rfl
    | some s => simp [Addr.add, World.cell?] at h0; split at h0 <;> simp at h0
  obtain ⟨b, o, s⟩ := ad
  subst hsp
  refine ⟨b, o, hA, fun k hk => ?_⟩
  obtain ⟨cs, hcl, hcs, hcell⟩ := hc k _ (List.getElem?_eq_getElem hk)
  subst hcs
  have g : ∀ j u, (PV.enc (xs[k]'hk))[j]? = some u → w.cell? ⟨b, o + k * 5 + j, none⟩ = some u := fun j u hu => by
    have := hcell j u hu
    rw [add_at] at this
    rw [Nat.add_assoc]
    exact this
  exact ⟨g 0 _ rfl, g 1 _ rfl, g 2 _ rfl, g 3 _ rfl, g 4 _ rfl⟩

theorem pv_ext (x y : PV) : (x = y) ↔ (x.k = y.k ∧ x.n = y.n ∧ x.m = y.m ∧ x.c = y.c ∧ x.s = y.s) := by
  constructor
  · rintro rfl
    exact ⟨rfl, rfl, rfl, rfl, rfl⟩
  · obtain ⟨a, b, c, d, e⟩ := x
    obtain ⟨a', b', c', d', e'⟩ := y
    rintro ⟨h1, h2, h3, h4, h5⟩
    simp only at h1 h2 h3 h4 h5
    subst h1; subst h2; subst h3; subst h4; subst h5
    rfl

theorem eq84 (d : Nat) (w : World) (x y : PV) : (Op.equalIn (d + 2) 84 (.agg #[.int .i64 x.k, .int .i64 x.n, .int .i64 x.m, .int .i64 x.c, .string x.s]) (.agg #[.int .i64 y.k, .int .i64 y.n, .int .i64 y.m, .int .i64 y.c, .string y.s])).run Try.prog w = .ok (x.k == y.k && (x.n == y.n && (x.m == y.m && (x.c == y.c && (x.s.toList == y.s.toList))))) w := by
  refine eqA_of Try.underlying84 (by kernel_rfl) ?_
  refine eqf_cons (by rfl) (by go_simp; rfl) (by go_simp; rfl) (by go_simp) ?_
  refine eqf_cons (by rfl) (by go_simp; rfl) (by go_simp; rfl) (by go_simp) ?_
  refine eqf_cons (by rfl) (by go_simp; rfl) (by go_simp; rfl) (by go_simp) ?_
  refine eqf_cons (by rfl) (by go_simp; rfl) (by go_simp; rfl) (by go_simp) ?_
  exact eqf_last (by rfl) (by go_simp; rfl) (by go_simp; rfl) (by go_simp)
theorem pv_beq (x y : PV) : (x.k == y.k && (x.n == y.n && (x.m == y.m && (x.c == y.c && (x.s.toList == y.s.toList))))) = decide (x = y) := by
  have hs : (x.s.toList == y.s.toList) = decide (x.s = y.s) := by
    rw [Bool.eq_iff_iff, decide_eq_true_iff, beq_iff_eq, ByteArray.toList_eq, ByteArray.toList_eq]
    constructor
    · intro h
      have h2 : x.s.data = y.s.data := Array.toList_inj.1 h
      cases hx : x.s
      cases hy : y.s
      rw [hx, hy] at h2
      simp only at h2
      rw [h2]
    · intro h
      rw [h]
  rw [hs, Bool.eq_iff_iff, decide_eq_true_iff, pv_ext]
  simp [Bool.and_eq_true]
theorem neq84 (w : World) (x y : PV) : (binOp .neq 84 (.agg #[.int .i64 x.k, .int .i64 x.n, .int .i64 x.m, .int .i64 x.c, .string x.s]) (.agg #[.int .i64 y.k, .int .i64 y.n, .int .i64 y.m, .int .i64 y.c, .string y.s])).run Try.prog w = .ok (.bool (!decide (x = y))) w := by
  rw [run_neq_struct, eq84 9998, pv_beq]
  rfl
theorem guard84 (w : World) (a b : Operand) (xs ys : Array Value) : (eqGuard .neq 84 a b (.agg xs) (.agg ys)).run Try.prog w = .ok () w := run_eqGuard_agg w .neq 84 a b xs ys (by kernel_rfl)

theorem Same_len (w : World) (A B : Option Addr) (n m c d : Nat) (h : n ≠ m) :
    Calls Try.prog 16 #[.slice A n c, .slice B m d] w fun e w' => e = .returned (.bool false) ∧ Same w w' := by
  have h1 : ((n : Int) != (m : Int)) = true := by rw [bne_iff_ne]; omega
  go_enter Try.func16, Try.ntmps16
  go_wp2
  go_ret
  exact ⟨rfl, Same.refl _⟩

set_option maxHeartbeats 1000000 in
theorem Same_eq (w : World) (A B : Option Addr) (c d : Nat) (xs ys : List PV) (hl : ys.length = xs.length) (h1 : pvk.C w A xs.length xs) (h2 : pvk.C w B xs.length ys) :
    Calls Try.prog 16 #[.slice A xs.length c, .slice B xs.length d] w fun e w' => e = .returned (.bool (decide (xs = ys))) ∧ Same w w' := by
  have hm := h1.2.1
  have H1 := Aside0.mk h1
  have H2 := Aside0.mk h2
  have HL := Aside0.mk hl
  clear h1 h2 hl
  go_enter Try.func16, Try.ntmps16
  go_wp2
  go_loopg [5] xs.length (fun g v w' => ∃ k : Nat, k + g = xs.length ∧ v = .int .i64 (k : Int) ∧ Aside0 (xs.take k = ys.take k) ∧ Aside0 (Same w w'))
  case atStart => exact ⟨0, by omega, rfl, ⟨rfl⟩, ⟨Same.refl _⟩⟩
  case round =>
    obtain ⟨k, hk, rfl, hT, hS⟩ := hrel
    by_cases hlt : k < xs.length
    · obtain ⟨b, o, rfl, hb⟩ := pv_cells (Kd.C_below H1.out hS.out.below) (by omega)
      obtain ⟨b', o', rfl, hb'⟩ := pv_cells (Kd.C_below H2.out hS.out.below) (by omega)
      obtain ⟨x0, x1, x2, x3, x4⟩ := hb k hlt
      have hlt' : k < ys.length := by have := HL.out; omega
      obtain ⟨y0, y1, y2, y3, y4⟩ := hb' k hlt'
      clear hb hb'
      have e0 : (0 : Int) ≤ (k : Int) := by omega
      have e1 : (k : Int) < (xs.length : Int) := by omega
      generalize hx : (xs[k]'hlt) = x at x0 x1 x2 x3 x4
      generalize hy : (ys[k]'hlt') = y at y0 y1 y2 y3 y4
      have q1 := fun w => neq84 w x y
      have q2 := guard84
      have HX := Aside0.mk hx
      have HY := Aside0.mk hy
      clear hx hy
      go_wp2_with fail
      go_quiet (fail)
      go_wp2
      · have hne : x ≠ y := by simpa using (show (!decide (x = y)) = true by assumption)
        have hfin : decide (xs = ys) = false := decide_eq_false (fun he => hne (by
          have h1 := HX.out
          have h2 := HY.out
          subst he
          rw [← h1, ← h2]))
        go_ret
        exact ⟨by rw [hfin]; rfl, hS.out.trans (Same.drewN _ _)⟩
      · have heq : x = y := by simpa using (show (!decide (x = y)) = false by assumption)
        go_roundg (gk - 1)
        case measure => omega
        case rel =>
          refine ⟨k + 1, by omega, by go_num, ⟨?_⟩, ⟨hS.out.trans (Same.drewN _ _)⟩⟩
          rw [List.take_succ_eq_append_getElem hlt, List.take_succ_eq_append_getElem hlt', hT.out, HX.out, HY.out, heq]
    · obtain rfl : k = xs.length := by omega
      have hfin : decide (xs = ys) = true := decide_eq_true (by
        have h1 := hT.out
        rw [List.take_length] at h1
        rw [h1, ← HL.out, List.take_length])
      have HF := Aside0.mk hfin
      clear hfin
      go_wp2
      go_ret
      exact ⟨by rw [HF.out]; rfl, hS.out⟩
end Go.Proofs.Ytnmahbpkaocjdaa
