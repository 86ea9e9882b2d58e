/-
  PipeOrder: the walk.
-/
import Derived.Test.YtnmahbpkaocjdaaPipeK
set_option linter.unusedVariables false
namespace Go.Proofs.Ytnmahbpkaocjdaa
open Go.RowKit Go.Proofs.YtnmahbpkaocjdaaW.PrintWords

/-- The kind of a row of values as an element. -/
def pvl : Kd (List PV) := Kd.slice 84 pvk

theorem pvl_cells {w : World} {A : Option Addr} {n : Nat} {L : List (List PV)} (h : pvl.C w A n L) (hn : 0 < n) :
    ∃ b o, A = some ⟨b, o, none⟩ ∧ ∀ k (hk : k < L.length), ∃ A' c', w.cell? ⟨b, o + k, none⟩ = some (.slice A' (L[k]'hk).length c') ∧ pvk.C w A' (L[k]'hk).length (L[k]'hk) := by
  obtain ⟨ad, hA, hc⟩ := h.2.2 hn
  have hl : 0 < L.length := by have := h.1; omega
  obtain ⟨cs, hcl, ⟨A0, c0, rfl, _, _⟩, hcell⟩ := hc 0 _ (List.getElem?_eq_getElem hl)
  have h0 := hcell 0 _ rfl
  have hsp : ad.spot = none := by
    obtain ⟨b, o, s⟩ := ad
    cases s with
    | none => rfl
    | some s => simp [Addr.add, World.cell?] at h0; split at h0 <;> simp at h0
  obtain ⟨b, o, s⟩ := ad
  subst hsp
  refine ⟨b, o, hA, fun k hk => ?_⟩
  obtain ⟨cs, hcl, ⟨A', c', rfl, _, hC⟩, hcell⟩ := hc k _ (List.getElem?_eq_getElem hk)
  have h1 := hcell 0 _ rfl
  rw [add_at] at h1
  exact ⟨A', c', by simpa [pvl, Kd.slice] using h1, hC⟩

theorem pv_none {w : World} {A : Option Addr} {xs : List PV} (h : pvk.C w A xs.length xs) : A = none → xs.length = 0 := fun he => by
  rcases Nat.eq_zero_or_pos xs.length with h0 | h0
  · exact h0
  · obtain ⟨ad, hA, _⟩ := h.2.2 h0
    rw [he] at hA
    cases hA

theorem room_bounds (x : Int) : 0 ≤ wrap64 ((IntKind.u64.wrap x).tmod 100) ∧ wrap64 ((IntKind.u64.wrap x).tmod 100) ≤ 99 := by
  have h1 : 0 ≤ IntKind.u64.wrap x := by
    simp only [IntKind.wrap, IntKind.signed, IntKind.bits]
    simp
    omega
  rw [Int.tmod_eq_emod_of_nonneg h1]
  unfold wrap64
  omega

set_option maxHeartbeats 2000000 in
theorem order_walk (w : World) (A : Option Addr) (c : Nat) (L : List (List PV)) (room : Int) (closed : Bool) (h : pvl.C w A L.length L) :
    Calls Try.prog 3 #[.slice A L.length c, .int .i64 room, .bool closed] w fun e w' => e = .returned (.bool true) ∧ Below w.heap.size w w' := by
  by_cases hl : 60 < L.length
  · have h1 : (60 : Int) < (L.length : Int) := by omega
    go_enter Try.func3, Try.ntmps3
    go_wp2_with (go_at_call 8; refine (awake16 _).mono ?_; rintro e w1 ⟨rfl, hb1⟩)
    go_ret
    exact ⟨rfl, hb1⟩
  · have h1 : ¬ ((60 : Int) < (L.length : Int)) := by omega
    have H := Aside0.mk h
    clear h
    go_enter Try.func3, Try.ntmps3
    go_wp2_with (first | (go_at_call 8; refine (awake16 _).mono ?_; rintro e w1 ⟨rfl, hb1⟩; have HB1 := Aside0.mk hb1; clear hb1) | (go_at_call 9; refine Stand.stop ?_))
    refine Stand.go ?_
    refine (New_rep w _ HB1.out.size).mono ?_
    rintro e w2 ⟨sb, rfl, hp2, hsb, hsb2, hu2⟩
    have HP2 := Aside0.mk hp2
    have HB2 := Aside0.mk (below_then HB1.out HB1.out.size hu2.below)
    have HSB := Aside0.mk (Nat.le_trans HB1.out.size hsb)
    clear hp2 hu2 hsb hsb2
    go_wp2_with (go_at_call 10; refine Stand.stop ?_)
    refine Stand.go ?_
    have hrb := room_bounds room
    obtain ⟨r, hr⟩ : ∃ r, r = wrap64 ((IntKind.u64.wrap room).tmod 100) := ⟨_, rfl⟩
    rw [← hr] at hrb ⊢
    obtain ⟨hr0, hr1⟩ := hrb
    clear hr
    refine (One_make HP2.out HB2.out.size r hr0 (by omega)).mono ?_
    rintro e w3 ⟨rfl, h3, hu3⟩
    have HB3 := Aside0.mk (HB2.out.trans (hu3.belowAt (B := w.heap.size) (fun k hk => by rw [hk]; exact HSB.out) HB2.out.size))
    have H3 := Aside0.mk (One.mono h3 (fp' := fun k => w.heap.size ≤ k) (fun k hk => by have := HB2.out.size; have := HSB.out; omega))
    clear h3 hu3
    go_wp2_with (go_at_call 11; refine (One_room H3.out).mono ?_; rintro e w4 ⟨rfl, rfl⟩)
    have HH3 := Aside0.mk (show L.take (min 0 r.toNat) = [] by simp)
    go_loopg [11] L.length (fun g v w' => ∃ j : Nat, j + g = L.length ∧ v = .int .i64 (j : Int) ∧ Aside0 (One w w' (fun k => w.heap.size ≤ k) sb r (L.take (min j r.toNat)) false) ∧ Aside0 (Below w.heap.size w w') ∧ Aside0 (∀ x ∈ L.take j, greatB x = false))
    case atStart => exact ⟨0, by omega, rfl, ⟨by rw [HH3.out]; exact H3.out⟩, HB3, ⟨by simp⟩⟩
    case round =>
      obtain ⟨j, hj, rfl, hO, hB, hG⟩ := hrel
      clear H3 HB3 HP2 HB2 HB1 HH3
      have hws := hB.out.size
      by_cases hlt : j < L.length
      · obtain ⟨b, o, rfl, hb⟩ := pvl_cells (Kd.C_below H.out hB.out) (by omega)
        obtain ⟨A', c', x0, hC⟩ := hb j hlt
        have e0 : (0 : Int) ≤ (j : Int) := by omega
        have e1 : (j : Int) < (L.length : Int) := by omega
        generalize hx : (L[j]'hlt) = x at x0 hC
        have HX := Aside0.mk hx
        have HC := Aside0.mk hC
        clear hx hb hC
        have hgc := great_calls wr 0 0 0 A' c' x HC.out
        by_cases hg : greatB x = true
        · rw [hg] at hgc
          have HGC := Aside0.mk hgc
          clear hg hgc
          go_wp2_with (go_at_call 12; refine (HGC.out).mono ?_; rintro e w5 ⟨rfl, hb5⟩; have HB5 := Aside0.mk (below_then hB.out hws hb5); clear hb5)
          go_ret
          exact ⟨rfl, HB5.out⟩
        · have hg' : greatB x = false := by simpa using hg
          rw [hg'] at hgc
          have HGC := Aside0.mk hgc
          have HG' := Aside0.mk hg'
          have hxl : x.length ≤ 20 := by
            unfold greatB at hg'
            simp at hg'
            exact hg'.1
          clear hg hg' hgc
          by_cases hjr : (j : Int) < r
          · have hq : (L.take (min j r.toNat)).length = j := by rw [List.length_take]; omega
            have hq2 : L.take (min j r.toNat) ++ [x] = L.take (min (j + 1) r.toNat) := by
              rw [show min j r.toNat = j by omega, show min (j + 1) r.toNat = j + 1 by omega, List.take_succ_eq_append_getElem hlt, HX.out]
            have HQ := Aside0.mk hq
            have HQ2 := Aside0.mk hq2
            clear hq hq2
            go_wp2_with (first | (go_at_call 12; refine (HGC.out).mono ?_; rintro e w5 ⟨rfl, hb5⟩; have HB5 := Aside0.mk hb5; have x1 := cell_later hb5 x0; clear hb5) | (go_at_call 13; refine (One_push (hO.out.below HB5.out) (Nat.le_trans hws HB5.out.size) (by rw [HQ.out]; exact hjr) A' c' x (pv_none HC.out) (Kd.C_below HC.out HB5.out) (by omega)).mono ?_; rintro e w6 ⟨rfl, h6, hu6⟩; have H6 := Aside0.mk h6; have HU6 := Aside0.mk hu6; clear h6 hu6))
            go_roundg (gk - 1)
            case measure => omega
            case rel =>
              have hb6 := below_then hB.out hws HB5.out
              refine ⟨j + 1, by omega, by go_num, ⟨?_⟩, ⟨hb6.trans (HU6.out.belowAt (fun _ hk => hk) hb6.size)⟩, ⟨?_⟩⟩
              · rw [← HQ2.out]
                exact H6.out.mono (fun k hk => by have := HB5.out.size; omega)
              · rw [List.take_succ_eq_append_getElem hlt, HX.out]
                intro y hy
                rcases List.mem_append.1 hy with hy | hy
                · exact hG.out y hy
                · rw [List.mem_singleton.1 hy]; exact HG'.out
          · have hjr' : r ≤ (j : Int) := by omega
            have hq : (L.take (min j r.toNat)).length = r.toNat := by rw [List.length_take]; omega
            have hq2 : L.take (min j r.toNat) = L.take (min (j + 1) r.toNat) := by
              rw [show min j r.toNat = r.toNat by omega, show min (j + 1) r.toNat = r.toNat by omega]
            have HQ := Aside0.mk hq
            have HQ2 := Aside0.mk hq2
            clear hq hq2 hjr
            go_wp2_with (first | (go_at_call 12; refine (HGC.out).mono ?_; rintro e w5 ⟨rfl, hb5⟩; have HB5 := Aside0.mk hb5; have x1 := cell_later hb5 x0; clear hb5) | (go_at_call 13; refine (One_push_full (hO.out.below HB5.out) (by rw [HQ.out]; omega) _).mono ?_; rintro e w6 ⟨rfl, hs6⟩; have HS6 := Aside0.mk hs6; clear hs6))
            go_roundg (gk - 1)
            case measure => omega
            case rel =>
              have hb6 := below_then hB.out hws HB5.out
              refine ⟨j + 1, by omega, by go_num, ⟨?_⟩, ⟨below_then hb6 hb6.size HS6.out.below⟩, ⟨?_⟩⟩
              · rw [← HQ2.out]
                exact (hO.out.below HB5.out).below HS6.out.below
              · rw [List.take_succ_eq_append_getElem hlt, HX.out]
                intro y hy
                rcases List.mem_append.1 hy with hy | hy
                · exact hG.out y hy
                · rw [List.mem_singleton.1 hy]; exact HG'.out
      · obtain rfl : j = L.length := by omega
        have hG2 := hG.out
        rw [List.take_length] at hG2
        have HG2 := Aside0.mk hG2
        clear hG hG2
        by_cases hcl : closed = true
        · go_wp2_with fail
          refine (One_close hO.out).mono ?_
          rintro e w4 ⟨rfl, h4, hu4⟩
          have hO6 := Aside0.mk (One.mono h4 (fp' := fun k => w.heap.size ≤ k) (fun k hk => by omega))
          have hB6 := Aside0.mk (hB.out.trans (hu4.belowAt (fun _ hk => hk) hws))
          clear h4 hu4 hO hB
          go_wp2_with fail
          refine (One_push_closed hO6.out _).mono ?_
          rintro e w5 ⟨rfl, rfl⟩
          go_wp2_with fail
          refine (One_close_twice hO6.out).mono ?_
          rintro e w5 ⟨rfl, rfl⟩
          rw [← hcl] at hO6
          go_wp2_with fail
          have hm0 : min L.length r.toNat ≤ L.length := by omega
          go_loopg [13] (min L.length r.toNat) (fun g v w' => ∃ j : Nat, Aside0 (j + g = min L.length r.toNat) ∧ v = .int .i64 (j : Int) ∧ Aside0 (One w w' (fun k => w.heap.size ≤ k) sb r ((L.take (min L.length r.toNat)).drop j) closed) ∧ Aside0 (Below w.heap.size w w'))
          case atStart => exact ⟨0, ⟨by omega⟩, rfl, hO6, hB6⟩
          case round =>
            obtain ⟨j2, hj2, rfl, hO, hB⟩ := hrel
            clear hO6 hB6
            have hws2 := hB.out.size
            by_cases hlt2 : j2 < min L.length r.toNat
            · have hjl : j2 < L.length := by omega
              have hjr : (j2 : Int) < r := by omega
              obtain ⟨b, o, rfl, hb⟩ := pvl_cells H.out (by omega)
              obtain ⟨A', c', y0, hC⟩ := hb j2 hjl
              have e0 : (0 : Int) ≤ (j2 : Int) := by omega
              have e1 : (j2 : Int) < (L.length : Int) := by omega
              have hd : (L.take (min L.length r.toNat)).drop j2 = (L[j2]'hjl) :: (L.take (min L.length r.toNat)).drop (j2 + 1) := by
                rw [List.drop_eq_getElem_cons (by rw [List.length_take]; omega)]
                simp
              generalize hx : (L[j2]'hjl) = x at y0 hC hd
              have hO' := hO.out
              rw [hd] at hO'
              have HO := Aside0.mk hO'
              have HC := Aside0.mk hC
              have HY0 := Aside0.mk y0
              clear hx hb hC hO hO' hd y0
              go_wp2_with (first | (go_at_call 15; refine (One_pop HO.out).mono ?_; rintro e w6 ⟨A6, c6, rfl, hC6, h6, hu6⟩; have HC6 := Aside0.mk hC6; have H6 := Aside0.mk h6; have HB6 := Aside0.mk (hB.out.trans (hu6.belowAt (fun _ hk => hk) hws2)); have x1 := cell_later HB6.out HY0.out; clear hC6 h6 hu6) | (go_at_call 16; refine (Same_eq _ _ _ _ _ x x rfl HC6.out (Kd.C_below HC.out HB6.out)).mono ?_; rintro e w7 ⟨rfl, hs7⟩; have HS7 := Aside0.mk hs7; clear hs7))
              go_roundg (gk - 1)
              case measure => have := hj2.out; omega
              case rel => exact ⟨j2 + 1, ⟨by have := hj2.out; omega⟩, by go_num, ⟨H6.out.below HS7.out.below⟩, ⟨below_then HB6.out HB6.out.size HS7.out.below⟩⟩
            · have hq : (L.take (min L.length r.toNat)).drop j2 = [] := List.drop_eq_nil_of_le (by rw [List.length_take]; omega)
              have hO' := hO.out
              rw [hq] at hO'
              have HO := Aside0.mk hO'
              clear hO hO' hq
              have hjj : (j2 : Int) = min (L.length : Int) r := by have := hj2.out; omega
              clear hj2
              by_cases hlr : (L.length : Int) ≤ r
              · have e1 : ¬ (j2 : Int) < (L.length : Int) := by omega
                clear hjj
                go_wp2_with (first | (go_at_call 15; refine (One_pop_empty HO.out).mono ?_; rintro e w6 ⟨rfl, rfl⟩) | (go_at_call 17; refine (One_empty HO.out).mono ?_; rintro e w6 ⟨rfl, rfl⟩) | (go_at_call 18; refine (One_isClosed HO.out).mono ?_; rintro e w6 ⟨rfl, rfl⟩))
                go_ret
                exact ⟨by simp, hB.out⟩
              · have e1 : (j2 : Int) < (L.length : Int) := by omega
                have e2 : ¬ (j2 : Int) < r := by omega
                clear hjj
                go_wp2_with (first | (go_at_call 15; refine (One_pop_empty HO.out).mono ?_; rintro e w6 ⟨rfl, rfl⟩) | (go_at_call 17; refine (One_empty HO.out).mono ?_; rintro e w6 ⟨rfl, rfl⟩) | (go_at_call 18; refine (One_isClosed HO.out).mono ?_; rintro e w6 ⟨rfl, rfl⟩))
                go_ret
                exact ⟨by simp, hB.out⟩
        · have hcl' : closed = false := by simpa using hcl
          clear hcl
          have hO6 := hO
          have hB6 := hB
          rw [← hcl'] at hO6
          clear hO hB
          go_wp2_with fail
          have hm0 : min L.length r.toNat ≤ L.length := by omega
          go_loopg [13] (min L.length r.toNat) (fun g v w' => ∃ j : Nat, Aside0 (j + g = min L.length r.toNat) ∧ v = .int .i64 (j : Int) ∧ Aside0 (One w w' (fun k => w.heap.size ≤ k) sb r ((L.take (min L.length r.toNat)).drop j) closed) ∧ Aside0 (Below w.heap.size w w'))
          case atStart => exact ⟨0, ⟨by omega⟩, rfl, hO6, hB6⟩
          case round =>
            obtain ⟨j2, hj2, rfl, hO, hB⟩ := hrel
            clear hO6 hB6
            have hws2 := hB.out.size
            by_cases hlt2 : j2 < min L.length r.toNat
            · have hjl : j2 < L.length := by omega
              have hjr : (j2 : Int) < r := by omega
              obtain ⟨b, o, rfl, hb⟩ := pvl_cells H.out (by omega)
              obtain ⟨A', c', y0, hC⟩ := hb j2 hjl
              have e0 : (0 : Int) ≤ (j2 : Int) := by omega
              have e1 : (j2 : Int) < (L.length : Int) := by omega
              have hd : (L.take (min L.length r.toNat)).drop j2 = (L[j2]'hjl) :: (L.take (min L.length r.toNat)).drop (j2 + 1) := by
                rw [List.drop_eq_getElem_cons (by rw [List.length_take]; omega)]
                simp
              generalize hx : (L[j2]'hjl) = x at y0 hC hd
              have hO' := hO.out
              rw [hd] at hO'
              have HO := Aside0.mk hO'
              have HC := Aside0.mk hC
              have HY0 := Aside0.mk y0
              clear hx hb hC hO hO' hd y0
              go_wp2_with (first | (go_at_call 15; refine (One_pop HO.out).mono ?_; rintro e w6 ⟨A6, c6, rfl, hC6, h6, hu6⟩; have HC6 := Aside0.mk hC6; have H6 := Aside0.mk h6; have HB6 := Aside0.mk (hB.out.trans (hu6.belowAt (fun _ hk => hk) hws2)); have x1 := cell_later HB6.out HY0.out; clear hC6 h6 hu6) | (go_at_call 16; refine (Same_eq _ _ _ _ _ x x rfl HC6.out (Kd.C_below HC.out HB6.out)).mono ?_; rintro e w7 ⟨rfl, hs7⟩; have HS7 := Aside0.mk hs7; clear hs7))
              go_roundg (gk - 1)
              case measure => have := hj2.out; omega
              case rel => exact ⟨j2 + 1, ⟨by have := hj2.out; omega⟩, by go_num, ⟨H6.out.below HS7.out.below⟩, ⟨below_then HB6.out HB6.out.size HS7.out.below⟩⟩
            · have hq : (L.take (min L.length r.toNat)).drop j2 = [] := List.drop_eq_nil_of_le (by rw [List.length_take]; omega)
              have hO' := hO.out
              rw [hq] at hO'
              have HO := Aside0.mk hO'
              clear hO hO' hq
              have hjj : (j2 : Int) = min (L.length : Int) r := by have := hj2.out; omega
              clear hj2
              by_cases hlr : (L.length : Int) ≤ r
              · have e1 : ¬ (j2 : Int) < (L.length : Int) := by omega
                clear hjj
                go_wp2_with (first | (go_at_call 15; refine (One_pop_empty HO.out).mono ?_; rintro e w6 ⟨rfl, rfl⟩) | (go_at_call 17; refine (One_empty HO.out).mono ?_; rintro e w6 ⟨rfl, rfl⟩) | (go_at_call 18; refine (One_isClosed HO.out).mono ?_; rintro e w6 ⟨rfl, rfl⟩))
                go_ret
                exact ⟨by simp, hB.out⟩
              · have e1 : (j2 : Int) < (L.length : Int) := by omega
                have e2 : ¬ (j2 : Int) < r := by omega
                clear hjj
                go_wp2_with (first | (go_at_call 15; refine (One_pop_empty HO.out).mono ?_; rintro e w6 ⟨rfl, rfl⟩) | (go_at_call 17; refine (One_empty HO.out).mono ?_; rintro e w6 ⟨rfl, rfl⟩) | (go_at_call 18; refine (One_isClosed HO.out).mono ?_; rintro e w6 ⟨rfl, rfl⟩))
                go_ret
                exact ⟨by simp, hB.out⟩
end Go.Proofs.Ytnmahbpkaocjdaa
