/-
  Scopes: the document's Start. (The walk is printed by wip/tools/mkR07.py.)
-/
import Derived.Test.YtnmahbpkaocjdaaScopeQ
set_option linter.unusedVariables false
namespace Go.Proofs.Ytnmahbpkaocjdaa
open Go.RowKit Go.Proofs.YtnmahbpkaocjdaaW.PrintWords

theorem stk_ok (k : Nat) (hk : k < 18) : (stk k).fits 1 (builtL.getD k Ob.zero) ∧ (builtL.getD k Ob.zero).name.size ≤ maxLen ∧ (stk k).here 1 (builtL.getD k Ob.zero).name = 0 ∧ (stk k).objs.length < 1000 := by
  have hall := List.all_eq_true.1 stk_free k (List.mem_range.2 hk)
  simp only [Bool.and_eq_true, decide_eq_true_eq] at hall
  obtain ⟨⟨⟨⟨⟨a1, a2⟩, a3⟩, a4⟩, a5⟩, a6⟩ := hall
  exact ⟨⟨a2, a3, a4⟩, a5, a1, a6⟩

theorem u_put_step {w0 wk : World} {F : Nat → Prop} {ub : Nat} (k : Nat) (hk : k < 18) (h : USc w0 wk F ub (stk k)) (h0 : w0.heap.size ≤ wk.heap.size) (hF : ∀ j, wk.heap.size ≤ j → F j) (o : Ob) (ho : builtL.getD k Ob.zero = o) :
    Calls Try.prog 42 #[.pointer (some ⟨ub, 0, none⟩), .int .i64 1, o.val] wk fun e w' => e = .returned (.tuple #[.int .i64 ((stk k).objs.length : Int), .int .i64 0]) ∧ Upd F wk w' ∧ USc w0 w' F ub (stk (k + 1)) := by
  subst ho
  obtain ⟨a1, a2, a3, a4⟩ := stk_ok k hk
  refine (u_put_ok h h0 1 _ a1 a2 a3 a4).mono ?_
  rintro e w' ⟨rfl, hu, hs⟩
  refine ⟨rfl, hu, ?_⟩
  rw [stk_succ k hk]
  exact hs.mono (fun j _ _ hj => hj.elim id (hF j))

theorem R_oneI (w : World) (base : Nat) (hb : base ≤ w.heap.size) (ok : Nat → Prop) (hok : ok w.heap.size) : intk.R 3 (w.alloc (.cells #[.int .i64 0] 3)) base ok (.slice (some ⟨w.heap.size, 0, none⟩) 1 1) [0] := by
  refine ⟨fun k hk => ?_, [.int .i64 0], ?_, ?_⟩
  · have : w.heap.size = k := by simpa [Value.ownBlock] using hk
    subst this
    exact hok
  · exact World.ownsRow_lit (base := base) (e := 3) (size := intk.sz) w #[.int .i64 0] 1 hb (by simp [maxLen]) rfl
  · exact Reps.snoc (cs := []) (ps := []) (Reps.none _ _) rfl rfl

theorem u_start_rep (w : World) : USc w ((((w.alloc (.cells #[.int .i64 0, .int .i64 0] 3)).alloc (.cells #[.int .i64 0] 3)).alloc (.cells #[.int .i64 0, .string ByteArray.empty, .int .i64 0, .int .i64 0, .int .i64 0, .int .i64 0, .int .u64 0, .int .u64 0, .bool false, .string ByteArray.empty, .int .i64 0, .int .i64 0, .int .i64 0] 70)).alloc (.cells #[.slice (some ⟨w.heap.size, 0, none⟩) 2 2, .slice (some ⟨w.heap.size + 1, 0, none⟩) 1 1, .slice (some ⟨w.heap.size + 1 + 1, 0, none⟩) 1 1] 58)) (fun k => w.heap.size ≤ k ∧ k < w.heap.size + 4) (w.heap.size + 1 + 1 + 1) st0 := by
  have h1 : (w.alloc (.cells #[.int .i64 0, .int .i64 0] 3)).heap.size = w.heap.size + 1 := World.size_alloc _ _
  have r1 := R_two w w.heap.size (Nat.le_refl _) (fun k => k = w.heap.size) rfl
  generalize w.alloc (.cells #[.int .i64 0, .int .i64 0] 3) = wa at h1 r1 ⊢
  have h2 : (wa.alloc (.cells #[.int .i64 0] 3)).heap.size = w.heap.size + 2 := by rw [World.size_alloc, h1]
  have r2 := R_oneI wa w.heap.size (by omega) (fun k => k = w.heap.size + 1) h1
  rw [h1] at r2
  have r1b := Kd.R_alloc r1 (.cells #[.int .i64 0] 3)
  generalize wa.alloc (.cells #[.int .i64 0] 3) = wb at h2 r2 r1b ⊢
  have h3 : (wb.alloc (.cells #[.int .i64 0, .string ByteArray.empty, .int .i64 0, .int .i64 0, .int .i64 0, .int .i64 0, .int .u64 0, .int .u64 0, .bool false, .string ByteArray.empty, .int .i64 0, .int .i64 0, .int .i64 0] 70)).heap.size = w.heap.size + 3 := by rw [World.size_alloc, h2]
  have r3 := R_one wb w.heap.size (by omega) (fun k => k = w.heap.size + 2) h2
  rw [h2] at r3
  have r1c := Kd.R_alloc r1b (.cells #[.int .i64 0, .string ByteArray.empty, .int .i64 0, .int .i64 0, .int .i64 0, .int .i64 0, .int .u64 0, .int .u64 0, .bool false, .string ByteArray.empty, .int .i64 0, .int .i64 0, .int .i64 0] 70)
  have r2c := Kd.R_alloc r2 (.cells #[.int .i64 0, .string ByteArray.empty, .int .i64 0, .int .i64 0, .int .i64 0, .int .i64 0, .int .u64 0, .int .u64 0, .bool false, .string ByteArray.empty, .int .i64 0, .int .i64 0, .int .i64 0] 70)
  generalize wb.alloc (.cells #[.int .i64 0, .string ByteArray.empty, .int .i64 0, .int .i64 0, .int .i64 0, .int .i64 0, .int .u64 0, .int .u64 0, .bool false, .string ByteArray.empty, .int .i64 0, .int .i64 0, .int .i64 0] 70) = wc at h3 r3 r1c r2c ⊢
  refine ⟨st0_good, fun k => if k = w.heap.size then 2 else if k = w.heap.size + 1 then 3 else if k = w.heap.size + 2 then 4 else if k = w.heap.size + 3 then 1 else 0, ⟨?_, ⟨_, _, _, ?_, Kd.R_mono (Kd.R_alloc r1c _) (fun k hk => ?_), Kd.R_mono (Kd.R_alloc r2c _) (fun k hk => ?_), Kd.R_mono (Kd.R_alloc r3 _) (fun k hk => ?_)⟩, fun k hk => ?_⟩, fun k hk => ?_⟩
  · show (if w.heap.size + 1 + 1 + 1 = w.heap.size then 2 else if w.heap.size + 1 + 1 + 1 = w.heap.size + 1 then 3 else if w.heap.size + 1 + 1 + 1 = w.heap.size + 2 then 4 else if w.heap.size + 1 + 1 + 1 = w.heap.size + 3 then 1 else 0) = 1
    rw [if_neg (by omega), if_neg (by omega), if_neg (by omega), if_pos rfl]
  · rw [show w.heap.size + 1 + 1 + 1 = wc.heap.size by omega]
    exact heap_alloc_new wc _
  · have hk' : k = w.heap.size := hk
    show (if k = w.heap.size then 2 else if k = w.heap.size + 1 then 3 else if k = w.heap.size + 2 then 4 else if k = w.heap.size + 3 then 1 else 0) = 2
    rw [if_pos hk']
  · have hk' : k = w.heap.size + 1 := hk
    show (if k = w.heap.size then 2 else if k = w.heap.size + 1 then 3 else if k = w.heap.size + 2 then 4 else if k = w.heap.size + 3 then 1 else 0) = 3
    rw [if_neg (by omega), if_pos hk']
  · have hk' : k = w.heap.size + 2 := hk
    show (if k = w.heap.size then 2 else if k = w.heap.size + 1 then 3 else if k = w.heap.size + 2 then 4 else if k = w.heap.size + 3 then 1 else 0) = 4
    rw [if_neg (by omega), if_neg (by omega), if_pos hk']
  all_goals
    have hk' : (if k = w.heap.size then 2 else if k = w.heap.size + 1 then 3 else if k = w.heap.size + 2 then 4 else if k = w.heap.size + 3 then 1 else 0) ≠ 0 := hk
    have hk2 : w.heap.size ≤ k ∧ k < w.heap.size + 4 := by
      split at hk'
      · omega
      · split at hk'
        · omega
        · split at hk'
          · omega
          · split at hk'
            · omega
            · exact absurd rfl hk'
    first
      | exact hk2
      | (rw [World.size_alloc]; omega)

set_option maxRecDepth 100000 in
set_option maxHeartbeats 4000000 in
theorem u_start (w : World) : Calls Try.prog 40 #[] w fun e w' => ∃ ub, e = .returned (.pointer (some ⟨ub, 0, none⟩)) ∧ Below w.heap.size w w' ∧ USc w w' (fun k => w.heap.size ≤ k) ub stStart := by
  have hS := u_start_rep w
  obtain ⟨ws, hws⟩ : ∃ ws, ws = (((w.alloc (.cells #[.int .i64 0, .int .i64 0] 3)).alloc (.cells #[.int .i64 0] 3)).alloc (.cells #[.int .i64 0, .string ByteArray.empty, .int .i64 0, .int .i64 0, .int .i64 0, .int .i64 0, .int .u64 0, .int .u64 0, .bool false, .string ByteArray.empty, .int .i64 0, .int .i64 0, .int .i64 0] 70)).alloc (.cells #[.slice (some ⟨w.heap.size, 0, none⟩) 2 2, .slice (some ⟨w.heap.size + 1, 0, none⟩) 1 1, .slice (some ⟨w.heap.size + 1 + 1, 0, none⟩) 1 1] 58) := ⟨_, rfl⟩
  rw [← hws] at hS
  have hsz : ws.heap.size = w.heap.size + 4 := by rw [hws]; simp
  have hbS : Below w.heap.size w ws := by rw [hws]; exact ((((Below.refl _ _).alloc (Nat.le_refl _) _).alloc (by simp) _).alloc (by simp; omega) _).alloc (by simp; omega) _
  have HWS := Aside0.mk hws
  have hS2 := (hS.below ((Below.refl _ _).alloc (Nat.le_refl _) (.cells #[.string { data := #[105, 110, 116] }, .string { data := #[98, 111, 111, 108] }, .string { data := #[115, 116, 114, 105, 110, 103] }, .string { data := #[101, 114, 114, 111, 114] }] 107))).mono (G := fun k => w.heap.size ≤ k ∧ k ≠ ws.heap.size) (fun k _ _ hk => by omega)
  have HA0 := Aside0.mk (heap_alloc_new ws (.cells #[.string { data := #[105, 110, 116] }, .string { data := #[98, 111, 111, 108] }, .string { data := #[115, 116, 114, 105, 110, 103] }, .string { data := #[101, 114, 114, 111, 114] }] 107))
  have HS0 := Aside0.mk hS2
  have HB0 := Aside0.mk (hbS.alloc hbS.size (.cells #[.string { data := #[105, 110, 116] }, .string { data := #[98, 111, 111, 108] }, .string { data := #[115, 116, 114, 105, 110, 103] }, .string { data := #[101, 114, 114, 111, 114] }] 107))
  have hz0 : w.heap.size ≤ (ws.alloc (.cells #[.string { data := #[105, 110, 116] }, .string { data := #[98, 111, 111, 108] }, .string { data := #[115, 116, 114, 105, 110, 103] }, .string { data := #[101, 114, 114, 111, 114] }] 107)).heap.size ∧ ws.heap.size < (ws.alloc (.cells #[.string { data := #[105, 110, 116] }, .string { data := #[98, 111, 111, 108] }, .string { data := #[115, 116, 114, 105, 110, 103] }, .string { data := #[101, 114, 114, 111, 114] }] 107)).heap.size := by rw [World.size_alloc]; omega
  have HZ0 := Aside0.mk hz0
  have HUB := Aside0.mk hsz
  clear hS hS2 hsz hbS hws hz0
  obtain ⟨ab, hab⟩ : ∃ ab, ab = w.heap.size + 1 + 1 + 1 + 1 := ⟨_, rfl⟩
  rw [show ws.heap.size = ab by rw [HUB.out, hab]] at HA0 HS0 HZ0
  have HAB := Aside0.mk hab
  obtain ⟨w0_, hw0⟩ : ∃ w0_, w0_ = ws.alloc (.cells #[.string { data := #[105, 110, 116] }, .string { data := #[98, 111, 111, 108] }, .string { data := #[115, 116, 114, 105, 110, 103] }, .string { data := #[101, 114, 114, 111, 114] }] 107) := ⟨_, rfl⟩
  rw [← hw0] at HA0 HS0 HB0 HZ0
  have HW0 := Aside0.mk hw0
  clear hab hw0
  go_enter Try.func40, Try.ntmps40
  go_wp2_with fail
  have hwe : ((((w.alloc (.cells #[.int .i64 0, .int .i64 0] 3)).alloc (.cells #[.int .i64 0] 3)).alloc (.cells #[.int .i64 0, .string { data := #[] }, .int .i64 0, .int .i64 0, .int .i64 0, .int .i64 0, .int .u64 0, .int .u64 0, .bool false, .string { data := #[] }, .int .i64 0, .int .i64 0, .int .i64 0] 70)).alloc (.cells #[.slice (some ⟨w.heap.size, 0, none⟩) 2 2, .slice (some ⟨w.heap.size + 1, 0, none⟩) 1 1, .slice (some ⟨w.heap.size + 1 + 1, 0, none⟩) 1 1] 58)).alloc (Obj.cells #[.string { data := #[105, 110, 116] }, .string { data := #[98, 111, 111, 108] }, .string { data := #[115, 116, 114, 105, 110, 103] }, .string { data := #[101, 114, 114, 111, 114] }] 107) = w0_ := by rw [HW0.out, HWS.out]; rfl
  rw [hwe, ← HAB.out]
  clear hwe HWS HW0 HUB ws
  refine wp_loop_rounds 5 ?_
  rw [rounds_succ]
  have aj : w0_.cell? ⟨ab, 0, none⟩ = some (.string { data := #[105, 110, 116] }) := by rw [blk_cell HA0.out]; rfl
  go_wp2_with (go_at_call 42; refine Stand.stop ?_)
  refine Stand.go ?_
  refine (u_put_step 0 (by decide) HS0.out HZ0.out.1 (fun j hj => by have := HZ0.out; exact ⟨by omega, by omega⟩) bo0 rfl).mono ?_
  rintro e w1_ ⟨rfl, hu, hs⟩
  have HS1 := Aside0.mk hs
  have HB1 := Aside0.mk (HB0.out.trans (hu.belowAt (fun j hj => hj.1) HB0.out.size))
  have HA1 := Aside0.mk (hu.blk HA0.out (fun hj => hj.2 rfl))
  have HZ1 : Aside0 (w.heap.size ≤ w1_.heap.size ∧ ab < w1_.heap.size) := ⟨by have := HZ0.out; have := hu.size; omega⟩
  clear hu hs aj
  go_wp2_with fail
  rw [rounds_succ]
  have aj : w1_.cell? ⟨ab, 1, none⟩ = some (.string { data := #[98, 111, 111, 108] }) := by rw [blk_cell HA1.out]; rfl
  go_wp2_with (go_at_call 42; refine Stand.stop ?_)
  refine Stand.go ?_
  refine (u_put_step 1 (by decide) HS1.out HZ1.out.1 (fun j hj => by have := HZ1.out; exact ⟨by omega, by omega⟩) bo1 rfl).mono ?_
  rintro e w2_ ⟨rfl, hu, hs⟩
  have HS2 := Aside0.mk hs
  have HB2 := Aside0.mk (HB1.out.trans (hu.belowAt (fun j hj => hj.1) HB1.out.size))
  have HA2 := Aside0.mk (hu.blk HA1.out (fun hj => hj.2 rfl))
  have HZ2 : Aside0 (w.heap.size ≤ w2_.heap.size ∧ ab < w2_.heap.size) := ⟨by have := HZ1.out; have := hu.size; omega⟩
  clear hu hs aj
  go_wp2_with fail
  rw [rounds_succ]
  have aj : w2_.cell? ⟨ab, 2, none⟩ = some (.string { data := #[115, 116, 114, 105, 110, 103] }) := by rw [blk_cell HA2.out]; rfl
  go_wp2_with (go_at_call 42; refine Stand.stop ?_)
  refine Stand.go ?_
  refine (u_put_step 2 (by decide) HS2.out HZ2.out.1 (fun j hj => by have := HZ2.out; exact ⟨by omega, by omega⟩) bo2 rfl).mono ?_
  rintro e w3_ ⟨rfl, hu, hs⟩
  have HS3 := Aside0.mk hs
  have HB3 := Aside0.mk (HB2.out.trans (hu.belowAt (fun j hj => hj.1) HB2.out.size))
  have HA3 := Aside0.mk (hu.blk HA2.out (fun hj => hj.2 rfl))
  have HZ3 : Aside0 (w.heap.size ≤ w3_.heap.size ∧ ab < w3_.heap.size) := ⟨by have := HZ2.out; have := hu.size; omega⟩
  clear hu hs aj
  go_wp2_with fail
  rw [rounds_succ]
  have aj : w3_.cell? ⟨ab, 3, none⟩ = some (.string { data := #[101, 114, 114, 111, 114] }) := by rw [blk_cell HA3.out]; rfl
  go_wp2_with (go_at_call 42; refine Stand.stop ?_)
  refine Stand.go ?_
  refine (u_put_step 3 (by decide) HS3.out HZ3.out.1 (fun j hj => by have := HZ3.out; exact ⟨by omega, by omega⟩) bo3 rfl).mono ?_
  rintro e w4_ ⟨rfl, hu, hs⟩
  have HS4 := Aside0.mk hs
  have HB4 := Aside0.mk (HB3.out.trans (hu.belowAt (fun j hj => hj.1) HB3.out.size))
  have HA4 := Aside0.mk (hu.blk HA3.out (fun hj => hj.2 rfl))
  have HZ4 : Aside0 (w.heap.size ≤ w4_.heap.size ∧ ab < w4_.heap.size) := ⟨by have := HZ3.out; have := hu.size; omega⟩
  clear hu hs aj
  go_wp2_with fail
  rw [rounds_succ]
  go_wp2_with (go_at_call 42; refine Stand.stop ?_)
  refine Stand.go ?_
  refine (u_put_step 4 (by decide) HS4.out HZ4.out.1 (fun j hj => by have := HZ4.out; exact ⟨by omega, by omega⟩) bo4 rfl).mono ?_
  rintro e w5_ ⟨rfl, hu, hs⟩
  have HS5 := Aside0.mk hs
  have HB5 := Aside0.mk (HB4.out.trans (hu.belowAt (fun j hj => hj.1) HB4.out.size))
  have HA5 := Aside0.mk (hu.blk HA4.out (fun hj => hj.2 rfl))
  have HZ5 : Aside0 (w.heap.size ≤ w5_.heap.size ∧ ab < w5_.heap.size) := ⟨by have := HZ4.out; have := hu.size; omega⟩
  clear hu hs 
  go_wp2_with (go_at_call 42; refine Stand.stop ?_)
  refine Stand.go ?_
  refine (u_put_step 5 (by decide) HS5.out HZ5.out.1 (fun j hj => by have := HZ5.out; exact ⟨by omega, by omega⟩) bo5 rfl).mono ?_
  rintro e w6_ ⟨rfl, hu, hs⟩
  have HS6 := Aside0.mk hs
  have HB6 := Aside0.mk (HB5.out.trans (hu.belowAt (fun j hj => hj.1) HB5.out.size))
  have HA6 := Aside0.mk (hu.blk HA5.out (fun hj => hj.2 rfl))
  have HZ6 : Aside0 (w.heap.size ≤ w6_.heap.size ∧ ab < w6_.heap.size) := ⟨by have := HZ5.out; have := hu.size; omega⟩
  clear hu hs 
  go_wp2_with (go_at_call 42; refine Stand.stop ?_)
  refine Stand.go ?_
  refine (u_put_step 6 (by decide) HS6.out HZ6.out.1 (fun j hj => by have := HZ6.out; exact ⟨by omega, by omega⟩) bo6 rfl).mono ?_
  rintro e w7_ ⟨rfl, hu, hs⟩
  have HS7 := Aside0.mk hs
  have HB7 := Aside0.mk (HB6.out.trans (hu.belowAt (fun j hj => hj.1) HB6.out.size))
  have HA7 := Aside0.mk (hu.blk HA6.out (fun hj => hj.2 rfl))
  have HZ7 : Aside0 (w.heap.size ≤ w7_.heap.size ∧ ab < w7_.heap.size) := ⟨by have := HZ6.out; have := hu.size; omega⟩
  clear hu hs 
  go_wp2_with (go_at_call 42; refine Stand.stop ?_)
  refine Stand.go ?_
  refine (u_put_step 7 (by decide) HS7.out HZ7.out.1 (fun j hj => by have := HZ7.out; exact ⟨by omega, by omega⟩) bo7 rfl).mono ?_
  rintro e w8_ ⟨rfl, hu, hs⟩
  have HS8 := Aside0.mk hs
  have HB8 := Aside0.mk (HB7.out.trans (hu.belowAt (fun j hj => hj.1) HB7.out.size))
  have HA8 := Aside0.mk (hu.blk HA7.out (fun hj => hj.2 rfl))
  have HZ8 : Aside0 (w.heap.size ≤ w8_.heap.size ∧ ab < w8_.heap.size) := ⟨by have := HZ7.out; have := hu.size; omega⟩
  clear hu hs 
  go_wp2_with (go_at_call 42; refine Stand.stop ?_)
  refine Stand.go ?_
  refine (u_put_step 8 (by decide) HS8.out HZ8.out.1 (fun j hj => by have := HZ8.out; exact ⟨by omega, by omega⟩) bo8 rfl).mono ?_
  rintro e w9_ ⟨rfl, hu, hs⟩
  have HS9 := Aside0.mk hs
  have HB9 := Aside0.mk (HB8.out.trans (hu.belowAt (fun j hj => hj.1) HB8.out.size))
  have HA9 := Aside0.mk (hu.blk HA8.out (fun hj => hj.2 rfl))
  have HZ9 : Aside0 (w.heap.size ≤ w9_.heap.size ∧ ab < w9_.heap.size) := ⟨by have := HZ8.out; have := hu.size; omega⟩
  clear hu hs 
  have hm9 := (HS9.out.mono (G := fun k => w.heap.size ≤ k ∧ k ≠ w9_.heap.size) (fun k _ h2 hk => ⟨hk.1, by omega⟩)).below ((Below.refl _ _).alloc (Nat.le_refl _) (.cells #[.string { data := #[112, 114, 105, 110, 116] }, .string { data := #[108, 101, 110] }, .string { data := #[97, 112, 112, 101, 110, 100] }, .string { data := #[109, 97, 107, 101] }, .string { data := #[110, 101, 119] }, .string { data := #[99, 108, 111, 115, 101] }, .string { data := #[112, 97, 110, 105, 99] }, .string { data := #[114, 101, 99, 111, 118, 101, 114] }, .string { data := #[102, 97, 105, 108, 117, 114, 101] }] 108))
  obtain ⟨ac, hac⟩ : ∃ ac, ac = w9_.heap.size := ⟨_, rfl⟩
  have HAC := Aside0.mk hac
  have hsz9 := HZ9.out.1
  have hA9 := heap_alloc_new w9_ (.cells #[.string { data := #[112, 114, 105, 110, 116] }, .string { data := #[108, 101, 110] }, .string { data := #[97, 112, 112, 101, 110, 100] }, .string { data := #[109, 97, 107, 101] }, .string { data := #[110, 101, 119] }, .string { data := #[99, 108, 111, 115, 101] }, .string { data := #[112, 97, 110, 105, 99] }, .string { data := #[114, 101, 99, 111, 118, 101, 114] }, .string { data := #[102, 97, 105, 108, 117, 114, 101] }] 108)
  rw [← hac] at hm9 hA9
  have hB9 := HB9.out.alloc HB9.out.size (.cells #[.string { data := #[112, 114, 105, 110, 116] }, .string { data := #[108, 101, 110] }, .string { data := #[97, 112, 112, 101, 110, 100] }, .string { data := #[109, 97, 107, 101] }, .string { data := #[110, 101, 119] }, .string { data := #[99, 108, 111, 115, 101] }, .string { data := #[112, 97, 110, 105, 99] }, .string { data := #[114, 101, 99, 111, 118, 101, 114] }, .string { data := #[102, 97, 105, 108, 117, 114, 101] }] 108)
  have hz9 : w.heap.size ≤ (w9_.alloc (.cells #[.string { data := #[112, 114, 105, 110, 116] }, .string { data := #[108, 101, 110] }, .string { data := #[97, 112, 112, 101, 110, 100] }, .string { data := #[109, 97, 107, 101] }, .string { data := #[110, 101, 119] }, .string { data := #[99, 108, 111, 115, 101] }, .string { data := #[112, 97, 110, 105, 99] }, .string { data := #[114, 101, 99, 111, 118, 101, 114] }, .string { data := #[102, 97, 105, 108, 117, 114, 101] }] 108)).heap.size ∧ ac < (w9_.alloc (.cells #[.string { data := #[112, 114, 105, 110, 116] }, .string { data := #[108, 101, 110] }, .string { data := #[97, 112, 112, 101, 110, 100] }, .string { data := #[109, 97, 107, 101] }, .string { data := #[110, 101, 119] }, .string { data := #[99, 108, 111, 115, 101] }, .string { data := #[112, 97, 110, 105, 99] }, .string { data := #[114, 101, 99, 111, 118, 101, 114] }, .string { data := #[102, 97, 105, 108, 117, 114, 101] }] 108)).heap.size := by rw [World.size_alloc]; omega
  clear HA9 HS9 HB9 HZ9 hsz9
  have HS9 := Aside0.mk hm9
  have HA9 := Aside0.mk hA9
  have HB9 := Aside0.mk hB9
  have HZ9 := Aside0.mk hz9
  clear hm9 hA9 hB9 hz9 hac
  go_wp2_with fail
  rw [← HAC.out]
  obtain ⟨wx, hwx⟩ : ∃ wx, wx = w9_.alloc (Obj.cells #[.string { data := #[112, 114, 105, 110, 116] }, .string { data := #[108, 101, 110] }, .string { data := #[97, 112, 112, 101, 110, 100] }, .string { data := #[109, 97, 107, 101] }, .string { data := #[110, 101, 119] }, .string { data := #[99, 108, 111, 115, 101] }, .string { data := #[112, 97, 110, 105, 99] }, .string { data := #[114, 101, 99, 111, 118, 101, 114] }, .string { data := #[102, 97, 105, 108, 117, 114, 101] }] 108) := ⟨_, rfl⟩
  rw [← hwx] at HS9 HA9 HB9 HZ9 ⊢
  clear hwx HAC
  refine wp_loop_rounds 10 ?_
  rw [rounds_succ]
  have aj : wx.cell? ⟨ac, 0, none⟩ = some (.string { data := #[112, 114, 105, 110, 116] }) := by rw [blk_cell HA9.out]; rfl
  go_wp2_with (go_at_call 42; refine Stand.stop ?_)
  refine Stand.go ?_
  refine (u_put_step 9 (by decide) HS9.out HZ9.out.1 (fun j hj => by have := HZ9.out; exact ⟨by omega, by omega⟩) bo9 rfl).mono ?_
  rintro e w10_ ⟨rfl, hu, hs⟩
  have HS10 := Aside0.mk hs
  have HB10 := Aside0.mk (HB9.out.trans (hu.belowAt (fun j hj => hj.1) HB9.out.size))
  have HA10 := Aside0.mk (hu.blk HA9.out (fun hj => hj.2 rfl))
  have HZ10 : Aside0 (w.heap.size ≤ w10_.heap.size ∧ ac < w10_.heap.size) := ⟨by have := HZ9.out; have := hu.size; omega⟩
  clear hu hs aj
  go_wp2_with fail
  rw [rounds_succ]
  have aj : w10_.cell? ⟨ac, 1, none⟩ = some (.string { data := #[108, 101, 110] }) := by rw [blk_cell HA10.out]; rfl
  go_wp2_with (go_at_call 42; refine Stand.stop ?_)
  refine Stand.go ?_
  refine (u_put_step 10 (by decide) HS10.out HZ10.out.1 (fun j hj => by have := HZ10.out; exact ⟨by omega, by omega⟩) bo10 rfl).mono ?_
  rintro e w11_ ⟨rfl, hu, hs⟩
  have HS11 := Aside0.mk hs
  have HB11 := Aside0.mk (HB10.out.trans (hu.belowAt (fun j hj => hj.1) HB10.out.size))
  have HA11 := Aside0.mk (hu.blk HA10.out (fun hj => hj.2 rfl))
  have HZ11 : Aside0 (w.heap.size ≤ w11_.heap.size ∧ ac < w11_.heap.size) := ⟨by have := HZ10.out; have := hu.size; omega⟩
  clear hu hs aj
  go_wp2_with fail
  rw [rounds_succ]
  have aj : w11_.cell? ⟨ac, 2, none⟩ = some (.string { data := #[97, 112, 112, 101, 110, 100] }) := by rw [blk_cell HA11.out]; rfl
  go_wp2_with (go_at_call 42; refine Stand.stop ?_)
  refine Stand.go ?_
  refine (u_put_step 11 (by decide) HS11.out HZ11.out.1 (fun j hj => by have := HZ11.out; exact ⟨by omega, by omega⟩) bo11 rfl).mono ?_
  rintro e w12_ ⟨rfl, hu, hs⟩
  have HS12 := Aside0.mk hs
  have HB12 := Aside0.mk (HB11.out.trans (hu.belowAt (fun j hj => hj.1) HB11.out.size))
  have HA12 := Aside0.mk (hu.blk HA11.out (fun hj => hj.2 rfl))
  have HZ12 : Aside0 (w.heap.size ≤ w12_.heap.size ∧ ac < w12_.heap.size) := ⟨by have := HZ11.out; have := hu.size; omega⟩
  clear hu hs aj
  go_wp2_with fail
  rw [rounds_succ]
  have aj : w12_.cell? ⟨ac, 3, none⟩ = some (.string { data := #[109, 97, 107, 101] }) := by rw [blk_cell HA12.out]; rfl
  go_wp2_with (go_at_call 42; refine Stand.stop ?_)
  refine Stand.go ?_
  refine (u_put_step 12 (by decide) HS12.out HZ12.out.1 (fun j hj => by have := HZ12.out; exact ⟨by omega, by omega⟩) bo12 rfl).mono ?_
  rintro e w13_ ⟨rfl, hu, hs⟩
  have HS13 := Aside0.mk hs
  have HB13 := Aside0.mk (HB12.out.trans (hu.belowAt (fun j hj => hj.1) HB12.out.size))
  have HA13 := Aside0.mk (hu.blk HA12.out (fun hj => hj.2 rfl))
  have HZ13 : Aside0 (w.heap.size ≤ w13_.heap.size ∧ ac < w13_.heap.size) := ⟨by have := HZ12.out; have := hu.size; omega⟩
  clear hu hs aj
  go_wp2_with fail
  rw [rounds_succ]
  have aj : w13_.cell? ⟨ac, 4, none⟩ = some (.string { data := #[110, 101, 119] }) := by rw [blk_cell HA13.out]; rfl
  go_wp2_with (go_at_call 42; refine Stand.stop ?_)
  refine Stand.go ?_
  refine (u_put_step 13 (by decide) HS13.out HZ13.out.1 (fun j hj => by have := HZ13.out; exact ⟨by omega, by omega⟩) bo13 rfl).mono ?_
  rintro e w14_ ⟨rfl, hu, hs⟩
  have HS14 := Aside0.mk hs
  have HB14 := Aside0.mk (HB13.out.trans (hu.belowAt (fun j hj => hj.1) HB13.out.size))
  have HA14 := Aside0.mk (hu.blk HA13.out (fun hj => hj.2 rfl))
  have HZ14 : Aside0 (w.heap.size ≤ w14_.heap.size ∧ ac < w14_.heap.size) := ⟨by have := HZ13.out; have := hu.size; omega⟩
  clear hu hs aj
  go_wp2_with fail
  rw [rounds_succ]
  have aj : w14_.cell? ⟨ac, 5, none⟩ = some (.string { data := #[99, 108, 111, 115, 101] }) := by rw [blk_cell HA14.out]; rfl
  go_wp2_with (go_at_call 42; refine Stand.stop ?_)
  refine Stand.go ?_
  refine (u_put_step 14 (by decide) HS14.out HZ14.out.1 (fun j hj => by have := HZ14.out; exact ⟨by omega, by omega⟩) bo14 rfl).mono ?_
  rintro e w15_ ⟨rfl, hu, hs⟩
  have HS15 := Aside0.mk hs
  have HB15 := Aside0.mk (HB14.out.trans (hu.belowAt (fun j hj => hj.1) HB14.out.size))
  have HA15 := Aside0.mk (hu.blk HA14.out (fun hj => hj.2 rfl))
  have HZ15 : Aside0 (w.heap.size ≤ w15_.heap.size ∧ ac < w15_.heap.size) := ⟨by have := HZ14.out; have := hu.size; omega⟩
  clear hu hs aj
  go_wp2_with fail
  rw [rounds_succ]
  have aj : w15_.cell? ⟨ac, 6, none⟩ = some (.string { data := #[112, 97, 110, 105, 99] }) := by rw [blk_cell HA15.out]; rfl
  go_wp2_with (go_at_call 42; refine Stand.stop ?_)
  refine Stand.go ?_
  refine (u_put_step 15 (by decide) HS15.out HZ15.out.1 (fun j hj => by have := HZ15.out; exact ⟨by omega, by omega⟩) bo15 rfl).mono ?_
  rintro e w16_ ⟨rfl, hu, hs⟩
  have HS16 := Aside0.mk hs
  have HB16 := Aside0.mk (HB15.out.trans (hu.belowAt (fun j hj => hj.1) HB15.out.size))
  have HA16 := Aside0.mk (hu.blk HA15.out (fun hj => hj.2 rfl))
  have HZ16 : Aside0 (w.heap.size ≤ w16_.heap.size ∧ ac < w16_.heap.size) := ⟨by have := HZ15.out; have := hu.size; omega⟩
  clear hu hs aj
  go_wp2_with fail
  rw [rounds_succ]
  have aj : w16_.cell? ⟨ac, 7, none⟩ = some (.string { data := #[114, 101, 99, 111, 118, 101, 114] }) := by rw [blk_cell HA16.out]; rfl
  go_wp2_with (go_at_call 42; refine Stand.stop ?_)
  refine Stand.go ?_
  refine (u_put_step 16 (by decide) HS16.out HZ16.out.1 (fun j hj => by have := HZ16.out; exact ⟨by omega, by omega⟩) bo16 rfl).mono ?_
  rintro e w17_ ⟨rfl, hu, hs⟩
  have HS17 := Aside0.mk hs
  have HB17 := Aside0.mk (HB16.out.trans (hu.belowAt (fun j hj => hj.1) HB16.out.size))
  have HA17 := Aside0.mk (hu.blk HA16.out (fun hj => hj.2 rfl))
  have HZ17 : Aside0 (w.heap.size ≤ w17_.heap.size ∧ ac < w17_.heap.size) := ⟨by have := HZ16.out; have := hu.size; omega⟩
  clear hu hs aj
  go_wp2_with fail
  rw [rounds_succ]
  have aj : w17_.cell? ⟨ac, 8, none⟩ = some (.string { data := #[102, 97, 105, 108, 117, 114, 101] }) := by rw [blk_cell HA17.out]; rfl
  go_wp2_with (go_at_call 42; refine Stand.stop ?_)
  refine Stand.go ?_
  refine (u_put_step 17 (by decide) HS17.out HZ17.out.1 (fun j hj => by have := HZ17.out; exact ⟨by omega, by omega⟩) bo17 rfl).mono ?_
  rintro e w18_ ⟨rfl, hu, hs⟩
  have HS18 := Aside0.mk hs
  have HB18 := Aside0.mk (HB17.out.trans (hu.belowAt (fun j hj => hj.1) HB17.out.size))
  have HA18 := Aside0.mk (hu.blk HA17.out (fun hj => hj.2 rfl))
  have HZ18 : Aside0 (w.heap.size ≤ w18_.heap.size ∧ ac < w18_.heap.size) := ⟨by have := HZ17.out; have := hu.size; omega⟩
  clear hu hs aj
  go_wp2_with fail
  rw [rounds_succ]
  go_wp2_with fail
  go_ret
  exact ⟨_, rfl, HB18.out, HS18.out.mono (fun k _ _ hk => hk.1)⟩
end Go.Proofs.Ytnmahbpkaocjdaa
