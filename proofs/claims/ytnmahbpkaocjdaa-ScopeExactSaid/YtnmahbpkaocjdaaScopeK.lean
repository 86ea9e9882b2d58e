/-
  Scopes: Start.
-/
import Derived.Test.YtnmahbpkaocjdaaScopeJ
set_option linter.unusedVariables false
namespace Go.Proofs.Ytnmahbpkaocjdaa
open Go.RowKit Go.Proofs.YtnmahbpkaocjdaaW.PrintWords

def st0 : St := ⟨[0, 0], [0], [Ob.zero]⟩
def stk (k : Nat) : St := (builtL.take k).foldl (fun s o => s.put 1 o) st0
def stStart : St := stk 18
theorem stk_free : (List.range 18).all (fun k => decide ((stk k).here 1 (builtL.getD k Ob.zero).name = 0) && (stk k).has 1 && isKindB (builtL.getD k Ob.zero).kind && decide ((builtL.getD k Ob.zero).name ≠ ByteArray.empty) && decide ((builtL.getD k Ob.zero).name.size ≤ maxLen) && decide ((stk k).objs.length < 1000)) = true := by kernel_rfl
theorem stk_succ (k : Nat) (hk : k < 18) : stk (k + 1) = (stk k).put 1 (builtL.getD k Ob.zero) := by
  unfold stk
  rw [List.take_succ_eq_append_getElem (by exact hk), List.foldl_append]
  simp [List.getD_eq_getElem?_getD, show k < builtL.length from hk]
  rfl

theorem make56 (W : World) : (Instr.makeSlice 56 (.int .i64 1) (.int .i64 1)).run Try.prog W = .ok (.slice (some ⟨W.heap.size, 0, none⟩) 1 1) (W.alloc (.cells #[.int .i64 0, .string ByteArray.empty, .int .i64 0, .int .i64 0, .int .i64 0, .int .i64 0, .int .u64 0, .int .u64 0, .bool false, .string ByteArray.empty, .int .i64 0, .int .i64 0, .int .i64 0] 70)) := by kernel_rfl

theorem R_two (w : World) (base : Nat) (hb : base ≤ w.heap.size) (ok : Nat → Prop) (hok : ok w.heap.size) : intk.R 3 (w.alloc (.cells #[.int .i64 0, .int .i64 0] 3)) base ok (.slice (some ⟨w.heap.size, 0, none⟩) 2 2) [0, 0] := by
  refine ⟨fun k hk => ?_, [.int .i64 0, .int .i64 0], ?_, ?_⟩
  · have : w.heap.size = k := by simpa [Value.ownBlock] using hk
    subst this
    exact hok
  · exact World.ownsRow_lit (base := base) (e := 3) (size := intk.sz) w #[.int .i64 0, .int .i64 0] 2 hb (by simp [maxLen]) rfl
  · exact Reps.snoc (cs := [.int .i64 0]) (ps := [(0 : Int)]) (Reps.snoc (cs := []) (ps := []) (Reps.none _ _) rfl rfl) rfl rfl
theorem R_one (w : World) (base : Nat) (hb : base ≤ w.heap.size) (ok : Nat → Prop) (hok : ok w.heap.size) : obk.R 70 (w.alloc (.cells #[.int .i64 0, .string ByteArray.empty, .int .i64 0, .int .i64 0, .int .i64 0, .int .i64 0, .int .u64 0, .int .u64 0, .bool false, .string ByteArray.empty, .int .i64 0, .int .i64 0, .int .i64 0] 70)) base ok (.slice (some ⟨w.heap.size, 0, none⟩) 1 1) [Ob.zero] := by
  refine ⟨fun k hk => ?_, Ob.zero.enc, ?_, ?_⟩
  · have : w.heap.size = k := by simpa [Value.ownBlock] using hk
    subst this
    exact hok
  · exact World.ownsRow_lit (base := base) (e := 70) (size := obk.sz) w #[.int .i64 0, .string ByteArray.empty, .int .i64 0, .int .i64 0, .int .i64 0, .int .i64 0, .int .u64 0, .int .u64 0, .bool false, .string ByteArray.empty, .int .i64 0, .int .i64 0, .int .i64 0] 1 hb (by simp [maxLen]) rfl
  · exact Reps.snoc (cs := []) (ps := []) (Reps.none _ _) rfl rfl
theorem st0_here (i : Int) (nm : ByteArray) : st0.here i nm = 0 := by
  unfold St.here st0 St.hereUp St.hereUp
  simp
theorem st0_good : st0.Good := by
  refine ⟨by decide, rfl, rfl, fun i h1 h2 => ?_, rfl, by decide, fun i h1 h2 => ?_, by decide, by decide, fun i => ?_⟩
  · have : st0.outer.length = 2 := rfl
    omega
  · have : st0.inn.length = 1 := rfl
    omega
  · cases i with
    | zero => decide
    | succ i => exact Nat.zero_le _

theorem start_rep (w : World) : SRep w ((((w.alloc (.cells #[.int .i64 0, .int .i64 0] 3)).alloc (.cells #[.int .i64 0, .string ByteArray.empty, .int .i64 0, .int .i64 0, .int .i64 0, .int .i64 0, .int .u64 0, .int .u64 0, .bool false, .string ByteArray.empty, .int .i64 0, .int .i64 0, .int .i64 0] 70)).alloc (.map #[] 0)).alloc
    (.cells #[.slice (some ⟨w.heap.size, 0, none⟩) 2 2, .slice (some ⟨w.heap.size + 1, 0, none⟩) 1 1, .map (some (w.heap.size + 1 + 1))] 103)) (fun k => w.heap.size ≤ k ∧ k < w.heap.size + 4) (w.heap.size + 1 + 1 + 1) st0 := by
  have h1 : (w.alloc (.cells #[.int .i64 0, .int .i64 0] 3)).heap.size = w.heap.size + 1 := World.size_alloc _ _
  generalize hA : w.alloc (.cells #[.int .i64 0, .int .i64 0] 3) = wa at h1 ⊢
  have h2 : (wa.alloc (.cells #[.int .i64 0, .string ByteArray.empty, .int .i64 0, .int .i64 0, .int .i64 0, .int .i64 0, .int .u64 0, .int .u64 0, .bool false, .string ByteArray.empty, .int .i64 0, .int .i64 0, .int .i64 0] 70)).heap.size = w.heap.size + 2 := by rw [World.size_alloc, h1]
  have r2 := R_one wa w.heap.size (by omega) (fun k => k = w.heap.size + 1) h1
  have r1 := R_two w w.heap.size (Nat.le_refl _) (fun k => k = w.heap.size) rfl
  rw [hA] at r1
  rw [h1] at r2
  generalize hB : wa.alloc (.cells #[.int .i64 0, .string ByteArray.empty, .int .i64 0, .int .i64 0, .int .i64 0, .int .i64 0, .int .u64 0, .int .u64 0, .bool false, .string ByteArray.empty, .int .i64 0, .int .i64 0, .int .i64 0] 70) = wb at h2 r2 ⊢
  have r1b : intk.R 3 wb w.heap.size (fun k => k = w.heap.size) (.slice (some ⟨w.heap.size, 0, none⟩) 2 2) [0, 0] := by rw [← hB]; exact Kd.R_alloc r1 _
  have h3 : (wb.alloc (.map #[] 0)).heap.size = w.heap.size + 3 := by rw [World.size_alloc, h2]
  have m3 := World.ownsMap_made wb Try.prog 105 (plainElem (H := Unit) Try.prog 3)
  have r1c := Kd.R_alloc r1b (.map #[] 0)
  have r2c := Kd.R_alloc r2 (.map #[] 0)
  generalize wb.alloc (.map #[] 0) = wc at h3 m3 r1c r2c ⊢
  rw [h2] at m3
  refine ⟨st0_good, fun k => if k = w.heap.size then 3 else if k = w.heap.size + 1 then 4 else if k = w.heap.size + 2 then 2 else if k = w.heap.size + 3 then 1 else 0, ⟨?_, ⟨_, _, _, 0, .map [], ?_, Kd.R_mono (Kd.R_alloc r1c _) (fun k hk => ?_), Kd.R_mono (Kd.R_alloc r2c _) (fun k hk => ?_), ?_, m3.alloc _, by decide, fun i nm kl hk => ?_⟩, fun k hk => ?_⟩, fun k hk => ?_⟩
  · show (if w.heap.size + 1 + 1 + 1 = w.heap.size then 3 else if w.heap.size + 1 + 1 + 1 = w.heap.size + 1 then 4 else if w.heap.size + 1 + 1 + 1 = w.heap.size + 2 then 2 else if w.heap.size + 1 + 1 + 1 = w.heap.size + 3 then 1 else 0) = 1
    rw [if_neg (by omega), if_neg (by omega), if_neg (by omega), if_pos rfl]
  · rw [show w.heap.size + 1 + 1 + 1 = wc.heap.size by omega]
    exact heap_alloc_new wc _
  · have hk' : k = w.heap.size := hk
    show (if k = w.heap.size then 3 else if k = w.heap.size + 1 then 4 else if k = w.heap.size + 2 then 2 else if k = w.heap.size + 3 then 1 else 0) = 3
    rw [if_pos hk']
  · have hk' : k = w.heap.size + 1 := hk
    show (if k = w.heap.size then 3 else if k = w.heap.size + 1 then 4 else if k = w.heap.size + 2 then 2 else if k = w.heap.size + 3 then 1 else 0) = 4
    rw [if_neg (by omega), if_pos hk']
  · show (if w.heap.size + 1 + 1 = w.heap.size then 3 else if w.heap.size + 1 + 1 = w.heap.size + 1 then 4 else if w.heap.size + 1 + 1 = w.heap.size + 2 then 2 else if w.heap.size + 1 + 1 = w.heap.size + 3 then 1 else 0) = 2
    rw [if_neg (by omega), if_neg (by omega), if_pos rfl]
  · rw [st0_here]
    exact ⟨rfl, rfl⟩
  · have hk' : (if k = w.heap.size then 3 else if k = w.heap.size + 1 then 4 else if k = w.heap.size + 2 then 2 else if k = w.heap.size + 3 then 1 else 0) ≠ 0 := hk
    rw [World.size_alloc]
    split at hk'
    · omega
    · split at hk'
      · omega
      · split at hk'
        · omega
        · split at hk'
          · omega
          · exact absurd rfl hk'
  · have hk' : (if k = w.heap.size then 3 else if k = w.heap.size + 1 then 4 else if k = w.heap.size + 2 then 2 else if k = w.heap.size + 3 then 1 else 0) ≠ 0 := hk
    split at hk'
    · omega
    · split at hk'
      · omega
      · split at hk'
        · omega
        · split at hk'
          · omega
          · exact absurd rfl hk'

set_option maxRecDepth 100000 in
set_option maxHeartbeats 4000000 in
theorem s_start (w : World) : Calls Try.prog 39 #[] w fun e w' => ∃ sb, e = .returned (.pointer (some ⟨sb, 0, none⟩)) ∧ Below w.heap.size w w' ∧ SRep w w' (fun k => w.heap.size ≤ k) sb stStart := by
  have hmm := @run_makeMap Try.prog
  have hms := make56
  go_enter Try.func39, Try.ntmps39
  go_wp2_with fail
  refine (s_built _).mono ?_
  rintro e wB ⟨A, c, rfl, hbB, hrB⟩
  have hS := start_rep w
  have hsz : ((((w.alloc (.cells #[.int .i64 0, .int .i64 0] 3)).alloc (.cells #[.int .i64 0, .string ByteArray.empty, .int .i64 0, .int .i64 0, .int .i64 0, .int .i64 0, .int .u64 0, .int .u64 0, .bool false, .string ByteArray.empty, .int .i64 0, .int .i64 0, .int .i64 0] 70)).alloc (.map #[] 0)).alloc
    (.cells #[.slice (some ⟨w.heap.size, 0, none⟩) 2 2, .slice (some ⟨w.heap.size + 1, 0, none⟩) 1 1, .map (some (w.heap.size + 1 + 1))] 103)).heap.size = w.heap.size + 4 := by simp
  have hbS : Below w.heap.size w ((((w.alloc (.cells #[.int .i64 0, .int .i64 0] 3)).alloc (.cells #[.int .i64 0, .string ByteArray.empty, .int .i64 0, .int .i64 0, .int .i64 0, .int .i64 0, .int .u64 0, .int .u64 0, .bool false, .string ByteArray.empty, .int .i64 0, .int .i64 0, .int .i64 0] 70)).alloc (.map #[] 0)).alloc
    (.cells #[.slice (some ⟨w.heap.size, 0, none⟩) 2 2, .slice (some ⟨w.heap.size + 1, 0, none⟩) 1 1, .map (some (w.heap.size + 1 + 1))] 103)) := ((((Below.refl _ _).alloc (Nat.le_refl _) _).alloc (by simp) _).alloc (by simp; omega) _).alloc (by simp; omega) _
  have hS2 := hS.below hbB
  rw [hsz] at hrB
  have hszB := hbB.size
  rw [hsz] at hszB
  have HB := Aside0.mk (below_then hbS hbS.size hbB)
  obtain ⟨m2, hm2⟩ : ∃ m2, m2 = wB.heap.size := ⟨_, rfl⟩
  obtain ⟨m1, hm1⟩ : ∃ m1, m1 = w.heap.size + 4 := ⟨_, rfl⟩
  have HS := Aside0.mk (hS2.mono (G := fun k => (w.heap.size ≤ k ∧ k < m1) ∨ m2 ≤ k) (fun k _ _ hk => .inl (by omega)))
  rw [← hm1] at hrB hszB
  have HR := Aside0.mk (Kd.R_mono (ok' := fun k => m1 ≤ k ∧ k < m2) (Kd.R_bound hrB) (fun k hk => ⟨hk.1, by rw [hm2]; exact hk.2.2.1⟩))
  have hM : m2 ≤ wB.heap.size := by omega
  have hM1 : w.heap.size ≤ m1 := by omega
  have hM2 : m1 ≤ m2 := by omega
  clear hS hS2 hsz hbS hbB hrB hszB hm2 hm1 hmm hms
  go_wp2_with fail
  go_loopg [11] 18 (fun g v w' => ∃ k : Nat, k + g = 18 ∧ v = .int .i64 (k : Int) ∧ Aside0 (SRep w w' (fun k => (w.heap.size ≤ k ∧ k < m1) ∨ m2 ≤ k) (w.heap.size + 1 + 1 + 1) (stk k)) ∧ Aside0 (Below w.heap.size w w') ∧ Aside0 (obk.R 70 w' m1 (fun k => m1 ≤ k ∧ k < m2) (.slice A 18 c) builtL) ∧ m2 ≤ w'.heap.size)
  case atStart => exact ⟨0, by omega, rfl, HS, HB, HR, hM⟩
  case round =>
    obtain ⟨k, hk, rfl, hS, hB, hR, hM'⟩ := hrel
    clear HS HB HR hM
    by_cases hlt : k < 18
    · obtain ⟨A2, c2, hv, _, hcell⟩ := ob_cell hR.out
      have hA : A = A2 := by injection hv
      subst hA
      clear hv
      obtain ⟨lb, rfl, _, _, y0, y1, y2, y3, y4, y5, y6, y7, y8, y9, y10, y11, y12⟩ := hcell k hlt
      have hall := List.all_eq_true.1 stk_free k (List.mem_range.2 hlt)
      simp only [Bool.and_eq_true, decide_eq_true_eq] at hall
      obtain ⟨⟨⟨⟨⟨a1, a2⟩, a3⟩, a4⟩, a5⟩, a6⟩ := hall
      have hsucc := stk_succ k hlt
      generalize builtL.getD k Ob.zero = o at y0 y1 y2 y3 y4 y5 y6 y7 y8 y9 y10 y11 y12 a1 a3 a4 a5 hsucc
      have hw := hB.out.size
      have HPUT := Aside0.mk (s_put_ok (hS.out.below ((Below.refl _ _).alloc (Nat.le_refl _) o.cells)) (by rw [World.size_alloc]; omega) 1 o ⟨a2, a3, a4⟩ a5 a1 a6)
      have HSUCC := Aside0.mk hsucc
      have k0 : (0 : Int) ≤ (k : Int) := by omega
      have k1 : (k : Int) < 18 := by omega
      unfold Ob.cells Ob.val at HPUT
      clear a1 a2 a3 a4 a5 a6 hcell hsucc
      go_wp2_with (go_at_call 26; refine HPUT.out.mono ?_; rintro e w6 ⟨rfl, hu6, hs6⟩; have HU6 := Aside0.mk hu6; have HS6 := Aside0.mk hs6; clear hu6 hs6)
      have hub : Below wr.heap.size wr (wr.alloc (.cells #[.int .i64 o.kind, .string o.name, .int .i64 o.typ, .int .i64 o.node, .int .i64 o.num, .int .i64 o.ck, .int .u64 o.hi, .int .u64 o.lo, .bool o.cb, .string o.cs, .int .i64 o.file, .int .i64 o.line, .int .i64 o.col] 70)) := (Below.refl _ _).alloc (Nat.le_refl _) _
      have hu := (Upd.of_below hub _).trans HU6.out (fun k hk => .inl hk)
      have hz := hu.size
      have hz2 := hub.size
      go_roundg (gk - 1)
      case measure => omega
      case rel =>
        refine ⟨k + 1, by omega, by go_num, ⟨?_⟩, ⟨hB.out.trans (hu.belowAt (fun k hk => ?_) hw)⟩, ⟨Kd.R_upd hR.out hu (fun k hk h => ?_)⟩, by omega⟩
        · rw [HSUCC.out]
          refine HS6.out.mono (fun k _ _ hk => ?_)
          rcases hk with hk | hk
          · exact hk
          · exact .inr (by omega)
        · omega
        · omega
    · obtain rfl : k = 18 := by omega
      have hfin := Aside0.mk (hS.out.mono (G := fun k => w.heap.size ≤ k) (fun k h _ _ => h))
      go_wp2_with fail
      go_ret
      exact ⟨_, rfl, hB.out, hfin.out⟩
end Go.Proofs.Ytnmahbpkaocjdaa
