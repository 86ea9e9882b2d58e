/-
  Scopes: what is built in. (Printed by wip/tools/mkJ.py.)
-/
import Derived.Test.YtnmahbpkaocjdaaScopeI
import Derived.LoopN
set_option linter.unusedVariables false
namespace Go.Proofs.Ytnmahbpkaocjdaa
open Go.RowKit Go.Proofs.YtnmahbpkaocjdaaW.PrintWords

def bo0 : Ob := ⟨3, { data := #[105, 110, 116] }, 1, 0, 0, 0, 0, 0, false, ByteArray.empty, 0, 0, 0⟩
def bo1 : Ob := ⟨3, { data := #[98, 111, 111, 108] }, 2, 0, 0, 0, 0, 0, false, ByteArray.empty, 0, 0, 0⟩
def bo2 : Ob := ⟨3, { data := #[115, 116, 114, 105, 110, 103] }, 3, 0, 0, 0, 0, 0, false, ByteArray.empty, 0, 0, 0⟩
def bo3 : Ob := ⟨3, { data := #[101, 114, 114, 111, 114] }, 4, 0, 0, 0, 0, 0, false, ByteArray.empty, 0, 0, 0⟩
def bo4 : Ob := ⟨9, { data := #[97, 110, 121] }, 0, 0, 0, 0, 0, 0, false, ByteArray.empty, 0, 0, 0⟩
def bo5 : Ob := ⟨9, { data := #[99, 111, 109, 112, 97, 114, 97, 98, 108, 101] }, 0, 0, 0, 0, 0, 0, false, ByteArray.empty, 0, 0, 0⟩
def bo6 : Ob := ⟨2, { data := #[116, 114, 117, 101] }, 7, 0, 0, 2, 0, 0, true, ByteArray.empty, 0, 0, 0⟩
def bo7 : Ob := ⟨2, { data := #[102, 97, 108, 115, 101] }, 7, 0, 0, 2, 0, 0, false, ByteArray.empty, 0, 0, 0⟩
def bo8 : Ob := ⟨7, { data := #[110, 105, 108] }, 5, 0, 0, 0, 0, 0, false, ByteArray.empty, 0, 0, 0⟩
def bo9 : Ob := ⟨6, { data := #[112, 114, 105, 110, 116] }, 0, 0, 1, 0, 0, 0, false, ByteArray.empty, 0, 0, 0⟩
def bo10 : Ob := ⟨6, { data := #[108, 101, 110] }, 0, 0, 2, 0, 0, 0, false, ByteArray.empty, 0, 0, 0⟩
def bo11 : Ob := ⟨6, { data := #[97, 112, 112, 101, 110, 100] }, 0, 0, 3, 0, 0, 0, false, ByteArray.empty, 0, 0, 0⟩
def bo12 : Ob := ⟨6, { data := #[109, 97, 107, 101] }, 0, 0, 4, 0, 0, 0, false, ByteArray.empty, 0, 0, 0⟩
def bo13 : Ob := ⟨6, { data := #[110, 101, 119] }, 0, 0, 5, 0, 0, 0, false, ByteArray.empty, 0, 0, 0⟩
def bo14 : Ob := ⟨6, { data := #[99, 108, 111, 115, 101] }, 0, 0, 6, 0, 0, 0, false, ByteArray.empty, 0, 0, 0⟩
def bo15 : Ob := ⟨6, { data := #[112, 97, 110, 105, 99] }, 0, 0, 7, 0, 0, 0, false, ByteArray.empty, 0, 0, 0⟩
def bo16 : Ob := ⟨6, { data := #[114, 101, 99, 111, 118, 101, 114] }, 0, 0, 8, 0, 0, 0, false, ByteArray.empty, 0, 0, 0⟩
def bo17 : Ob := ⟨6, { data := #[102, 97, 105, 108, 117, 114, 101] }, 0, 0, 9, 0, 0, 0, false, ByteArray.empty, 0, 0, 0⟩
theorem ix0 (W : World) : (Instr.index 107 (.agg #[.string { data := #[105, 110, 116] }, .string { data := #[98, 111, 111, 108] }, .string { data := #[115, 116, 114, 105, 110, 103] }, .string { data := #[101, 114, 114, 111, 114] }]) (.int .i64 0)).run Try.prog W = .ok (.string { data := #[105, 110, 116] }) W := by kernel_rfl
theorem ix1 (W : World) : (Instr.index 107 (.agg #[.string { data := #[105, 110, 116] }, .string { data := #[98, 111, 111, 108] }, .string { data := #[115, 116, 114, 105, 110, 103] }, .string { data := #[101, 114, 114, 111, 114] }]) (.int .i64 1)).run Try.prog W = .ok (.string { data := #[98, 111, 111, 108] }) W := by kernel_rfl
theorem ix2 (W : World) : (Instr.index 107 (.agg #[.string { data := #[105, 110, 116] }, .string { data := #[98, 111, 111, 108] }, .string { data := #[115, 116, 114, 105, 110, 103] }, .string { data := #[101, 114, 114, 111, 114] }]) (.int .i64 2)).run Try.prog W = .ok (.string { data := #[115, 116, 114, 105, 110, 103] }) W := by kernel_rfl
theorem ix3 (W : World) : (Instr.index 107 (.agg #[.string { data := #[105, 110, 116] }, .string { data := #[98, 111, 111, 108] }, .string { data := #[115, 116, 114, 105, 110, 103] }, .string { data := #[101, 114, 114, 111, 114] }]) (.int .i64 3)).run Try.prog W = .ok (.string { data := #[101, 114, 114, 111, 114] }) W := by kernel_rfl
theorem ix4 (W : World) : (Instr.index 109 (.agg #[.string { data := #[97, 110, 121] }, .string { data := #[99, 111, 109, 112, 97, 114, 97, 98, 108, 101] }]) (.int .i64 0)).run Try.prog W = .ok (.string { data := #[97, 110, 121] }) W := by kernel_rfl
theorem ix5 (W : World) : (Instr.index 109 (.agg #[.string { data := #[97, 110, 121] }, .string { data := #[99, 111, 109, 112, 97, 114, 97, 98, 108, 101] }]) (.int .i64 1)).run Try.prog W = .ok (.string { data := #[99, 111, 109, 112, 97, 114, 97, 98, 108, 101] }) W := by kernel_rfl
theorem ix6 (W : World) : (Instr.index 109 (.agg #[.string { data := #[116, 114, 117, 101] }, .string { data := #[102, 97, 108, 115, 101] }]) (.int .i64 0)).run Try.prog W = .ok (.string { data := #[116, 114, 117, 101] }) W := by kernel_rfl
theorem ix7 (W : World) : (Instr.index 109 (.agg #[.string { data := #[116, 114, 117, 101] }, .string { data := #[102, 97, 108, 115, 101] }]) (.int .i64 1)).run Try.prog W = .ok (.string { data := #[102, 97, 108, 115, 101] }) W := by kernel_rfl
theorem ix8 (W : World) : (Instr.index 108 (.agg #[.string { data := #[112, 114, 105, 110, 116] }, .string { data := #[108, 101, 110] }, .string { data := #[97, 112, 112, 101, 110, 100] }, .string { data := #[109, 97, 107, 101] }, .string { data := #[110, 101, 119] }, .string { data := #[99, 108, 111, 115, 101] }, .string { data := #[112, 97, 110, 105, 99] }, .string { data := #[114, 101, 99, 111, 118, 101, 114] }, .string { data := #[102, 97, 105, 108, 117, 114, 101] }]) (.int .i64 0)).run Try.prog W = .ok (.string { data := #[112, 114, 105, 110, 116] }) W := by kernel_rfl
theorem ix9 (W : World) : (Instr.index 108 (.agg #[.string { data := #[112, 114, 105, 110, 116] }, .string { data := #[108, 101, 110] }, .string { data := #[97, 112, 112, 101, 110, 100] }, .string { data := #[109, 97, 107, 101] }, .string { data := #[110, 101, 119] }, .string { data := #[99, 108, 111, 115, 101] }, .string { data := #[112, 97, 110, 105, 99] }, .string { data := #[114, 101, 99, 111, 118, 101, 114] }, .string { data := #[102, 97, 105, 108, 117, 114, 101] }]) (.int .i64 1)).run Try.prog W = .ok (.string { data := #[108, 101, 110] }) W := by kernel_rfl
theorem ix10 (W : World) : (Instr.index 108 (.agg #[.string { data := #[112, 114, 105, 110, 116] }, .string { data := #[108, 101, 110] }, .string { data := #[97, 112, 112, 101, 110, 100] }, .string { data := #[109, 97, 107, 101] }, .string { data := #[110, 101, 119] }, .string { data := #[99, 108, 111, 115, 101] }, .string { data := #[112, 97, 110, 105, 99] }, .string { data := #[114, 101, 99, 111, 118, 101, 114] }, .string { data := #[102, 97, 105, 108, 117, 114, 101] }]) (.int .i64 2)).run Try.prog W = .ok (.string { data := #[97, 112, 112, 101, 110, 100] }) W := by kernel_rfl
theorem ix11 (W : World) : (Instr.index 108 (.agg #[.string { data := #[112, 114, 105, 110, 116] }, .string { data := #[108, 101, 110] }, .string { data := #[97, 112, 112, 101, 110, 100] }, .string { data := #[109, 97, 107, 101] }, .string { data := #[110, 101, 119] }, .string { data := #[99, 108, 111, 115, 101] }, .string { data := #[112, 97, 110, 105, 99] }, .string { data := #[114, 101, 99, 111, 118, 101, 114] }, .string { data := #[102, 97, 105, 108, 117, 114, 101] }]) (.int .i64 3)).run Try.prog W = .ok (.string { data := #[109, 97, 107, 101] }) W := by kernel_rfl
theorem ix12 (W : World) : (Instr.index 108 (.agg #[.string { data := #[112, 114, 105, 110, 116] }, .string { data := #[108, 101, 110] }, .string { data := #[97, 112, 112, 101, 110, 100] }, .string { data := #[109, 97, 107, 101] }, .string { data := #[110, 101, 119] }, .string { data := #[99, 108, 111, 115, 101] }, .string { data := #[112, 97, 110, 105, 99] }, .string { data := #[114, 101, 99, 111, 118, 101, 114] }, .string { data := #[102, 97, 105, 108, 117, 114, 101] }]) (.int .i64 4)).run Try.prog W = .ok (.string { data := #[110, 101, 119] }) W := by kernel_rfl
theorem ix13 (W : World) : (Instr.index 108 (.agg #[.string { data := #[112, 114, 105, 110, 116] }, .string { data := #[108, 101, 110] }, .string { data := #[97, 112, 112, 101, 110, 100] }, .string { data := #[109, 97, 107, 101] }, .string { data := #[110, 101, 119] }, .string { data := #[99, 108, 111, 115, 101] }, .string { data := #[112, 97, 110, 105, 99] }, .string { data := #[114, 101, 99, 111, 118, 101, 114] }, .string { data := #[102, 97, 105, 108, 117, 114, 101] }]) (.int .i64 5)).run Try.prog W = .ok (.string { data := #[99, 108, 111, 115, 101] }) W := by kernel_rfl
theorem ix14 (W : World) : (Instr.index 108 (.agg #[.string { data := #[112, 114, 105, 110, 116] }, .string { data := #[108, 101, 110] }, .string { data := #[97, 112, 112, 101, 110, 100] }, .string { data := #[109, 97, 107, 101] }, .string { data := #[110, 101, 119] }, .string { data := #[99, 108, 111, 115, 101] }, .string { data := #[112, 97, 110, 105, 99] }, .string { data := #[114, 101, 99, 111, 118, 101, 114] }, .string { data := #[102, 97, 105, 108, 117, 114, 101] }]) (.int .i64 6)).run Try.prog W = .ok (.string { data := #[112, 97, 110, 105, 99] }) W := by kernel_rfl
theorem ix15 (W : World) : (Instr.index 108 (.agg #[.string { data := #[112, 114, 105, 110, 116] }, .string { data := #[108, 101, 110] }, .string { data := #[97, 112, 112, 101, 110, 100] }, .string { data := #[109, 97, 107, 101] }, .string { data := #[110, 101, 119] }, .string { data := #[99, 108, 111, 115, 101] }, .string { data := #[112, 97, 110, 105, 99] }, .string { data := #[114, 101, 99, 111, 118, 101, 114] }, .string { data := #[102, 97, 105, 108, 117, 114, 101] }]) (.int .i64 7)).run Try.prog W = .ok (.string { data := #[114, 101, 99, 111, 118, 101, 114] }) W := by kernel_rfl
theorem ix16 (W : World) : (Instr.index 108 (.agg #[.string { data := #[112, 114, 105, 110, 116] }, .string { data := #[108, 101, 110] }, .string { data := #[97, 112, 112, 101, 110, 100] }, .string { data := #[109, 97, 107, 101] }, .string { data := #[110, 101, 119] }, .string { data := #[99, 108, 111, 115, 101] }, .string { data := #[112, 97, 110, 105, 99] }, .string { data := #[114, 101, 99, 111, 118, 101, 114] }, .string { data := #[102, 97, 105, 108, 117, 114, 101] }]) (.int .i64 8)).run Try.prog W = .ok (.string { data := #[102, 97, 105, 108, 117, 114, 101] }) W := by kernel_rfl
def builtL : List Ob := [bo0, bo1, bo2, bo3, bo4, bo5, bo6, bo7, bo8, bo9, bo10, bo11, bo12, bo13, bo14, bo15, bo16, bo17]

set_option maxRecDepth 100000 in
set_option maxHeartbeats 4000000 in
theorem s_built (w : World) : Calls Try.prog 48 #[] w fun e w' => ∃ A c, e = .returned (.slice A 18 c) ∧ Below w.heap.size w w' ∧ obk.R 70 w' w.heap.size (fun k => w.heap.size ≤ k) (.slice A 18 c) builtL := by
  have HPS := Aside0.mk (show 0 < obk.sz by show 0 < 13; omega)
  have HB0 := Aside0.mk (Below.refl w.heap.size w)
  have HR0 := Aside0.mk (Kd.R_nil obk 70 w w.heap.size (fun k => w.heap.size ≤ k))
  have hix0 := ix0
  have hix1 := ix1
  have hix2 := ix2
  have hix3 := ix3
  have hix4 := ix4
  have hix5 := ix5
  have hix6 := ix6
  have hix7 := ix7
  have hix8 := ix8
  have hix9 := ix9
  have hix10 := ix10
  have hix11 := ix11
  have hix12 := ix12
  have hix13 := ix13
  have hix14 := ix14
  have hix15 := ix15
  have hix16 := ix16
  go_enter Try.func48, Try.ntmps48
  go_wp2_with fail
  refine wp_loop_rounds 5 ?_
  rw [rounds_succ]
  go_wp2_with (at_builtin; refine Stand.stop ?_)
  refine Stand.go ?_
  refine Kd.R_append obk (w0 := w) (W := w) w.heap.size rfl (.tmp 14) (.tmp 19) 56 70 Ob.zero.val 120 rfl Try.underlying56 info70 rfl HPS.out (by decide) (.slice none 0 0) [] bo0 bo0.enc (fun k => w.heap.size ≤ k) (fun _ => False) (by rfl) (by rfl) rfl (fun _ hj => hj.elim) (fun j hj => Nat.le_trans HB0.out.size hj) HR0.out HB0.out HB0.out.size (by decide) ?_
  intro v1 w1 hr hb hg hat
  obtain ⟨A1, c1, hv⟩ := Kd.R_slice hr
  have hv2 : v1 = .slice A1 1 c1 := hv
  subst hv2
  have HR1 : Aside0 (obk.R 70 w1 w.heap.size (fun k => w.heap.size ≤ k) (.slice A1 1 c1) [bo0]) := ⟨hr⟩
  have HB1 := Aside0.mk hb
  clear hr hb hg hat hv HR0 HB0
  go_wp2_with fail
  rw [rounds_succ]
  go_wp2_with (at_builtin; refine Stand.stop ?_)
  refine Stand.go ?_
  refine Kd.R_append obk (w0 := w) (W := w1) w.heap.size rfl (.tmp 14) (.tmp 19) 56 70 Ob.zero.val 120 rfl Try.underlying56 info70 rfl HPS.out (by decide) (.slice A1 1 c1) [bo0] bo1 bo1.enc (fun k => w.heap.size ≤ k) (fun _ => False) (by rfl) (by rfl) rfl (fun _ hj => hj.elim) (fun j hj => Nat.le_trans HB1.out.size hj) HR1.out HB1.out HB1.out.size (by decide) ?_
  intro v2 w2 hr hb hg hat
  obtain ⟨A2, c2, hv⟩ := Kd.R_slice hr
  have hv2 : v2 = .slice A2 2 c2 := hv
  subst hv2
  have HR2 : Aside0 (obk.R 70 w2 w.heap.size (fun k => w.heap.size ≤ k) (.slice A2 2 c2) [bo0, bo1]) := ⟨hr⟩
  have HB2 := Aside0.mk hb
  clear hr hb hg hat hv HR1 HB1
  go_wp2_with fail
  rw [rounds_succ]
  go_wp2_with (at_builtin; refine Stand.stop ?_)
  refine Stand.go ?_
  refine Kd.R_append obk (w0 := w) (W := w2) w.heap.size rfl (.tmp 14) (.tmp 19) 56 70 Ob.zero.val 120 rfl Try.underlying56 info70 rfl HPS.out (by decide) (.slice A2 2 c2) [bo0, bo1] bo2 bo2.enc (fun k => w.heap.size ≤ k) (fun _ => False) (by rfl) (by rfl) rfl (fun _ hj => hj.elim) (fun j hj => Nat.le_trans HB2.out.size hj) HR2.out HB2.out HB2.out.size (by decide) ?_
  intro v3 w3 hr hb hg hat
  obtain ⟨A3, c3, hv⟩ := Kd.R_slice hr
  have hv2 : v3 = .slice A3 3 c3 := hv
  subst hv2
  have HR3 : Aside0 (obk.R 70 w3 w.heap.size (fun k => w.heap.size ≤ k) (.slice A3 3 c3) [bo0, bo1, bo2]) := ⟨hr⟩
  have HB3 := Aside0.mk hb
  clear hr hb hg hat hv HR2 HB2
  go_wp2_with fail
  rw [rounds_succ]
  go_wp2_with (at_builtin; refine Stand.stop ?_)
  refine Stand.go ?_
  refine Kd.R_append obk (w0 := w) (W := w3) w.heap.size rfl (.tmp 14) (.tmp 19) 56 70 Ob.zero.val 120 rfl Try.underlying56 info70 rfl HPS.out (by decide) (.slice A3 3 c3) [bo0, bo1, bo2] bo3 bo3.enc (fun k => w.heap.size ≤ k) (fun _ => False) (by rfl) (by rfl) rfl (fun _ hj => hj.elim) (fun j hj => Nat.le_trans HB3.out.size hj) HR3.out HB3.out HB3.out.size (by decide) ?_
  intro v4 w4 hr hb hg hat
  obtain ⟨A4, c4, hv⟩ := Kd.R_slice hr
  have hv2 : v4 = .slice A4 4 c4 := hv
  subst hv2
  have HR4 : Aside0 (obk.R 70 w4 w.heap.size (fun k => w.heap.size ≤ k) (.slice A4 4 c4) [bo0, bo1, bo2, bo3]) := ⟨hr⟩
  have HB4 := Aside0.mk hb
  clear hr hb hg hat hv HR3 HB3
  go_wp2_with fail
  rw [rounds_succ]
  go_wp2_with fail
  refine wp_loop_rounds 3 ?_
  rw [rounds_succ]
  go_wp2_with (at_builtin; refine Stand.stop ?_)
  refine Stand.go ?_
  refine Kd.R_append obk (w0 := w) (W := w4) w.heap.size rfl (.tmp 26) (.tmp 29) 56 70 Ob.zero.val 120 rfl Try.underlying56 info70 rfl HPS.out (by decide) (.slice A4 4 c4) [bo0, bo1, bo2, bo3] bo4 bo4.enc (fun k => w.heap.size ≤ k) (fun _ => False) (by rfl) (by rfl) rfl (fun _ hj => hj.elim) (fun j hj => Nat.le_trans HB4.out.size hj) HR4.out HB4.out HB4.out.size (by decide) ?_
  intro v5 w5 hr hb hg hat
  obtain ⟨A5, c5, hv⟩ := Kd.R_slice hr
  have hv2 : v5 = .slice A5 5 c5 := hv
  subst hv2
  have HR5 : Aside0 (obk.R 70 w5 w.heap.size (fun k => w.heap.size ≤ k) (.slice A5 5 c5) [bo0, bo1, bo2, bo3, bo4]) := ⟨hr⟩
  have HB5 := Aside0.mk hb
  clear hr hb hg hat hv HR4 HB4
  go_wp2_with fail
  rw [rounds_succ]
  go_wp2_with (at_builtin; refine Stand.stop ?_)
  refine Stand.go ?_
  refine Kd.R_append obk (w0 := w) (W := w5) w.heap.size rfl (.tmp 26) (.tmp 29) 56 70 Ob.zero.val 120 rfl Try.underlying56 info70 rfl HPS.out (by decide) (.slice A5 5 c5) [bo0, bo1, bo2, bo3, bo4] bo5 bo5.enc (fun k => w.heap.size ≤ k) (fun _ => False) (by rfl) (by rfl) rfl (fun _ hj => hj.elim) (fun j hj => Nat.le_trans HB5.out.size hj) HR5.out HB5.out HB5.out.size (by decide) ?_
  intro v6 w6 hr hb hg hat
  obtain ⟨A6, c6, hv⟩ := Kd.R_slice hr
  have hv2 : v6 = .slice A6 6 c6 := hv
  subst hv2
  have HR6 : Aside0 (obk.R 70 w6 w.heap.size (fun k => w.heap.size ≤ k) (.slice A6 6 c6) [bo0, bo1, bo2, bo3, bo4, bo5]) := ⟨hr⟩
  have HB6 := Aside0.mk hb
  clear hr hb hg hat hv HR5 HB5
  go_wp2_with fail
  rw [rounds_succ]
  go_wp2_with fail
  refine wp_loop_rounds 3 ?_
  rw [rounds_succ]
  go_wp2_with (at_builtin; refine Stand.stop ?_)
  refine Stand.go ?_
  refine Kd.R_append obk (w0 := w) (W := w6) w.heap.size rfl (.tmp 36) (.tmp 42) 56 70 Ob.zero.val 120 rfl Try.underlying56 info70 rfl HPS.out (by decide) (.slice A6 6 c6) [bo0, bo1, bo2, bo3, bo4, bo5] bo6 bo6.enc (fun k => w.heap.size ≤ k) (fun _ => False) (by rfl) (by rfl) rfl (fun _ hj => hj.elim) (fun j hj => Nat.le_trans HB6.out.size hj) HR6.out HB6.out HB6.out.size (by decide) ?_
  intro v7 w7 hr hb hg hat
  obtain ⟨A7, c7, hv⟩ := Kd.R_slice hr
  have hv2 : v7 = .slice A7 7 c7 := hv
  subst hv2
  have HR7 : Aside0 (obk.R 70 w7 w.heap.size (fun k => w.heap.size ≤ k) (.slice A7 7 c7) [bo0, bo1, bo2, bo3, bo4, bo5, bo6]) := ⟨hr⟩
  have HB7 := Aside0.mk hb
  clear hr hb hg hat hv HR6 HB6
  go_wp2_with fail
  rw [rounds_succ]
  go_wp2_with (at_builtin; refine Stand.stop ?_)
  refine Stand.go ?_
  refine Kd.R_append obk (w0 := w) (W := w7) w.heap.size rfl (.tmp 36) (.tmp 42) 56 70 Ob.zero.val 120 rfl Try.underlying56 info70 rfl HPS.out (by decide) (.slice A7 7 c7) [bo0, bo1, bo2, bo3, bo4, bo5, bo6] bo7 bo7.enc (fun k => w.heap.size ≤ k) (fun _ => False) (by rfl) (by rfl) rfl (fun _ hj => hj.elim) (fun j hj => Nat.le_trans HB7.out.size hj) HR7.out HB7.out HB7.out.size (by decide) ?_
  intro v8 w8 hr hb hg hat
  obtain ⟨A8, c8, hv⟩ := Kd.R_slice hr
  have hv2 : v8 = .slice A8 8 c8 := hv
  subst hv2
  have HR8 : Aside0 (obk.R 70 w8 w.heap.size (fun k => w.heap.size ≤ k) (.slice A8 8 c8) [bo0, bo1, bo2, bo3, bo4, bo5, bo6, bo7]) := ⟨hr⟩
  have HB8 := Aside0.mk hb
  clear hr hb hg hat hv HR7 HB7
  go_wp2_with fail
  rw [rounds_succ]
  go_wp2_with (at_builtin; refine Stand.stop ?_)
  refine Stand.go ?_
  refine Kd.R_append obk (w0 := w) (W := w8) w.heap.size rfl (.tmp 45) (.tmp 47) 56 70 Ob.zero.val 120 rfl Try.underlying56 info70 rfl HPS.out (by decide) (.slice A8 8 c8) [bo0, bo1, bo2, bo3, bo4, bo5, bo6, bo7] bo8 bo8.enc (fun k => w.heap.size ≤ k) (fun _ => False) (by rfl) (by rfl) rfl (fun _ hj => hj.elim) (fun j hj => Nat.le_trans HB8.out.size hj) HR8.out HB8.out HB8.out.size (by decide) ?_
  intro v9 w9 hr hb hg hat
  obtain ⟨A9, c9, hv⟩ := Kd.R_slice hr
  have hv2 : v9 = .slice A9 9 c9 := hv
  subst hv2
  have HR9 : Aside0 (obk.R 70 w9 w.heap.size (fun k => w.heap.size ≤ k) (.slice A9 9 c9) [bo0, bo1, bo2, bo3, bo4, bo5, bo6, bo7, bo8]) := ⟨hr⟩
  have HB9 := Aside0.mk hb
  clear hr hb hg hat hv HR8 HB8
  go_wp2_with fail
  refine wp_loop_rounds 10 ?_
  rw [rounds_succ]
  go_wp2_with (at_builtin; refine Stand.stop ?_)
  refine Stand.go ?_
  refine Kd.R_append obk (w0 := w) (W := w9) w.heap.size rfl (.tmp 54) (.tmp 59) 56 70 Ob.zero.val 120 rfl Try.underlying56 info70 rfl HPS.out (by decide) (.slice A9 9 c9) [bo0, bo1, bo2, bo3, bo4, bo5, bo6, bo7, bo8] bo9 bo9.enc (fun k => w.heap.size ≤ k) (fun _ => False) (by rfl) (by rfl) rfl (fun _ hj => hj.elim) (fun j hj => Nat.le_trans HB9.out.size hj) HR9.out HB9.out HB9.out.size (by decide) ?_
  intro v10 w10 hr hb hg hat
  obtain ⟨A10, c10, hv⟩ := Kd.R_slice hr
  have hv2 : v10 = .slice A10 10 c10 := hv
  subst hv2
  have HR10 : Aside0 (obk.R 70 w10 w.heap.size (fun k => w.heap.size ≤ k) (.slice A10 10 c10) [bo0, bo1, bo2, bo3, bo4, bo5, bo6, bo7, bo8, bo9]) := ⟨hr⟩
  have HB10 := Aside0.mk hb
  clear hr hb hg hat hv HR9 HB9
  go_wp2_with fail
  rw [rounds_succ]
  go_wp2_with (at_builtin; refine Stand.stop ?_)
  refine Stand.go ?_
  refine Kd.R_append obk (w0 := w) (W := w10) w.heap.size rfl (.tmp 54) (.tmp 59) 56 70 Ob.zero.val 120 rfl Try.underlying56 info70 rfl HPS.out (by decide) (.slice A10 10 c10) [bo0, bo1, bo2, bo3, bo4, bo5, bo6, bo7, bo8, bo9] bo10 bo10.enc (fun k => w.heap.size ≤ k) (fun _ => False) (by rfl) (by rfl) rfl (fun _ hj => hj.elim) (fun j hj => Nat.le_trans HB10.out.size hj) HR10.out HB10.out HB10.out.size (by decide) ?_
  intro v11 w11 hr hb hg hat
  obtain ⟨A11, c11, hv⟩ := Kd.R_slice hr
  have hv2 : v11 = .slice A11 11 c11 := hv
  subst hv2
  have HR11 : Aside0 (obk.R 70 w11 w.heap.size (fun k => w.heap.size ≤ k) (.slice A11 11 c11) [bo0, bo1, bo2, bo3, bo4, bo5, bo6, bo7, bo8, bo9, bo10]) := ⟨hr⟩
  have HB11 := Aside0.mk hb
  clear hr hb hg hat hv HR10 HB10
  go_wp2_with fail
  rw [rounds_succ]
  go_wp2_with (at_builtin; refine Stand.stop ?_)
  refine Stand.go ?_
  refine Kd.R_append obk (w0 := w) (W := w11) w.heap.size rfl (.tmp 54) (.tmp 59) 56 70 Ob.zero.val 120 rfl Try.underlying56 info70 rfl HPS.out (by decide) (.slice A11 11 c11) [bo0, bo1, bo2, bo3, bo4, bo5, bo6, bo7, bo8, bo9, bo10] bo11 bo11.enc (fun k => w.heap.size ≤ k) (fun _ => False) (by rfl) (by rfl) rfl (fun _ hj => hj.elim) (fun j hj => Nat.le_trans HB11.out.size hj) HR11.out HB11.out HB11.out.size (by decide) ?_
  intro v12 w12 hr hb hg hat
  obtain ⟨A12, c12, hv⟩ := Kd.R_slice hr
  have hv2 : v12 = .slice A12 12 c12 := hv
  subst hv2
  have HR12 : Aside0 (obk.R 70 w12 w.heap.size (fun k => w.heap.size ≤ k) (.slice A12 12 c12) [bo0, bo1, bo2, bo3, bo4, bo5, bo6, bo7, bo8, bo9, bo10, bo11]) := ⟨hr⟩
  have HB12 := Aside0.mk hb
  clear hr hb hg hat hv HR11 HB11
  go_wp2_with fail
  rw [rounds_succ]
  go_wp2_with (at_builtin; refine Stand.stop ?_)
  refine Stand.go ?_
  refine Kd.R_append obk (w0 := w) (W := w12) w.heap.size rfl (.tmp 54) (.tmp 59) 56 70 Ob.zero.val 120 rfl Try.underlying56 info70 rfl HPS.out (by decide) (.slice A12 12 c12) [bo0, bo1, bo2, bo3, bo4, bo5, bo6, bo7, bo8, bo9, bo10, bo11] bo12 bo12.enc (fun k => w.heap.size ≤ k) (fun _ => False) (by rfl) (by rfl) rfl (fun _ hj => hj.elim) (fun j hj => Nat.le_trans HB12.out.size hj) HR12.out HB12.out HB12.out.size (by decide) ?_
  intro v13 w13 hr hb hg hat
  obtain ⟨A13, c13, hv⟩ := Kd.R_slice hr
  have hv2 : v13 = .slice A13 13 c13 := hv
  subst hv2
  have HR13 : Aside0 (obk.R 70 w13 w.heap.size (fun k => w.heap.size ≤ k) (.slice A13 13 c13) [bo0, bo1, bo2, bo3, bo4, bo5, bo6, bo7, bo8, bo9, bo10, bo11, bo12]) := ⟨hr⟩
  have HB13 := Aside0.mk hb
  clear hr hb hg hat hv HR12 HB12
  go_wp2_with fail
  rw [rounds_succ]
  go_wp2_with (at_builtin; refine Stand.stop ?_)
  refine Stand.go ?_
  refine Kd.R_append obk (w0 := w) (W := w13) w.heap.size rfl (.tmp 54) (.tmp 59) 56 70 Ob.zero.val 120 rfl Try.underlying56 info70 rfl HPS.out (by decide) (.slice A13 13 c13) [bo0, bo1, bo2, bo3, bo4, bo5, bo6, bo7, bo8, bo9, bo10, bo11, bo12] bo13 bo13.enc (fun k => w.heap.size ≤ k) (fun _ => False) (by rfl) (by rfl) rfl (fun _ hj => hj.elim) (fun j hj => Nat.le_trans HB13.out.size hj) HR13.out HB13.out HB13.out.size (by decide) ?_
  intro v14 w14 hr hb hg hat
  obtain ⟨A14, c14, hv⟩ := Kd.R_slice hr
  have hv2 : v14 = .slice A14 14 c14 := hv
  subst hv2
  have HR14 : Aside0 (obk.R 70 w14 w.heap.size (fun k => w.heap.size ≤ k) (.slice A14 14 c14) [bo0, bo1, bo2, bo3, bo4, bo5, bo6, bo7, bo8, bo9, bo10, bo11, bo12, bo13]) := ⟨hr⟩
  have HB14 := Aside0.mk hb
  clear hr hb hg hat hv HR13 HB13
  go_wp2_with fail
  rw [rounds_succ]
  go_wp2_with (at_builtin; refine Stand.stop ?_)
  refine Stand.go ?_
  refine Kd.R_append obk (w0 := w) (W := w14) w.heap.size rfl (.tmp 54) (.tmp 59) 56 70 Ob.zero.val 120 rfl Try.underlying56 info70 rfl HPS.out (by decide) (.slice A14 14 c14) [bo0, bo1, bo2, bo3, bo4, bo5, bo6, bo7, bo8, bo9, bo10, bo11, bo12, bo13] bo14 bo14.enc (fun k => w.heap.size ≤ k) (fun _ => False) (by rfl) (by rfl) rfl (fun _ hj => hj.elim) (fun j hj => Nat.le_trans HB14.out.size hj) HR14.out HB14.out HB14.out.size (by decide) ?_
  intro v15 w15 hr hb hg hat
  obtain ⟨A15, c15, hv⟩ := Kd.R_slice hr
  have hv2 : v15 = .slice A15 15 c15 := hv
  subst hv2
  have HR15 : Aside0 (obk.R 70 w15 w.heap.size (fun k => w.heap.size ≤ k) (.slice A15 15 c15) [bo0, bo1, bo2, bo3, bo4, bo5, bo6, bo7, bo8, bo9, bo10, bo11, bo12, bo13, bo14]) := ⟨hr⟩
  have HB15 := Aside0.mk hb
  clear hr hb hg hat hv HR14 HB14
  go_wp2_with fail
  rw [rounds_succ]
  go_wp2_with (at_builtin; refine Stand.stop ?_)
  refine Stand.go ?_
  refine Kd.R_append obk (w0 := w) (W := w15) w.heap.size rfl (.tmp 54) (.tmp 59) 56 70 Ob.zero.val 120 rfl Try.underlying56 info70 rfl HPS.out (by decide) (.slice A15 15 c15) [bo0, bo1, bo2, bo3, bo4, bo5, bo6, bo7, bo8, bo9, bo10, bo11, bo12, bo13, bo14] bo15 bo15.enc (fun k => w.heap.size ≤ k) (fun _ => False) (by rfl) (by rfl) rfl (fun _ hj => hj.elim) (fun j hj => Nat.le_trans HB15.out.size hj) HR15.out HB15.out HB15.out.size (by decide) ?_
  intro v16 w16 hr hb hg hat
  obtain ⟨A16, c16, hv⟩ := Kd.R_slice hr
  have hv2 : v16 = .slice A16 16 c16 := hv
  subst hv2
  have HR16 : Aside0 (obk.R 70 w16 w.heap.size (fun k => w.heap.size ≤ k) (.slice A16 16 c16) [bo0, bo1, bo2, bo3, bo4, bo5, bo6, bo7, bo8, bo9, bo10, bo11, bo12, bo13, bo14, bo15]) := ⟨hr⟩
  have HB16 := Aside0.mk hb
  clear hr hb hg hat hv HR15 HB15
  go_wp2_with fail
  rw [rounds_succ]
  go_wp2_with (at_builtin; refine Stand.stop ?_)
  refine Stand.go ?_
  refine Kd.R_append obk (w0 := w) (W := w16) w.heap.size rfl (.tmp 54) (.tmp 59) 56 70 Ob.zero.val 120 rfl Try.underlying56 info70 rfl HPS.out (by decide) (.slice A16 16 c16) [bo0, bo1, bo2, bo3, bo4, bo5, bo6, bo7, bo8, bo9, bo10, bo11, bo12, bo13, bo14, bo15] bo16 bo16.enc (fun k => w.heap.size ≤ k) (fun _ => False) (by rfl) (by rfl) rfl (fun _ hj => hj.elim) (fun j hj => Nat.le_trans HB16.out.size hj) HR16.out HB16.out HB16.out.size (by decide) ?_
  intro v17 w17 hr hb hg hat
  obtain ⟨A17, c17, hv⟩ := Kd.R_slice hr
  have hv2 : v17 = .slice A17 17 c17 := hv
  subst hv2
  have HR17 : Aside0 (obk.R 70 w17 w.heap.size (fun k => w.heap.size ≤ k) (.slice A17 17 c17) [bo0, bo1, bo2, bo3, bo4, bo5, bo6, bo7, bo8, bo9, bo10, bo11, bo12, bo13, bo14, bo15, bo16]) := ⟨hr⟩
  have HB17 := Aside0.mk hb
  clear hr hb hg hat hv HR16 HB16
  go_wp2_with fail
  rw [rounds_succ]
  go_wp2_with (at_builtin; refine Stand.stop ?_)
  refine Stand.go ?_
  refine Kd.R_append obk (w0 := w) (W := w17) w.heap.size rfl (.tmp 54) (.tmp 59) 56 70 Ob.zero.val 120 rfl Try.underlying56 info70 rfl HPS.out (by decide) (.slice A17 17 c17) [bo0, bo1, bo2, bo3, bo4, bo5, bo6, bo7, bo8, bo9, bo10, bo11, bo12, bo13, bo14, bo15, bo16] bo17 bo17.enc (fun k => w.heap.size ≤ k) (fun _ => False) (by rfl) (by rfl) rfl (fun _ hj => hj.elim) (fun j hj => Nat.le_trans HB17.out.size hj) HR17.out HB17.out HB17.out.size (by decide) ?_
  intro v18 w18 hr hb hg hat
  obtain ⟨A18, c18, hv⟩ := Kd.R_slice hr
  have hv2 : v18 = .slice A18 18 c18 := hv
  subst hv2
  have HR18 : Aside0 (obk.R 70 w18 w.heap.size (fun k => w.heap.size ≤ k) (.slice A18 18 c18) [bo0, bo1, bo2, bo3, bo4, bo5, bo6, bo7, bo8, bo9, bo10, bo11, bo12, bo13, bo14, bo15, bo16, bo17]) := ⟨hr⟩
  have HB18 := Aside0.mk hb
  clear hr hb hg hat hv HR17 HB17
  go_wp2_with fail
  rw [rounds_succ]
  go_wp2_with fail
  go_ret
  exact ⟨A18, c18, rfl, HB18.out, HR18.out⟩
end Go.Proofs.Ytnmahbpkaocjdaa
