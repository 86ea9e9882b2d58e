/-
  'awake' of the laws on scopes: it returns true.
-/
import Derived.Test.YtnmahbpkaocjdaaScopeU
set_option linter.unusedVariables false
namespace Go.Proofs.Ytnmahbpkaocjdaa
open Go.RowKit Go.Proofs.YtnmahbpkaocjdaaW.PrintWords

def intN : ByteArray := { data := #[105, 110, 116] }
def oInt : Ob := ⟨1, intN, 0, 0, 0, 0, 0, 0, false, ByteArray.empty, 0, 0, 0⟩
def stA1 : St := stStart.open_ 1
def stA2 : St := stA1.put 2 oInt
theorem awk_facts : (stStart.has 1 = true ∧ stStart.outer.length = 2) ∧ stA1.Find 2 intN = (1, 1) ∧ stA1.has 2 = true ∧ stA1.here 2 intN = 0 ∧ stA1.objs.length = 19 ∧ stA2.Find 2 intN = (19, 2) ∧ stA2.objs.length = 20 := by
  refine ⟨⟨?_, ?_⟩, ?_, ?_, ?_, ?_, ?_, ?_⟩ <;> kernel_rfl
theorem awk_obs : stA2.holds 9 = true ∧ stA2.holds 18 = true ∧ (stA2.ob 9).kind = 7 ∧ (stA2.ob 18).num = 9 := by
  refine ⟨?_, ?_, ?_, ?_⟩ <;> kernel_rfl

theorem fd0 (k : Int) (s : ByteArray) (t n m c h l : Int) (b : Bool) (cs : ByteArray) (f li co : Int) (W : World) : (Instr.field 70 (.agg #[.int .i64 k, .string s, .int .i64 t, .int .i64 n, .int .i64 m, .int .i64 c, .int .u64 h, .int .u64 l, .bool b, .string cs, .int .i64 f, .int .i64 li, .int .i64 co]) 0).run Try.prog W = .ok (.int .i64 k) W := by kernel_rfl
theorem fd4 (k : Int) (s : ByteArray) (t n m c h l : Int) (b : Bool) (cs : ByteArray) (f li co : Int) (W : World) : (Instr.field 70 (.agg #[.int .i64 k, .string s, .int .i64 t, .int .i64 n, .int .i64 m, .int .i64 c, .int .u64 h, .int .u64 l, .bool b, .string cs, .int .i64 f, .int .i64 li, .int .i64 co]) 4).run Try.prog W = .ok (.int .i64 m) W := by kernel_rfl

set_option maxRecDepth 100000 in
set_option maxHeartbeats 4000000 in
theorem awake07 (w : World) : Calls Try.prog 23 #[] w fun e w' => e = .returned (.bool true) ∧ Below w.heap.size w w' := by
  obtain ⟨⟨a1, a2⟩, a3, a4, a5, a6, a7, a8⟩ := awk_facts
  obtain ⟨b1, b2, b3, b4⟩ := awk_obs
  have A := Aside0.mk awk_facts
  have B := Aside0.mk awk_obs
  clear a1 a2 a3 a4 a5 a6 a7 a8 b1 b2 b3 b4
  have hfd0 := fd0
  have hfd4 := fd4
  go_enter Try.func23, Try.ntmps23
  go_wp2_with (go_at_call 39; refine Stand.stop ?_)
  refine Stand.go ?_
  refine (s_start w).mono ?_
  rintro e w1 ⟨sb, rfl, hb1, hs1⟩
  have HB1 := Aside0.mk hb1
  have HS1 := Aside0.mk hs1
  clear hs1 hb1
  go_wp2_with (go_at_call 35; refine Stand.stop ?_)
  refine Stand.go ?_
  have hop := s_open_t HS1.out HB1.out.size 1 A.out.1.1 (by rw [A.out.1.2]; decide)
  rw [A.out.1.2] at hop
  refine hop.mono ?_
  rintro e w2 ⟨rfl, hu2, hs2⟩
  have HS2 : Aside0 (SRep w w2 (fun k => w.heap.size ≤ k) sb stA1) := ⟨hs2.mono (fun k h _ _ => h)⟩
  have HB2 := Aside0.mk (HB1.out.trans (hu2.belowAt (fun k hk => hk) HB1.out.size))
  have hf1 := s_find HS2.out 2 intN (by decide)
  rw [A.out.2.1] at hf1
  have HF1 := Aside0.mk hf1
  have hp := s_put_ok HS2.out HB2.out.size 2 oInt ⟨A.out.2.2.1, by decide, by decide⟩ (by decide) A.out.2.2.2.1 (by rw [A.out.2.2.2.2.1]; decide)
  rw [A.out.2.2.2.2.1] at hp
  unfold Ob.val oInt intN at hp
  unfold intN at HF1
  have HP := Aside0.mk hp
  clear hop hu2 hs2 hf1 hp
  go_wp2_with (first
    | (go_at_call 25; refine HF1.out.mono ?_; rintro e w' ⟨rfl, rfl⟩)
    | (go_at_call 26; refine Stand.stop ?_))
  refine Stand.go ?_
  refine HP.out.mono ?_
  rintro e w3 ⟨rfl, hu3, hs3⟩
  have HS3 : Aside0 (SRep w w3 (fun k => w.heap.size ≤ k) sb stA2) := ⟨hs3.mono (fun k h _ _ => h)⟩
  have HB3 := Aside0.mk (HB2.out.trans (hu3.belowAt (fun k hk => hk) HB2.out.size))
  have hf2 := s_find HS3.out 2 intN (by decide)
  rw [A.out.2.2.2.2.2.1] at hf2
  unfold intN at hf2
  have HF2 := Aside0.mk hf2
  have hl := s_len HS3.out
  rw [A.out.2.2.2.2.2.2] at hl
  have HL := Aside0.mk hl
  have ho9 := s_object_t HS3.out 9 B.out.1
  unfold Ob.val at ho9
  rw [B.out.2.2.1] at ho9
  have HO9 := Aside0.mk ho9
  clear hu3 hs3 hf2 hl ho9 HF1
  go_wp2_with (first
    | (go_at_call 25; refine HF2.out.mono ?_; rintro e w' ⟨rfl, rfl⟩)
    | (go_at_call 28; refine HL.out.mono ?_; rintro e w' ⟨rfl, rfl⟩)
    | (go_at_call 29; refine Stand.stop ?_))
  refine Stand.go ?_
  refine HO9.out.mono ?_
  rintro e w4 ⟨rfl, hb4⟩
  have ho18 := s_object_t (HS3.out.below hb4) 18 B.out.2.1
  unfold Ob.val at ho18
  rw [B.out.2.2.2] at ho18
  have HO18 := Aside0.mk ho18
  have HB4 := Aside0.mk (below_then HB3.out HB3.out.size hb4)
  clear ho18 hb4
  go_wp2_with (go_at_call 29; refine Stand.stop ?_)
  refine Stand.go ?_
  refine HO18.out.mono ?_
  rintro e w5 ⟨rfl, hb5⟩
  have HB5 := Aside0.mk (below_then HB4.out HB4.out.size hb5)
  clear hb5
  go_wp2_with fail
  go_ret
  exact ⟨rfl, HB5.out⟩
end Go.Proofs.Ytnmahbpkaocjdaa
