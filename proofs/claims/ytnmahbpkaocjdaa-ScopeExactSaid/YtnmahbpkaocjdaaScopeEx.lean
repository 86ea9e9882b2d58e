/-
  ScopeExact: the walk.
-/
import Derived.Test.YtnmahbpkaocjdaaScopeZ
set_option linter.unusedVariables false
namespace Go.Proofs.Ytnmahbpkaocjdaa
open Go.RowKit Go.Proofs.YtnmahbpkaocjdaaW.PrintWords

theorem string_cells {w : World} {A : Option Addr} {n : Nat} {L : List ByteArray} (h : Kd.string.C w A n L) (hn : 0 < n) :
    ∃ b o, A = some ⟨b, o, none⟩ ∧ ∀ k : Nat, k < n → w.cell? ⟨b, o + k, none⟩ = some (.string (L.getD k ByteArray.empty)) := by
  obtain ⟨ad, hA, h0⟩ := Kd.at_string h 0 (by omega) (by omega)
  have hsp : ad.spot = none := by
    obtain ⟨b, o, s⟩ := ad
    cases s with
    | none => rfl
    | some s => simp [Addr.add, World.cell?] at h0; split at h0 <;> simp at h0
  obtain ⟨b, o, s⟩ := ad
  subst hsp
  refine ⟨b, o, hA, fun k hk => ?_⟩
  obtain ⟨ad2, hA2, hc⟩ := Kd.at_string h (k : Int) (by omega) (by omega)
  rw [hA] at hA2
  injection hA2 with hA2
  subst hA2
  rw [add_at, Int.toNat_natCast] at hc
  rw [hc]
  simp [rdOf, List.getD_eq_getElem?_getD]

theorem alloc_lt (w : World) (o : Obj) : w.heap.size < (w.alloc o).drew.heap.size := by
  show w.heap.size < (w.alloc o).heap.size
  simp
theorem new_cell {w w6 : World} {o : Obj} (hb : Below (w.alloc o).drew.heap.size (w.alloc o).drew w6) (j : Nat) : w6.cell? ⟨w.heap.size, j, none⟩ = (w.alloc o).cell? ⟨w.heap.size, j, none⟩ := hb.cell (p := ⟨w.heap.size, j, none⟩) (alloc_lt w o)

set_option maxRecDepth 100000 in
set_option maxHeartbeats 4000000 in
theorem exact07_walk (w : World) (A : Option Addr) (c : Nat) (L : List SAct) (B : Option Addr) (d : Nat) (N : List ByteArray) (h : sactk.C w A L.length L) (hnm : ∀ a ∈ L, a.o.name.size ≤ maxLen) (hN : Kd.string.C w B N.length N) (hNm : ∀ a ∈ N, a.size ≤ maxLen) :
    Calls Try.prog 6 #[.slice A L.length c, .slice B N.length d] w fun e w' => e = .returned (.bool true) ∧ Below w.heap.size w w' := by
  have H := Aside0.mk h
  have HNM := Aside0.mk hnm
  have HN := Aside0.mk hN
  have HNL := Aside0.mk hNm
  clear h hnm hN hNm
  by_cases h10 : N.length ≤ 10
  · have g10 : decide ((10 : Int) < (N.length : Int)) = false := decide_eq_false (by omega)
    go_enter Try.func6, Try.ntmps6
    go_wp2_with (first
      | (go_at_call 23; refine (awake07 _).mono ?_; rintro e w1 ⟨rfl, hb1⟩; have HB1 := Aside0.mk hb1; clear hb1)
      | (go_at_call 24; refine Stand.stop ?_))
    refine Stand.go ?_
    refine (laid_walk w1 A c L (Kd.C_below H.out HB1.out) HNM.out).mono ?_
    rintro e w2 ⟨sb, ub, rfl, hb2, F, G, st, hT, hl1, hl2⟩
    have HT := Aside0.mk hT
    have HS := Aside0.mk hT.s
    have HB2 := Aside0.mk (below_then HB1.out HB1.out.size hb2)
    obtain ⟨_, col, hI, _⟩ := hT.u
    obtain ⟨A1, c1, A3, c3, A2, c2, x0, x1, x2, hc1, hc3, hc2⟩ := hI.cells
    have hg := hT.s.1
    have ho2 := hg.o2
    have ho1 := hg.pos
    have HG := Aside0.mk hg
    have HC1 := Aside0.mk hc1
    have HC2 := Aside0.mk hc2
    have hle : ∀ q, Calls Try.prog 28 #[.pointer (some ⟨sb, 0, none⟩)] (w2.drewN q) fun e w' => e = .returned (.int .i64 ((st.objs.length : Int) - 1)) ∧ ∃ m, w' = w2.drewN m := fun q => (s_len (HT.out.s.drewN q)).mono (by rintro e w' ⟨rfl, rfl⟩; exact ⟨rfl, q, rfl⟩)
    have HLE := Aside0.mk hle
    clear hT hb2 hg hc1 hc2 hc3 hI hle
    go_wp2_with fail
    go_quiet ((go_at_call 28; exact HLE.out _))
    go_wp2_with fail
    have hTq : Tw w1 (w2.drewN nq) F G sb ub st := HT.out.upd ((Upd.refl (fun _ => False) w2).drewN nq) (fun _ _ h => h)
    have HTq := Aside0.mk hTq
    have HBq := Aside0.mk (show Below w.heap.size w (w2.drewN nq) from below_then HB2.out HB2.out.size (Same.drewN w2 nq).below)
    have HZq := Aside0.mk (show w2.heap.size ≤ (w2.drewN nq).heap.size from Nat.le_refl _)
    clear hTq
    go_loopg [8] (st.objs.length + 2) (fun g v w' => ∃ i : Int, v = .int .i64 i ∧ i + (g : Int) = (st.objs.length : Int) + 1 ∧ -1 ≤ i ∧ Aside0 (Tw w1 w' F G sb ub st) ∧ Aside0 (Below w.heap.size w w') ∧ Aside0 (Below w2.heap.size w2 w'))
    case atStart => exact ⟨-1, rfl, by omega, by omega, HTq, HBq, ⟨(Same.drewN w2 nq).below⟩⟩
    case round =>
      obtain ⟨i, rfl, hi, hi1, hT, hB, hZ⟩ := hrel
      clear HTq HBq HZq
      have hZA : Below w2.heap.size w2 (wr.alloc (.cells #[.int .i64 0, .string ⟨#[]⟩, .int .i64 0, .int .i64 0, .int .i64 0, .int .i64 0, .int .u64 0, .int .u64 0, .bool false, .string ⟨#[]⟩, .int .i64 0, .int .i64 0, .int .i64 0] 70)) := hZ.out.alloc hZ.out.size _
      have x2r := cell_later hZA x2
      have x0s := cell_later hZ.out x0
      have x2s := cell_later hZ.out x2
      clear x0 x1 x2
      by_cases hin : i ≤ (st.objs.length : Int)
      · by_cases hlo : st.holds i = true
        · have hk : 1 ≤ i ∧ i < (st.objs.length : Int) := by simpa [St.holds] using hlo
          obtain ⟨k, rfl⟩ : ∃ k : Nat, i = (k : Int) := ⟨i.toNat, by omega⟩
          obtain ⟨lb, rfl, y0, y1, y2, y3, y4, y5, y6, y7, y8, y9, y10, y11, y12⟩ := HC2.out k (by omega)
          have z0 := cell_later hZA y0
          have z1 := cell_later hZA y1
          have z2 := cell_later hZA y2
          have z3 := cell_later hZA y3
          have z4 := cell_later hZA y4
          have z5 := cell_later hZA y5
          have z6 := cell_later hZA y6
          have z7 := cell_later hZA y7
          have z8 := cell_later hZA y8
          have z9 := cell_later hZA y9
          have z10 := cell_later hZA y10
          have z11 := cell_later hZA y11
          have z12 := cell_later hZA y12
          clear y0 y1 y2 y3 y4 y5 y6 y7 y8 y9 y10 y11 y12
          generalize hob : st.ob k = o at z0 z1 z2 z3 z4 z5 z6 z7 z8 z9 z10 z11 z12
          have HOB := Aside0.mk hob
          have HLO := Aside0.mk hlo
          obtain ⟨k1, k2⟩ := hk
          have k3 : (k : Int) ≤ (st.objs.length : Int) := by omega
          have k4 : (0 : Int) ≤ (k : Int) := by omega
          clear hob hlo hin hZA
          go_wp2_with fail
          -- WAY 1
          have hblk : (wr.alloc (.cells #[.int .i64 o.kind, .string o.name, .int .i64 o.typ, .int .i64 o.node, .int .i64 o.num, .int .i64 o.ck, .int .u64 o.hi, .int .u64 o.lo, .bool o.cb, .string o.cs, .int .i64 o.file, .int .i64 o.line, .int .i64 o.col] 70)).heap[wr.heap.size]? = some (.cells #[.int .i64 o.kind, .string o.name, .int .i64 o.typ, .int .i64 o.node, .int .i64 o.num, .int .i64 o.ck, .int .u64 o.hi, .int .u64 o.lo, .bool o.cb, .string o.cs, .int .i64 o.file, .int .i64 o.line, .int .i64 o.col] 70) := heap_alloc_new wr _
          have y0 : (wr.alloc (.cells #[.int .i64 o.kind, .string o.name, .int .i64 o.typ, .int .i64 o.node, .int .i64 o.num, .int .i64 o.ck, .int .u64 o.hi, .int .u64 o.lo, .bool o.cb, .string o.cs, .int .i64 o.file, .int .i64 o.line, .int .i64 o.col] 70)).cell? ⟨wr.heap.size, 0, none⟩ = some (.int .i64 o.kind) := by { rw [blk_cell hblk]; rfl }
          have y1 : (wr.alloc (.cells #[.int .i64 o.kind, .string o.name, .int .i64 o.typ, .int .i64 o.node, .int .i64 o.num, .int .i64 o.ck, .int .u64 o.hi, .int .u64 o.lo, .bool o.cb, .string o.cs, .int .i64 o.file, .int .i64 o.line, .int .i64 o.col] 70)).cell? ⟨wr.heap.size, 1, none⟩ = some (.string o.name) := by { rw [blk_cell hblk]; rfl }
          have y2 : (wr.alloc (.cells #[.int .i64 o.kind, .string o.name, .int .i64 o.typ, .int .i64 o.node, .int .i64 o.num, .int .i64 o.ck, .int .u64 o.hi, .int .u64 o.lo, .bool o.cb, .string o.cs, .int .i64 o.file, .int .i64 o.line, .int .i64 o.col] 70)).cell? ⟨wr.heap.size, 2, none⟩ = some (.int .i64 o.typ) := by { rw [blk_cell hblk]; rfl }
          have y3 : (wr.alloc (.cells #[.int .i64 o.kind, .string o.name, .int .i64 o.typ, .int .i64 o.node, .int .i64 o.num, .int .i64 o.ck, .int .u64 o.hi, .int .u64 o.lo, .bool o.cb, .string o.cs, .int .i64 o.file, .int .i64 o.line, .int .i64 o.col] 70)).cell? ⟨wr.heap.size, 3, none⟩ = some (.int .i64 o.node) := by { rw [blk_cell hblk]; rfl }
          have y4 : (wr.alloc (.cells #[.int .i64 o.kind, .string o.name, .int .i64 o.typ, .int .i64 o.node, .int .i64 o.num, .int .i64 o.ck, .int .u64 o.hi, .int .u64 o.lo, .bool o.cb, .string o.cs, .int .i64 o.file, .int .i64 o.line, .int .i64 o.col] 70)).cell? ⟨wr.heap.size, 4, none⟩ = some (.int .i64 o.num) := by { rw [blk_cell hblk]; rfl }
          have y5 : (wr.alloc (.cells #[.int .i64 o.kind, .string o.name, .int .i64 o.typ, .int .i64 o.node, .int .i64 o.num, .int .i64 o.ck, .int .u64 o.hi, .int .u64 o.lo, .bool o.cb, .string o.cs, .int .i64 o.file, .int .i64 o.line, .int .i64 o.col] 70)).cell? ⟨wr.heap.size, 5, none⟩ = some (.int .i64 o.ck) := by { rw [blk_cell hblk]; rfl }
          have y6 : (wr.alloc (.cells #[.int .i64 o.kind, .string o.name, .int .i64 o.typ, .int .i64 o.node, .int .i64 o.num, .int .i64 o.ck, .int .u64 o.hi, .int .u64 o.lo, .bool o.cb, .string o.cs, .int .i64 o.file, .int .i64 o.line, .int .i64 o.col] 70)).cell? ⟨wr.heap.size, 6, none⟩ = some (.int .u64 o.hi) := by { rw [blk_cell hblk]; rfl }
          have y7 : (wr.alloc (.cells #[.int .i64 o.kind, .string o.name, .int .i64 o.typ, .int .i64 o.node, .int .i64 o.num, .int .i64 o.ck, .int .u64 o.hi, .int .u64 o.lo, .bool o.cb, .string o.cs, .int .i64 o.file, .int .i64 o.line, .int .i64 o.col] 70)).cell? ⟨wr.heap.size, 7, none⟩ = some (.int .u64 o.lo) := by { rw [blk_cell hblk]; rfl }
          have y8 : (wr.alloc (.cells #[.int .i64 o.kind, .string o.name, .int .i64 o.typ, .int .i64 o.node, .int .i64 o.num, .int .i64 o.ck, .int .u64 o.hi, .int .u64 o.lo, .bool o.cb, .string o.cs, .int .i64 o.file, .int .i64 o.line, .int .i64 o.col] 70)).cell? ⟨wr.heap.size, 8, none⟩ = some (.bool o.cb) := by { rw [blk_cell hblk]; rfl }
          have y9 : (wr.alloc (.cells #[.int .i64 o.kind, .string o.name, .int .i64 o.typ, .int .i64 o.node, .int .i64 o.num, .int .i64 o.ck, .int .u64 o.hi, .int .u64 o.lo, .bool o.cb, .string o.cs, .int .i64 o.file, .int .i64 o.line, .int .i64 o.col] 70)).cell? ⟨wr.heap.size, 9, none⟩ = some (.string o.cs) := by { rw [blk_cell hblk]; rfl }
          have y10 : (wr.alloc (.cells #[.int .i64 o.kind, .string o.name, .int .i64 o.typ, .int .i64 o.node, .int .i64 o.num, .int .i64 o.ck, .int .u64 o.hi, .int .u64 o.lo, .bool o.cb, .string o.cs, .int .i64 o.file, .int .i64 o.line, .int .i64 o.col] 70)).cell? ⟨wr.heap.size, 10, none⟩ = some (.int .i64 o.file) := by { rw [blk_cell hblk]; rfl }
          have y11 : (wr.alloc (.cells #[.int .i64 o.kind, .string o.name, .int .i64 o.typ, .int .i64 o.node, .int .i64 o.num, .int .i64 o.ck, .int .u64 o.hi, .int .u64 o.lo, .bool o.cb, .string o.cs, .int .i64 o.file, .int .i64 o.line, .int .i64 o.col] 70)).cell? ⟨wr.heap.size, 11, none⟩ = some (.int .i64 o.line) := by { rw [blk_cell hblk]; rfl }
          have y12 : (wr.alloc (.cells #[.int .i64 o.kind, .string o.name, .int .i64 o.typ, .int .i64 o.node, .int .i64 o.num, .int .i64 o.ck, .int .u64 o.hi, .int .u64 o.lo, .bool o.cb, .string o.cs, .int .i64 o.file, .int .i64 o.line, .int .i64 o.col] 70)).cell? ⟨wr.heap.size, 12, none⟩ = some (.int .i64 o.col) := by { rw [blk_cell hblk]; rfl }
          have HBK := Aside0.mk hblk
          have hTA : Tw w1 (wr.alloc (.cells #[.int .i64 o.kind, .string o.name, .int .i64 o.typ, .int .i64 o.node, .int .i64 o.num, .int .i64 o.ck, .int .u64 o.hi, .int .u64 o.lo, .bool o.cb, .string o.cs, .int .i64 o.file, .int .i64 o.line, .int .i64 o.col] 70)).drew F G sb ub st := hT.out.below (((Below.refl _ _).alloc (Nat.le_refl _) _).drew)
          have HTA := Aside0.mk hTA
          have HBA : Aside0 (Below w.heap.size w (wr.alloc (.cells #[.int .i64 o.kind, .string o.name, .int .i64 o.typ, .int .i64 o.node, .int .i64 o.num, .int .i64 o.ck, .int .u64 o.hi, .int .u64 o.lo, .bool o.cb, .string o.cs, .int .i64 o.file, .int .i64 o.line, .int .i64 o.col] 70)).drew) := ⟨(hB.out.alloc hB.out.size _).drew⟩
          have HZA : Aside0 (Below w2.heap.size w2 (wr.alloc (.cells #[.int .i64 o.kind, .string o.name, .int .i64 o.typ, .int .i64 o.node, .int .i64 o.num, .int .i64 o.ck, .int .u64 o.hi, .int .u64 o.lo, .bool o.cb, .string o.cs, .int .i64 o.file, .int .i64 o.line, .int .i64 o.col] 70)).drew) := ⟨(hZ.out.alloc hZ.out.size _).drew⟩
          have hcall : Calls Try.prog 29 #[.pointer (some ⟨sb, 0, none⟩), .int .i64 (k : Int)] (wr.alloc (.cells #[.int .i64 o.kind, .string o.name, .int .i64 o.typ, .int .i64 o.node, .int .i64 o.num, .int .i64 o.ck, .int .u64 o.hi, .int .u64 o.lo, .bool o.cb, .string o.cs, .int .i64 o.file, .int .i64 o.line, .int .i64 o.col] 70)).drew fun e w' => e = .returned (.agg #[.int .i64 o.kind, .string o.name, .int .i64 o.typ, .int .i64 o.node, .int .i64 o.num, .int .i64 o.ck, .int .u64 o.hi, .int .u64 o.lo, .bool o.cb, .string o.cs, .int .i64 o.file, .int .i64 o.line, .int .i64 o.col]) ∧ Below (wr.alloc (.cells #[.int .i64 o.kind, .string o.name, .int .i64 o.typ, .int .i64 o.node, .int .i64 o.num, .int .i64 o.ck, .int .u64 o.hi, .int .u64 o.lo, .bool o.cb, .string o.cs, .int .i64 o.file, .int .i64 o.line, .int .i64 o.col] 70)).drew.heap.size (wr.alloc (.cells #[.int .i64 o.kind, .string o.name, .int .i64 o.typ, .int .i64 o.node, .int .i64 o.num, .int .i64 o.ck, .int .u64 o.hi, .int .u64 o.lo, .bool o.cb, .string o.cs, .int .i64 o.file, .int .i64 o.line, .int .i64 o.col] 70)).drew w' := by have h1 := s_object_t HTA.out.s k HLO.out; rw [HOB.out] at h1; exact h1
          have HCALL := Aside0.mk hcall
          clear hcall hTA hblk z0 z1 z2 z3 z4 z5 z6 z7 z8 z9 z10 z11 z12
          go_region_held3 (fun w' => w'.cell? ⟨wr.heap.size, 0, none⟩ = some (.int .i64 o.kind) ∧ w'.cell? ⟨wr.heap.size, 1, none⟩ = some (.string o.name) ∧ w'.cell? ⟨wr.heap.size, 2, none⟩ = some (.int .i64 o.typ) ∧ w'.cell? ⟨wr.heap.size, 3, none⟩ = some (.int .i64 o.node) ∧ w'.cell? ⟨wr.heap.size, 4, none⟩ = some (.int .i64 o.num) ∧ w'.cell? ⟨wr.heap.size, 5, none⟩ = some (.int .i64 o.ck) ∧ w'.cell? ⟨wr.heap.size, 6, none⟩ = some (.int .u64 o.hi) ∧ w'.cell? ⟨wr.heap.size, 7, none⟩ = some (.int .u64 o.lo) ∧ w'.cell? ⟨wr.heap.size, 8, none⟩ = some (.bool o.cb) ∧ w'.cell? ⟨wr.heap.size, 9, none⟩ = some (.string o.cs) ∧ w'.cell? ⟨wr.heap.size, 10, none⟩ = some (.int .i64 o.file) ∧ w'.cell? ⟨wr.heap.size, 11, none⟩ = some (.int .i64 o.line) ∧ w'.cell? ⟨wr.heap.size, 12, none⟩ = some (.int .i64 o.col))
            (first
              | exact ⟨p0, p1, p2, p3, p4, p5, p6, p7, p8, p9, p10, p11, p12⟩
              | exact ⟨y0, y1, y2, y3, y4, y5, y6, y7, y8, y9, y10, y11, y12⟩)
            ((first | (go_at_call 29; refine HCALL.out.mono ?_; rintro e w6 ⟨rfl, hb6⟩; have p0 := (new_cell hb6 0).trans y0; have p1 := (new_cell hb6 1).trans y1; have p2 := (new_cell hb6 2).trans y2; have p3 := (new_cell hb6 3).trans y3; have p4 := (new_cell hb6 4).trans y4; have p5 := (new_cell hb6 5).trans y5; have p6 := (new_cell hb6 6).trans y6; have p7 := (new_cell hb6 7).trans y7; have p8 := (new_cell hb6 8).trans y8; have p9 := (new_cell hb6 9).trans y9; have p10 := (new_cell hb6 10).trans y10; have p11 := (new_cell hb6 11).trans y11; have p12 := (new_cell hb6 12).trans y12; have HB6 := Aside0.mk hb6; clear hb6)))
          all_goals
            go_wp2_with fail
            go_roundg (gk - 1)
            case measure => omega
            case rel => exact ⟨(k : Int) + 1, by go_num, by omega, by omega, ⟨HTA.out.below HB6.out⟩, ⟨below_then HBA.out HBA.out.size HB6.out⟩, ⟨below_then HZA.out HZA.out.size HB6.out⟩⟩
          -- END 1
        · have hlo' : st.holds i = false := by simpa using hlo
          have HLO := Aside0.mk hlo'
          have hk : ¬ (1 ≤ i ∧ i < (st.objs.length : Int)) := by simpa [St.holds] using hlo
          have i1 : i < 1 ∨ (1 ≤ i ∧ (st.objs.length : Int) ≤ i) := by omega
          clear hlo hlo' hk hZA
          rcases i1 with i1 | ⟨i1, i2⟩
          all_goals
          go_wp2_with fail
          -- WAY 2
          have hblk : (wr.alloc (.cells #[.int .i64 0, .string ⟨#[]⟩, .int .i64 0, .int .i64 0, .int .i64 0, .int .i64 0, .int .u64 0, .int .u64 0, .bool false, .string ⟨#[]⟩, .int .i64 0, .int .i64 0, .int .i64 0] 70)).heap[wr.heap.size]? = some (.cells #[.int .i64 0, .string ⟨#[]⟩, .int .i64 0, .int .i64 0, .int .i64 0, .int .i64 0, .int .u64 0, .int .u64 0, .bool false, .string ⟨#[]⟩, .int .i64 0, .int .i64 0, .int .i64 0] 70) := heap_alloc_new wr _
          have y0 : (wr.alloc (.cells #[.int .i64 0, .string ⟨#[]⟩, .int .i64 0, .int .i64 0, .int .i64 0, .int .i64 0, .int .u64 0, .int .u64 0, .bool false, .string ⟨#[]⟩, .int .i64 0, .int .i64 0, .int .i64 0] 70)).cell? ⟨wr.heap.size, 0, none⟩ = some (.int .i64 0) := by { rw [blk_cell hblk]; rfl }
          have y1 : (wr.alloc (.cells #[.int .i64 0, .string ⟨#[]⟩, .int .i64 0, .int .i64 0, .int .i64 0, .int .i64 0, .int .u64 0, .int .u64 0, .bool false, .string ⟨#[]⟩, .int .i64 0, .int .i64 0, .int .i64 0] 70)).cell? ⟨wr.heap.size, 1, none⟩ = some (.string ⟨#[]⟩) := by { rw [blk_cell hblk]; rfl }
          have y2 : (wr.alloc (.cells #[.int .i64 0, .string ⟨#[]⟩, .int .i64 0, .int .i64 0, .int .i64 0, .int .i64 0, .int .u64 0, .int .u64 0, .bool false, .string ⟨#[]⟩, .int .i64 0, .int .i64 0, .int .i64 0] 70)).cell? ⟨wr.heap.size, 2, none⟩ = some (.int .i64 0) := by { rw [blk_cell hblk]; rfl }
          have y3 : (wr.alloc (.cells #[.int .i64 0, .string ⟨#[]⟩, .int .i64 0, .int .i64 0, .int .i64 0, .int .i64 0, .int .u64 0, .int .u64 0, .bool false, .string ⟨#[]⟩, .int .i64 0, .int .i64 0, .int .i64 0] 70)).cell? ⟨wr.heap.size, 3, none⟩ = some (.int .i64 0) := by { rw [blk_cell hblk]; rfl }
          have y4 : (wr.alloc (.cells #[.int .i64 0, .string ⟨#[]⟩, .int .i64 0, .int .i64 0, .int .i64 0, .int .i64 0, .int .u64 0, .int .u64 0, .bool false, .string ⟨#[]⟩, .int .i64 0, .int .i64 0, .int .i64 0] 70)).cell? ⟨wr.heap.size, 4, none⟩ = some (.int .i64 0) := by { rw [blk_cell hblk]; rfl }
          have y5 : (wr.alloc (.cells #[.int .i64 0, .string ⟨#[]⟩, .int .i64 0, .int .i64 0, .int .i64 0, .int .i64 0, .int .u64 0, .int .u64 0, .bool false, .string ⟨#[]⟩, .int .i64 0, .int .i64 0, .int .i64 0] 70)).cell? ⟨wr.heap.size, 5, none⟩ = some (.int .i64 0) := by { rw [blk_cell hblk]; rfl }
          have y6 : (wr.alloc (.cells #[.int .i64 0, .string ⟨#[]⟩, .int .i64 0, .int .i64 0, .int .i64 0, .int .i64 0, .int .u64 0, .int .u64 0, .bool false, .string ⟨#[]⟩, .int .i64 0, .int .i64 0, .int .i64 0] 70)).cell? ⟨wr.heap.size, 6, none⟩ = some (.int .u64 0) := by { rw [blk_cell hblk]; rfl }
          have y7 : (wr.alloc (.cells #[.int .i64 0, .string ⟨#[]⟩, .int .i64 0, .int .i64 0, .int .i64 0, .int .i64 0, .int .u64 0, .int .u64 0, .bool false, .string ⟨#[]⟩, .int .i64 0, .int .i64 0, .int .i64 0] 70)).cell? ⟨wr.heap.size, 7, none⟩ = some (.int .u64 0) := by { rw [blk_cell hblk]; rfl }
          have y8 : (wr.alloc (.cells #[.int .i64 0, .string ⟨#[]⟩, .int .i64 0, .int .i64 0, .int .i64 0, .int .i64 0, .int .u64 0, .int .u64 0, .bool false, .string ⟨#[]⟩, .int .i64 0, .int .i64 0, .int .i64 0] 70)).cell? ⟨wr.heap.size, 8, none⟩ = some (.bool false) := by { rw [blk_cell hblk]; rfl }
          have y9 : (wr.alloc (.cells #[.int .i64 0, .string ⟨#[]⟩, .int .i64 0, .int .i64 0, .int .i64 0, .int .i64 0, .int .u64 0, .int .u64 0, .bool false, .string ⟨#[]⟩, .int .i64 0, .int .i64 0, .int .i64 0] 70)).cell? ⟨wr.heap.size, 9, none⟩ = some (.string ⟨#[]⟩) := by { rw [blk_cell hblk]; rfl }
          have y10 : (wr.alloc (.cells #[.int .i64 0, .string ⟨#[]⟩, .int .i64 0, .int .i64 0, .int .i64 0, .int .i64 0, .int .u64 0, .int .u64 0, .bool false, .string ⟨#[]⟩, .int .i64 0, .int .i64 0, .int .i64 0] 70)).cell? ⟨wr.heap.size, 10, none⟩ = some (.int .i64 0) := by { rw [blk_cell hblk]; rfl }
          have y11 : (wr.alloc (.cells #[.int .i64 0, .string ⟨#[]⟩, .int .i64 0, .int .i64 0, .int .i64 0, .int .i64 0, .int .u64 0, .int .u64 0, .bool false, .string ⟨#[]⟩, .int .i64 0, .int .i64 0, .int .i64 0] 70)).cell? ⟨wr.heap.size, 11, none⟩ = some (.int .i64 0) := by { rw [blk_cell hblk]; rfl }
          have y12 : (wr.alloc (.cells #[.int .i64 0, .string ⟨#[]⟩, .int .i64 0, .int .i64 0, .int .i64 0, .int .i64 0, .int .u64 0, .int .u64 0, .bool false, .string ⟨#[]⟩, .int .i64 0, .int .i64 0, .int .i64 0] 70)).cell? ⟨wr.heap.size, 12, none⟩ = some (.int .i64 0) := by { rw [blk_cell hblk]; rfl }
          have HBK := Aside0.mk hblk
          have hTA : Tw w1 (wr.alloc (.cells #[.int .i64 0, .string ⟨#[]⟩, .int .i64 0, .int .i64 0, .int .i64 0, .int .i64 0, .int .u64 0, .int .u64 0, .bool false, .string ⟨#[]⟩, .int .i64 0, .int .i64 0, .int .i64 0] 70)).drew F G sb ub st := hT.out.below (((Below.refl _ _).alloc (Nat.le_refl _) _).drew)
          have HTA := Aside0.mk hTA
          have HBA : Aside0 (Below w.heap.size w (wr.alloc (.cells #[.int .i64 0, .string ⟨#[]⟩, .int .i64 0, .int .i64 0, .int .i64 0, .int .i64 0, .int .u64 0, .int .u64 0, .bool false, .string ⟨#[]⟩, .int .i64 0, .int .i64 0, .int .i64 0] 70)).drew) := ⟨(hB.out.alloc hB.out.size _).drew⟩
          have HZA : Aside0 (Below w2.heap.size w2 (wr.alloc (.cells #[.int .i64 0, .string ⟨#[]⟩, .int .i64 0, .int .i64 0, .int .i64 0, .int .i64 0, .int .u64 0, .int .u64 0, .bool false, .string ⟨#[]⟩, .int .i64 0, .int .i64 0, .int .i64 0] 70)).drew) := ⟨(hZ.out.alloc hZ.out.size _).drew⟩
          have hcall : Calls Try.prog 29 #[.pointer (some ⟨sb, 0, none⟩), .int .i64 i] (wr.alloc (.cells #[.int .i64 0, .string ⟨#[]⟩, .int .i64 0, .int .i64 0, .int .i64 0, .int .i64 0, .int .u64 0, .int .u64 0, .bool false, .string ⟨#[]⟩, .int .i64 0, .int .i64 0, .int .i64 0] 70)).drew fun e w' => e = .returned (.agg #[.int .i64 0, .string ⟨#[]⟩, .int .i64 0, .int .i64 0, .int .i64 0, .int .i64 0, .int .u64 0, .int .u64 0, .bool false, .string ⟨#[]⟩, .int .i64 0, .int .i64 0, .int .i64 0]) ∧ Below (wr.alloc (.cells #[.int .i64 0, .string ⟨#[]⟩, .int .i64 0, .int .i64 0, .int .i64 0, .int .i64 0, .int .u64 0, .int .u64 0, .bool false, .string ⟨#[]⟩, .int .i64 0, .int .i64 0, .int .i64 0] 70)).drew.heap.size (wr.alloc (.cells #[.int .i64 0, .string ⟨#[]⟩, .int .i64 0, .int .i64 0, .int .i64 0, .int .i64 0, .int .u64 0, .int .u64 0, .bool false, .string ⟨#[]⟩, .int .i64 0, .int .i64 0, .int .i64 0] 70)).drew w' := s_object_f HTA.out.s i HLO.out
          have HCALL := Aside0.mk hcall
          clear hcall hTA hblk
          go_region_held3 (fun w' => w'.cell? ⟨wr.heap.size, 0, none⟩ = some (.int .i64 0) ∧ w'.cell? ⟨wr.heap.size, 1, none⟩ = some (.string ⟨#[]⟩) ∧ w'.cell? ⟨wr.heap.size, 2, none⟩ = some (.int .i64 0) ∧ w'.cell? ⟨wr.heap.size, 3, none⟩ = some (.int .i64 0) ∧ w'.cell? ⟨wr.heap.size, 4, none⟩ = some (.int .i64 0) ∧ w'.cell? ⟨wr.heap.size, 5, none⟩ = some (.int .i64 0) ∧ w'.cell? ⟨wr.heap.size, 6, none⟩ = some (.int .u64 0) ∧ w'.cell? ⟨wr.heap.size, 7, none⟩ = some (.int .u64 0) ∧ w'.cell? ⟨wr.heap.size, 8, none⟩ = some (.bool false) ∧ w'.cell? ⟨wr.heap.size, 9, none⟩ = some (.string ⟨#[]⟩) ∧ w'.cell? ⟨wr.heap.size, 10, none⟩ = some (.int .i64 0) ∧ w'.cell? ⟨wr.heap.size, 11, none⟩ = some (.int .i64 0) ∧ w'.cell? ⟨wr.heap.size, 12, none⟩ = some (.int .i64 0))
            (first
              | exact ⟨p0, p1, p2, p3, p4, p5, p6, p7, p8, p9, p10, p11, p12⟩
              | exact ⟨y0, y1, y2, y3, y4, y5, y6, y7, y8, y9, y10, y11, y12⟩)
            ((first | (go_at_call 29; refine HCALL.out.mono ?_; rintro e w6 ⟨rfl, hb6⟩; have p0 := (new_cell hb6 0).trans y0; have p1 := (new_cell hb6 1).trans y1; have p2 := (new_cell hb6 2).trans y2; have p3 := (new_cell hb6 3).trans y3; have p4 := (new_cell hb6 4).trans y4; have p5 := (new_cell hb6 5).trans y5; have p6 := (new_cell hb6 6).trans y6; have p7 := (new_cell hb6 7).trans y7; have p8 := (new_cell hb6 8).trans y8; have p9 := (new_cell hb6 9).trans y9; have p10 := (new_cell hb6 10).trans y10; have p11 := (new_cell hb6 11).trans y11; have p12 := (new_cell hb6 12).trans y12; have HB6 := Aside0.mk hb6; clear hb6)))
          all_goals
            go_wp2_with fail
            go_roundg (gk - 1)
            case measure => omega
            case rel => exact ⟨i + 1, by go_num, by omega, by omega, ⟨HTA.out.below HB6.out⟩, ⟨below_then HBA.out HBA.out.size HB6.out⟩, ⟨below_then HZA.out HZA.out.size HB6.out⟩⟩
          -- END 2
      · have i1 : i = (st.objs.length : Int) + 1 := by omega
        subst i1
        obtain ⟨wo, rfl⟩ : ∃ wo : World, wo = wr := ⟨_, rfl⟩
        have HSr := Aside0.mk hT.out.s
        have HUr := Aside0.mk hT.out.u
        have HNr := Aside0.mk (Kd.C_below HN.out hB.out)
        have hf1 := HG.out.few1
        clear hin hZA x2r
        go_wp2_with fail
        go_loopg [10] (st.outer.length + 2) (fun g v w' => w' = wo ∧ ∃ i : Int, v = .int .i64 i ∧ i + (g : Int) = (st.outer.length : Int) + 1 ∧ -1 ≤ i)
        case atStart => exact ⟨rfl, -1, rfl, by omega, by omega⟩
        case round =>
          obtain ⟨rfl, i, rfl, hi, hi1⟩ := hrel
          obtain ⟨w3, rfl⟩ : ∃ w3 : World, w3 = wr := ⟨_, rfl⟩
          obtain ⟨go, rfl⟩ : ∃ go : Nat, go = gk := ⟨_, rfl⟩
          by_cases hin : i ≤ (st.outer.length : Int)
          · have hso := s_outer HSr.out i
            have hw1 := s_within HSr.out i 1
            have hw2 := s_within HSr.out i 2
            have hw3 := s_within HSr.out 1 i
            have hu1 := u_within HUr.out i 1
            have hu2 := u_within HUr.out i 2
            have hu3 := u_within HUr.out 1 i
            generalize st.Within i 1 = b1 at hw1 hu1
            generalize st.Within i 2 = b2 at hw2 hu2
            generalize st.Within 1 i = b3 at hw3 hu3
            by_cases hh : st.has i = true
            · have hk := St.has_iff.1 hh
              obtain ⟨k, rfl⟩ : ∃ k : Nat, i = (k : Int) := ⟨i.toNat, by omega⟩
              obtain ⟨lb, rfl, y0⟩ := HC1.out k (by omega)
              have z0 := cell_later hZ.out y0
              rw [if_pos hh] at hso
              generalize st.out (k : Int) = oi at hso z0
              have HSO := Aside0.mk hso
              have HW1 := Aside0.mk hw1
              have HW2 := Aside0.mk hw2
              have HW3 := Aside0.mk hw3
              have HU1 := Aside0.mk hu1
              have HU2 := Aside0.mk hu2
              have HU3 := Aside0.mk hu3
              obtain ⟨k1, k2⟩ := hk
              have k3 : (k : Int) ≤ (st.outer.length : Int) := by omega
              have k4 : (0 : Int) ≤ (k : Int) := by omega
              clear hso hw1 hw2 hw3 hu1 hu2 hu3 hh y0 hin
              go_wp2_with (first
                | (go_at_call 30; refine HSO.out.mono ?_; rintro e w' ⟨rfl, rfl⟩)
                | (go_at_call 27; first | ((with_reducible refine HW1.out.mono ?_); rintro e w' ⟨rfl, rfl⟩) | ((with_reducible refine HW2.out.mono ?_); rintro e w' ⟨rfl, rfl⟩) | ((with_reducible refine HW3.out.mono ?_); rintro e w' ⟨rfl, rfl⟩))
                | (go_at_call 31; first | ((with_reducible refine HU1.out.mono ?_); rintro e w' ⟨rfl, rfl⟩) | ((with_reducible refine HU2.out.mono ?_); rintro e w' ⟨rfl, rfl⟩) | ((with_reducible refine HU3.out.mono ?_); rintro e w' ⟨rfl, rfl⟩)))
              -- INNER 1
              go_loopg [12] N.length (fun g v w' => w' = w3 ∧ ∃ m : Nat, v = .int .i64 (m : Int) ∧ m + g = N.length)
              case atStart => exact ⟨rfl, 0, rfl, by omega⟩
              case round =>
                obtain ⟨rfl, m, rfl, hm⟩ := hrel
                by_cases hmn : m < N.length
                · obtain ⟨nb, no, hB', hcs⟩ := string_cells HNr.out (by omega)
                  have q0 := hcs m hmn
                  have hnl := HNL.out (N.getD m ByteArray.empty) (by rw [List.getD_eq_getElem?_getD, List.getElem?_eq_getElem hmn]; exact List.getElem_mem hmn)
                  subst hB'
                  generalize N.getD m ByteArray.empty = nm at q0 hnl
                  have hf := s_find HSr.out (k : Int) nm hnl
                  have hu := u_find HUr.out (k : Int) nm
                  have hh := s_here HSr.out (k : Int) nm hnl
                  have huh := u_here HUr.out (k : Int) nm
                  generalize st.Find (k : Int) nm = R at hf hu
                  obtain ⟨x, y⟩ := R
                  simp only at hf hu
                  generalize st.here (k : Int) nm = z at hh huh
                  have hbz : ((z : Int) != 0) = !decide (z = 0) := by by_cases hz : z = 0 <;> simp [hz]
                  have hbx : (x != 0) = !decide (x = 0) := by by_cases hz : x = 0 <;> simp [hz]
                  generalize (!decide (z = 0)) = bz at hbz hh
                  generalize (!decide (x = 0)) = bx at hbx hf
                  have HF := Aside0.mk hf
                  have HU := Aside0.mk hu
                  have HH := Aside0.mk hh
                  have HUH := Aside0.mk huh
                  have m1 : (0 : Int) ≤ (m : Int) := by omega
                  have m2 : (m : Int) < (N.length : Int) := by omega
                  clear hf hu hh hcs hmn huh
                  go_wp2_with (first
                    | (go_at_call 25; refine HF.out.mono ?_; rintro e w' ⟨rfl, rfl⟩)
                    | (go_at_call 32; refine HU.out.mono ?_; rintro e w' ⟨rfl, rfl⟩)
                    | (go_at_call 33; refine HH.out.mono ?_; rintro e w' ⟨rfl, rfl⟩)
                    | (go_at_call 34; refine HUH.out.mono ?_; rintro e w' ⟨rfl, rfl⟩))
                  go_roundg (gk - 1)
                  case measure => omega
                  case rel => exact ⟨rfl, m + 1, by go_num, by omega⟩
                · obtain rfl : m = N.length := by omega
                  clear hmn
                  go_wp2_with fail
                  go_roundg (go - 1)
                  case measure => omega
                  case rel => exact ⟨rfl, (k : Int) + 1, by go_num, by omega, by omega⟩
              -- INEND 1
            · have hh' : st.has i = false := by simpa using hh
              rw [if_neg hh] at hso
              have HHF := Aside0.mk hh'
              have HSO := Aside0.mk hso
              have HW1 := Aside0.mk hw1
              have HW2 := Aside0.mk hw2
              have HW3 := Aside0.mk hw3
              have HU1 := Aside0.mk hu1
              have HU2 := Aside0.mk hu2
              have HU3 := Aside0.mk hu3
              have hk : ¬ (1 ≤ i ∧ i < (st.outer.length : Int)) := fun h => hh (St.has_iff.2 h)
              have i1 : i < 1 ∨ (1 ≤ i ∧ (st.outer.length : Int) ≤ i) := by omega
              have i3 : i ≤ (st.outer.length : Int) := hin
              clear hso hw1 hw2 hw3 hu1 hu2 hu3 hh hh' hin hk
              rcases i1 with i1 | ⟨i1, i2⟩
              · go_wp2_with (first
                | (go_at_call 30; refine HSO.out.mono ?_; rintro e w' ⟨rfl, rfl⟩)
                | (go_at_call 27; first | ((with_reducible refine HW1.out.mono ?_); rintro e w' ⟨rfl, rfl⟩) | ((with_reducible refine HW2.out.mono ?_); rintro e w' ⟨rfl, rfl⟩) | ((with_reducible refine HW3.out.mono ?_); rintro e w' ⟨rfl, rfl⟩))
                | (go_at_call 31; first | ((with_reducible refine HU1.out.mono ?_); rintro e w' ⟨rfl, rfl⟩) | ((with_reducible refine HU2.out.mono ?_); rintro e w' ⟨rfl, rfl⟩) | ((with_reducible refine HU3.out.mono ?_); rintro e w' ⟨rfl, rfl⟩)))
                -- INNER 2
                go_loopg [12] N.length (fun g v w' => w' = w3 ∧ ∃ m : Nat, v = .int .i64 (m : Int) ∧ m + g = N.length)
                case atStart => exact ⟨rfl, 0, rfl, by omega⟩
                case round =>
                  obtain ⟨rfl, m, rfl, hm⟩ := hrel
                  by_cases hmn : m < N.length
                  · obtain ⟨nb, no, hB', hcs⟩ := string_cells HNr.out (by omega)
                    have q0 := hcs m hmn
                    have hnl := HNL.out (N.getD m ByteArray.empty) (by rw [List.getD_eq_getElem?_getD, List.getElem?_eq_getElem hmn]; exact List.getElem_mem hmn)
                    subst hB'
                    generalize N.getD m ByteArray.empty = nm at q0 hnl
                    have hf := s_find HSr.out i nm hnl
                    have hu := u_find HUr.out i nm
                    have hh := s_here HSr.out i nm hnl
                    generalize st.Find i nm = R at hf hu
                    obtain ⟨x, y⟩ := R
                    simp only at hf hu
                    rw [St.here_out HG.out nm HHF.out] at hh
                    have hbx : (x != 0) = !decide (x = 0) := by by_cases hz : x = 0 <;> simp [hz]
                    generalize (!decide (x = 0)) = bx at hbx hf
                    have HF := Aside0.mk hf
                    have HU := Aside0.mk hu
                    have HH := Aside0.mk hh
                    have m1 : (0 : Int) ≤ (m : Int) := by omega
                    have m2 : (m : Int) < (N.length : Int) := by omega
                    clear hf hu hh hcs hmn
                    go_wp2_with (first
                      | (go_at_call 25; refine HF.out.mono ?_; rintro e w' ⟨rfl, rfl⟩)
                      | (go_at_call 32; refine HU.out.mono ?_; rintro e w' ⟨rfl, rfl⟩)
                      | (go_at_call 33; refine HH.out.mono ?_; rintro e w' ⟨rfl, rfl⟩))
                    go_roundg (gk - 1)
                    case measure => omega
                    case rel => exact ⟨rfl, m + 1, by go_num, by omega⟩
                  · obtain rfl : m = N.length := by omega
                    clear hmn
                    go_wp2_with fail
                    go_roundg (go - 1)
                    case measure => omega
                    case rel => exact ⟨rfl, i + 1, by go_num, by omega, by omega⟩
                -- INEND 2
              · go_wp2_with (first
                | (go_at_call 30; refine HSO.out.mono ?_; rintro e w' ⟨rfl, rfl⟩)
                | (go_at_call 27; first | ((with_reducible refine HW1.out.mono ?_); rintro e w' ⟨rfl, rfl⟩) | ((with_reducible refine HW2.out.mono ?_); rintro e w' ⟨rfl, rfl⟩) | ((with_reducible refine HW3.out.mono ?_); rintro e w' ⟨rfl, rfl⟩))
                | (go_at_call 31; first | ((with_reducible refine HU1.out.mono ?_); rintro e w' ⟨rfl, rfl⟩) | ((with_reducible refine HU2.out.mono ?_); rintro e w' ⟨rfl, rfl⟩) | ((with_reducible refine HU3.out.mono ?_); rintro e w' ⟨rfl, rfl⟩)))
                -- INNER 3
                go_loopg [12] N.length (fun g v w' => w' = w3 ∧ ∃ m : Nat, v = .int .i64 (m : Int) ∧ m + g = N.length)
                case atStart => exact ⟨rfl, 0, rfl, by omega⟩
                case round =>
                  obtain ⟨rfl, m, rfl, hm⟩ := hrel
                  by_cases hmn : m < N.length
                  · obtain ⟨nb, no, hB', hcs⟩ := string_cells HNr.out (by omega)
                    have q0 := hcs m hmn
                    have hnl := HNL.out (N.getD m ByteArray.empty) (by rw [List.getD_eq_getElem?_getD, List.getElem?_eq_getElem hmn]; exact List.getElem_mem hmn)
                    subst hB'
                    generalize N.getD m ByteArray.empty = nm at q0 hnl
                    have hf := s_find HSr.out i nm hnl
                    have hu := u_find HUr.out i nm
                    have hh := s_here HSr.out i nm hnl
                    have huh := u_here HUr.out i nm
                    generalize st.Find i nm = R at hf hu
                    obtain ⟨x, y⟩ := R
                    simp only at hf hu
                    generalize st.here i nm = z at hh huh
                    have hbz : ((z : Int) != 0) = !decide (z = 0) := by by_cases hz : z = 0 <;> simp [hz]
                    have hbx : (x != 0) = !decide (x = 0) := by by_cases hz : x = 0 <;> simp [hz]
                    generalize (!decide (z = 0)) = bz at hbz hh
                    generalize (!decide (x = 0)) = bx at hbx hf
                    have HF := Aside0.mk hf
                    have HU := Aside0.mk hu
                    have HH := Aside0.mk hh
                    have HUH := Aside0.mk huh
                    have m1 : (0 : Int) ≤ (m : Int) := by omega
                    have m2 : (m : Int) < (N.length : Int) := by omega
                    clear hf hu hh hcs hmn huh
                    go_wp2_with (first
                      | (go_at_call 25; refine HF.out.mono ?_; rintro e w' ⟨rfl, rfl⟩)
                      | (go_at_call 32; refine HU.out.mono ?_; rintro e w' ⟨rfl, rfl⟩)
                      | (go_at_call 33; refine HH.out.mono ?_; rintro e w' ⟨rfl, rfl⟩)
                      | (go_at_call 34; refine HUH.out.mono ?_; rintro e w' ⟨rfl, rfl⟩))
                    go_roundg (gk - 1)
                    case measure => omega
                    case rel => exact ⟨rfl, m + 1, by go_num, by omega⟩
                  · obtain rfl : m = N.length := by omega
                    clear hmn
                    go_wp2_with fail
                    go_roundg (go - 1)
                    case measure => omega
                    case rel => exact ⟨rfl, i + 1, by go_num, by omega, by omega⟩
                -- INEND 3
          · have i1 : i = (st.outer.length : Int) + 1 := by omega
            subst i1
            clear hin
            go_wp2_with fail
            go_ret
            exact ⟨rfl, hB.out⟩
  · have g10 : decide ((10 : Int) < (N.length : Int)) = true := decide_eq_true (by omega)
    go_enter Try.func6, Try.ntmps6
    go_wp2_with (first
      | (go_at_call 23; refine (awake07 _).mono ?_; rintro e w1 ⟨rfl, hb1⟩; have HB1 := Aside0.mk hb1; clear hb1))
    go_ret
    exact ⟨rfl, HB1.out⟩
end Go.Proofs.Ytnmahbpkaocjdaa
