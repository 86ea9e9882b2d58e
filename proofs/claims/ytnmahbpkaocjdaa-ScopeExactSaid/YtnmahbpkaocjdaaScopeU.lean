/-
  Scopes: what acts lay. (Printed by wip/tools/mkU.py.)
-/
import Derived.Test.YtnmahbpkaocjdaaScopeT
import Derived.Deep.RegionHeld3
import Derived.IntWalk
set_option linter.unusedVariables false
namespace Go.Proofs.Ytnmahbpkaocjdaa
open Go.RowKit Go.Proofs.YtnmahbpkaocjdaaW.PrintWords

def Laid (w : World) (e : Ending) (w' : World) : Prop := ∃ sb ub, e = .returned (.tuple #[.pointer (some ⟨sb, 0, none⟩), .pointer (some ⟨ub, 0, none⟩), .bool true]) ∧ Below w.heap.size w w' ∧ Tws w w' sb ub 62 79

set_option maxRecDepth 100000 in
set_option maxHeartbeats 4000000 in
theorem laid_walk (w : World) (A : Option Addr) (c : Nat) (L : List SAct) (h : sactk.C w A L.length L) (hnm : ∀ a ∈ L, a.o.name.size ≤ maxLen) :
    Calls Try.prog 24 #[.slice A L.length c] w (Laid w) := by
  have H := Aside0.mk h
  have HNM := Aside0.mk hnm
  have hm := h.2.1
  clear h hnm
  go_enter Try.func24, Try.ntmps24
  go_wp2_with (go_at_call 39; refine Stand.stop ?_)
  refine Stand.go ?_
  refine (s_start w).mono ?_
  rintro e w1 ⟨sb, rfl, hb1, hs1⟩
  have HS1 := Aside0.mk hs1
  have HB1 := Aside0.mk hb1
  clear hs1 hb1
  go_wp2_with (go_at_call 40; refine Stand.stop ?_)
  refine Stand.go ?_
  refine (u_start w1).mono ?_
  rintro e w2 ⟨ub, rfl, hb2, hu2⟩
  have hT : Tw w w2 (fun k => w.heap.size ≤ k ∧ k < w1.heap.size) (fun k => w1.heap.size ≤ k ∧ k < w2.heap.size) sb ub stStart := by
    have s1 := HB1.out.size
    have s2 := hb2.size
    refine ⟨(HS1.out.mono (G := fun k => w.heap.size ≤ k ∧ k < w1.heap.size) (fun k _ h2 h => ⟨h, h2⟩)).below hb2, ?_, fun k h1 h2 => by omega, fun k hk => by omega⟩
    have hu3 : USc w w2 (fun k => w1.heap.size ≤ k) ub stStart := by
      obtain ⟨g, col, hI, hF⟩ := hu2
      refine ⟨g, col, ⟨hI.c1, ?_, fun k hk => ⟨by have := (hI.lt k hk).1; omega, (hI.lt k hk).2⟩⟩, hF⟩
      obtain ⟨ov, iv, bv, hb, r1, r2, r3⟩ := hI.blk
      exact ⟨ov, iv, bv, hb, Kd.R_lower r1 s1, Kd.R_lower r2 s1, Kd.R_lower r3 s1⟩
    exact hu3.mono (fun k _ h2 h => ⟨h, h2⟩)
  have HT : Aside0 (Tws w w2 sb ub (2 + 0) (19 + 0)) := ⟨_, _, _, hT, by decide, by decide⟩
  have HB := Aside0.mk (below_then HB1.out HB1.out.size hb2)
  clear hT hb2 hu2
  go_wp2_with fail
  go_loopg [7] 60 (fun g v w' => ∃ j : Nat, j + g = 60 ∧ v = .int .i64 (j : Int) ∧ Aside0 (Tws w w' sb ub (2 + j) (19 + j)) ∧ Aside0 (Below w.heap.size w w'))
  case atStart => exact ⟨0, by omega, rfl, HT, HB⟩
  case round =>
    obtain ⟨j, hj, rfl, hT, hB⟩ := hrel
    clear HT HB HS1 HB1
    have hws := hB.out.size
    by_cases hlt : j < L.length ∧ j < 60
    · obtain ⟨hlt1, hlt2⟩ := hlt
      obtain ⟨b, o0, rfl, hb⟩ := sact_cells H.out (by omega)
      have hbj := hb j hlt1
      have hn := HNM.out _ (List.getElem_mem hlt1)
      have e0 : (0 : Int) ≤ (j : Int) := by omega
      have e1 : (j : Int) < (L.length : Int) := by omega
      have e2 : (j : Int) < 60 := by omega
      generalize (L[j]'hlt1) = x at hbj hn
      obtain ⟨kind, ia, ii, o⟩ := x
      simp only at hn
      have x0 : wr.cell? ⟨b, o0 + j * 16, none⟩ = some (.int .i64 kind) := cell_later hB.out (hbj 0 _ rfl)
      have x1 : wr.cell? ⟨b, o0 + j * 16 + 1, none⟩ = some (.int .i64 ia) := cell_later hB.out (hbj 1 _ rfl)
      have x2 : wr.cell? ⟨b, o0 + j * 16 + 2, none⟩ = some (.int .i64 ii) := cell_later hB.out (hbj 2 _ rfl)
      have x3 : wr.cell? ⟨b, o0 + j * 16 + 3, none⟩ = some (.int .i64 o.kind) := cell_later hB.out (hbj 3 _ rfl)
      have x4 : wr.cell? ⟨b, o0 + j * 16 + 4, none⟩ = some (.string o.name) := cell_later hB.out (hbj 4 _ rfl)
      have x5 : wr.cell? ⟨b, o0 + j * 16 + 5, none⟩ = some (.int .i64 o.typ) := cell_later hB.out (hbj 5 _ rfl)
      have x6 : wr.cell? ⟨b, o0 + j * 16 + 6, none⟩ = some (.int .i64 o.node) := cell_later hB.out (hbj 6 _ rfl)
      have x7 : wr.cell? ⟨b, o0 + j * 16 + 7, none⟩ = some (.int .i64 o.num) := cell_later hB.out (hbj 7 _ rfl)
      have x8 : wr.cell? ⟨b, o0 + j * 16 + 8, none⟩ = some (.int .i64 o.ck) := cell_later hB.out (hbj 8 _ rfl)
      have x9 : wr.cell? ⟨b, o0 + j * 16 + 9, none⟩ = some (.int .u64 o.hi) := cell_later hB.out (hbj 9 _ rfl)
      have x10 : wr.cell? ⟨b, o0 + j * 16 + 10, none⟩ = some (.int .u64 o.lo) := cell_later hB.out (hbj 10 _ rfl)
      have x11 : wr.cell? ⟨b, o0 + j * 16 + 11, none⟩ = some (.bool o.cb) := cell_later hB.out (hbj 11 _ rfl)
      have x12 : wr.cell? ⟨b, o0 + j * 16 + 12, none⟩ = some (.string o.cs) := cell_later hB.out (hbj 12 _ rfl)
      have x13 : wr.cell? ⟨b, o0 + j * 16 + 13, none⟩ = some (.int .i64 o.file) := cell_later hB.out (hbj 13 _ rfl)
      have x14 : wr.cell? ⟨b, o0 + j * 16 + 14, none⟩ = some (.int .i64 o.line) := cell_later hB.out (hbj 14 _ rfl)
      have x15 : wr.cell? ⟨b, o0 + j * 16 + 15, none⟩ = some (.int .i64 o.col) := cell_later hB.out (hbj 15 _ rfl)
      obtain ⟨F, G, st, hTw, hl1, hl2⟩ := hT.out
      have hbx := (Below.refl wr.heap.size wr).alloc (Nat.le_refl _) (.cells #[.int .i64 kind, .int .i64 ia, .int .i64 ii, .int .i64 o.kind, .string o.name, .int .i64 o.typ, .int .i64 o.node, .int .i64 o.num, .int .i64 o.ck, .int .u64 o.hi, .int .u64 o.lo, .bool o.cb, .string o.cs, .int .i64 o.file, .int .i64 o.line, .int .i64 o.col] 97)
      have hTx := hTw.below hbx
      have h0x : w.heap.size ≤ (wr.alloc (.cells #[.int .i64 kind, .int .i64 ia, .int .i64 ii, .int .i64 o.kind, .string o.name, .int .i64 o.typ, .int .i64 o.node, .int .i64 o.num, .int .i64 o.ck, .int .u64 o.hi, .int .u64 o.lo, .bool o.cb, .string o.cs, .int .i64 o.file, .int .i64 o.line, .int .i64 o.col] 97)).heap.size := Nat.le_trans hws hbx.size
      have HZ : Aside0 (∀ w6, Upd (fun k => F k ∨ G k) (wr.alloc (.cells #[.int .i64 kind, .int .i64 ia, .int .i64 ii, .int .i64 o.kind, .string o.name, .int .i64 o.typ, .int .i64 o.node, .int .i64 o.num, .int .i64 o.ck, .int .u64 o.hi, .int .u64 o.lo, .bool o.cb, .string o.cs, .int .i64 o.file, .int .i64 o.line, .int .i64 o.col] 97)) w6 → w6.heap[wr.heap.size]? = some (.cells #[.int .i64 kind, .int .i64 ia, .int .i64 ii, .int .i64 o.kind, .string o.name, .int .i64 o.typ, .int .i64 o.node, .int .i64 o.num, .int .i64 o.ck, .int .u64 o.hi, .int .u64 o.lo, .bool o.cb, .string o.cs, .int .i64 o.file, .int .i64 o.line, .int .i64 o.col] 97)) := ⟨fun w6 hu => hu.blk (heap_alloc_new wr _) (fun hk => by have := (hTw.low _ hk).2; omega)⟩
      have HLO : Aside0 (∀ w6, Upd (fun k => F k ∨ G k) (wr.alloc (.cells #[.int .i64 kind, .int .i64 ia, .int .i64 ii, .int .i64 o.kind, .string o.name, .int .i64 o.typ, .int .i64 o.node, .int .i64 o.num, .int .i64 o.ck, .int .u64 o.hi, .int .u64 o.lo, .bool o.cb, .string o.cs, .int .i64 o.file, .int .i64 o.line, .int .i64 o.col] 97)) w6 → Below w.heap.size w w6) := ⟨fun w6 hu => (below_then hB.out hws hbx).trans (hu.belowAt (fun k hk => (hTw.low k hk).1) h0x)⟩
      have HTX := Aside0.mk hTx
      have hl1' : st.outer.length < 1000 := by omega
      have hl2' : st.objs.length < 1000 := by omega
      have HL := Aside0.mk (And.intro hl1 hl2)
      have HTR : Aside0 (Tws w (wr.alloc (.cells #[.int .i64 kind, .int .i64 ia, .int .i64 ii, .int .i64 o.kind, .string o.name, .int .i64 o.typ, .int .i64 o.node, .int .i64 o.num, .int .i64 o.ck, .int .u64 o.hi, .int .u64 o.lo, .bool o.cb, .string o.cs, .int .i64 o.file, .int .i64 o.line, .int .i64 o.col] 97)) sb ub (2 + (j + 1)) (19 + (j + 1))) := ⟨(hT.out.below hbx).more (by omega) (by omega)⟩
      have HBR := Aside0.mk (below_then hB.out hws hbx)
      clear hb hbj hTw hTx hl1 hl2 hT hB hbx hws
      by_cases hk1 : kind = 1
      · as_aux_lemma =>
          subst hk1
          obtain ⟨ra, rc, hcall⟩ := HTX.out.open_ h0x ia hl1'
          have HCALL := Aside0.mk hcall
          clear hcall
          go_wp2_with (first
            | (go_at_call 35; refine HCALL.out.mono ?_; rintro e w6 ⟨rfl, hu6, hc6⟩; have z1 : w6.cell? ⟨wr.heap.size, 1, none⟩ = some (.int .i64 ia) := by { rw [blk_cell (HZ.out _ hu6)]; rfl }; have HC6 := Aside0.mk hc6; clear hu6 hc6)
            | (go_at_call 41; refine HC6.out.mono ?_; rintro e w7 ⟨rfl, hu7, hT7⟩; have HU7 := Aside0.mk hu7; have HT7 := Aside0.mk hT7; clear hu7 hT7))
          go_roundg (gk - 1)
          case measure => omega
          case rel => exact ⟨j + 1, by omega, by go_num, ⟨HT7.out.more (by have := HL.out; omega) (by have := HL.out; omega)⟩, ⟨HLO.out _ HU7.out⟩⟩
      · have hk1b : (kind == 1) = false := by simpa using hk1
        by_cases hk2 : kind = 2
        · as_aux_lemma =>
            subst hk2
            obtain ⟨ra, rc, hcall⟩ := HTX.out.put h0x ia o hn hl2'
            unfold Ob.val at hcall
            have HCALL := Aside0.mk hcall
            clear hcall
            go_wp2_with (first
              | (go_at_call 26; refine HCALL.out.mono ?_; rintro e w6 ⟨rfl, hu6, hc6⟩; have z1 : w6.cell? ⟨wr.heap.size, 1, none⟩ = some (.int .i64 ia) := by { rw [blk_cell (HZ.out _ hu6)]; rfl }; have z2 : w6.cell? ⟨wr.heap.size, 2, none⟩ = some (.int .i64 ii) := by { rw [blk_cell (HZ.out _ hu6)]; rfl }; have z3 : w6.cell? ⟨wr.heap.size, 3, none⟩ = some (.int .i64 o.kind) := by { rw [blk_cell (HZ.out _ hu6)]; rfl }; have z4 : w6.cell? ⟨wr.heap.size, 4, none⟩ = some (.string o.name) := by { rw [blk_cell (HZ.out _ hu6)]; rfl }; have z5 : w6.cell? ⟨wr.heap.size, 5, none⟩ = some (.int .i64 o.typ) := by { rw [blk_cell (HZ.out _ hu6)]; rfl }; have z6 : w6.cell? ⟨wr.heap.size, 6, none⟩ = some (.int .i64 o.node) := by { rw [blk_cell (HZ.out _ hu6)]; rfl }; have z7 : w6.cell? ⟨wr.heap.size, 7, none⟩ = some (.int .i64 o.num) := by { rw [blk_cell (HZ.out _ hu6)]; rfl }; have z8 : w6.cell? ⟨wr.heap.size, 8, none⟩ = some (.int .i64 o.ck) := by { rw [blk_cell (HZ.out _ hu6)]; rfl }; have z9 : w6.cell? ⟨wr.heap.size, 9, none⟩ = some (.int .u64 o.hi) := by { rw [blk_cell (HZ.out _ hu6)]; rfl }; have z10 : w6.cell? ⟨wr.heap.size, 10, none⟩ = some (.int .u64 o.lo) := by { rw [blk_cell (HZ.out _ hu6)]; rfl }; have z11 : w6.cell? ⟨wr.heap.size, 11, none⟩ = some (.bool o.cb) := by { rw [blk_cell (HZ.out _ hu6)]; rfl }; have z12 : w6.cell? ⟨wr.heap.size, 12, none⟩ = some (.string o.cs) := by { rw [blk_cell (HZ.out _ hu6)]; rfl }; have z13 : w6.cell? ⟨wr.heap.size, 13, none⟩ = some (.int .i64 o.file) := by { rw [blk_cell (HZ.out _ hu6)]; rfl }; have z14 : w6.cell? ⟨wr.heap.size, 14, none⟩ = some (.int .i64 o.line) := by { rw [blk_cell (HZ.out _ hu6)]; rfl }; have z15 : w6.cell? ⟨wr.heap.size, 15, none⟩ = some (.int .i64 o.col) := by { rw [blk_cell (HZ.out _ hu6)]; rfl }; have HC6 := Aside0.mk hc6; clear hu6 hc6)
              | (go_at_call 42; refine HC6.out.mono ?_; rintro e w7 ⟨rfl, hu7, hT7⟩; have HU7 := Aside0.mk hu7; have HT7 := Aside0.mk hT7; clear hu7 hT7))
            go_roundg (gk - 1)
            case measure => omega
            case rel => exact ⟨j + 1, by omega, by go_num, ⟨HT7.out.more (by have := HL.out; omega) (by have := HL.out; omega)⟩, ⟨HLO.out _ HU7.out⟩⟩
        · have hk2b : (kind == 2) = false := by simpa using hk2
          by_cases hk3 : kind = 3
          · as_aux_lemma =>
              subst hk3
              have hTd : Tw w (wr.alloc (.cells #[.int .i64 3, .int .i64 ia, .int .i64 ii, .int .i64 o.kind, .string o.name, .int .i64 o.typ, .int .i64 o.node, .int .i64 o.num, .int .i64 o.ck, .int .u64 o.hi, .int .u64 o.lo, .bool o.cb, .string o.cs, .int .i64 o.file, .int .i64 o.line, .int .i64 o.col] 97)).drew F G sb ub st := HTX.out.upd ((Upd.refl (fun _ => False) _).drew) (fun _ _ h => h)
              obtain ⟨rc, hcall⟩ := hTd.change h0x ii o
              unfold Ob.val at hcall
              have HCALL := Aside0.mk hcall
              have hblk := heap_alloc_new wr (.cells #[.int .i64 3, .int .i64 ia, .int .i64 ii, .int .i64 o.kind, .string o.name, .int .i64 o.typ, .int .i64 o.node, .int .i64 o.num, .int .i64 o.ck, .int .u64 o.hi, .int .u64 o.lo, .bool o.cb, .string o.cs, .int .i64 o.file, .int .i64 o.line, .int .i64 o.col] 97)
              have y1 : (wr.alloc (.cells #[.int .i64 3, .int .i64 ia, .int .i64 ii, .int .i64 o.kind, .string o.name, .int .i64 o.typ, .int .i64 o.node, .int .i64 o.num, .int .i64 o.ck, .int .u64 o.hi, .int .u64 o.lo, .bool o.cb, .string o.cs, .int .i64 o.file, .int .i64 o.line, .int .i64 o.col] 97)).cell? ⟨wr.heap.size, 1, none⟩ = some (.int .i64 ia) := by { rw [blk_cell hblk]; rfl }
              have y2 : (wr.alloc (.cells #[.int .i64 3, .int .i64 ia, .int .i64 ii, .int .i64 o.kind, .string o.name, .int .i64 o.typ, .int .i64 o.node, .int .i64 o.num, .int .i64 o.ck, .int .u64 o.hi, .int .u64 o.lo, .bool o.cb, .string o.cs, .int .i64 o.file, .int .i64 o.line, .int .i64 o.col] 97)).cell? ⟨wr.heap.size, 2, none⟩ = some (.int .i64 ii) := by { rw [blk_cell hblk]; rfl }
              have y3 : (wr.alloc (.cells #[.int .i64 3, .int .i64 ia, .int .i64 ii, .int .i64 o.kind, .string o.name, .int .i64 o.typ, .int .i64 o.node, .int .i64 o.num, .int .i64 o.ck, .int .u64 o.hi, .int .u64 o.lo, .bool o.cb, .string o.cs, .int .i64 o.file, .int .i64 o.line, .int .i64 o.col] 97)).cell? ⟨wr.heap.size, 3, none⟩ = some (.int .i64 o.kind) := by { rw [blk_cell hblk]; rfl }
              have y4 : (wr.alloc (.cells #[.int .i64 3, .int .i64 ia, .int .i64 ii, .int .i64 o.kind, .string o.name, .int .i64 o.typ, .int .i64 o.node, .int .i64 o.num, .int .i64 o.ck, .int .u64 o.hi, .int .u64 o.lo, .bool o.cb, .string o.cs, .int .i64 o.file, .int .i64 o.line, .int .i64 o.col] 97)).cell? ⟨wr.heap.size, 4, none⟩ = some (.string o.name) := by { rw [blk_cell hblk]; rfl }
              have y5 : (wr.alloc (.cells #[.int .i64 3, .int .i64 ia, .int .i64 ii, .int .i64 o.kind, .string o.name, .int .i64 o.typ, .int .i64 o.node, .int .i64 o.num, .int .i64 o.ck, .int .u64 o.hi, .int .u64 o.lo, .bool o.cb, .string o.cs, .int .i64 o.file, .int .i64 o.line, .int .i64 o.col] 97)).cell? ⟨wr.heap.size, 5, none⟩ = some (.int .i64 o.typ) := by { rw [blk_cell hblk]; rfl }
              have y6 : (wr.alloc (.cells #[.int .i64 3, .int .i64 ia, .int .i64 ii, .int .i64 o.kind, .string o.name, .int .i64 o.typ, .int .i64 o.node, .int .i64 o.num, .int .i64 o.ck, .int .u64 o.hi, .int .u64 o.lo, .bool o.cb, .string o.cs, .int .i64 o.file, .int .i64 o.line, .int .i64 o.col] 97)).cell? ⟨wr.heap.size, 6, none⟩ = some (.int .i64 o.node) := by { rw [blk_cell hblk]; rfl }
              have y7 : (wr.alloc (.cells #[.int .i64 3, .int .i64 ia, .int .i64 ii, .int .i64 o.kind, .string o.name, .int .i64 o.typ, .int .i64 o.node, .int .i64 o.num, .int .i64 o.ck, .int .u64 o.hi, .int .u64 o.lo, .bool o.cb, .string o.cs, .int .i64 o.file, .int .i64 o.line, .int .i64 o.col] 97)).cell? ⟨wr.heap.size, 7, none⟩ = some (.int .i64 o.num) := by { rw [blk_cell hblk]; rfl }
              have y8 : (wr.alloc (.cells #[.int .i64 3, .int .i64 ia, .int .i64 ii, .int .i64 o.kind, .string o.name, .int .i64 o.typ, .int .i64 o.node, .int .i64 o.num, .int .i64 o.ck, .int .u64 o.hi, .int .u64 o.lo, .bool o.cb, .string o.cs, .int .i64 o.file, .int .i64 o.line, .int .i64 o.col] 97)).cell? ⟨wr.heap.size, 8, none⟩ = some (.int .i64 o.ck) := by { rw [blk_cell hblk]; rfl }
              have y9 : (wr.alloc (.cells #[.int .i64 3, .int .i64 ia, .int .i64 ii, .int .i64 o.kind, .string o.name, .int .i64 o.typ, .int .i64 o.node, .int .i64 o.num, .int .i64 o.ck, .int .u64 o.hi, .int .u64 o.lo, .bool o.cb, .string o.cs, .int .i64 o.file, .int .i64 o.line, .int .i64 o.col] 97)).cell? ⟨wr.heap.size, 9, none⟩ = some (.int .u64 o.hi) := by { rw [blk_cell hblk]; rfl }
              have y10 : (wr.alloc (.cells #[.int .i64 3, .int .i64 ia, .int .i64 ii, .int .i64 o.kind, .string o.name, .int .i64 o.typ, .int .i64 o.node, .int .i64 o.num, .int .i64 o.ck, .int .u64 o.hi, .int .u64 o.lo, .bool o.cb, .string o.cs, .int .i64 o.file, .int .i64 o.line, .int .i64 o.col] 97)).cell? ⟨wr.heap.size, 10, none⟩ = some (.int .u64 o.lo) := by { rw [blk_cell hblk]; rfl }
              have y11 : (wr.alloc (.cells #[.int .i64 3, .int .i64 ia, .int .i64 ii, .int .i64 o.kind, .string o.name, .int .i64 o.typ, .int .i64 o.node, .int .i64 o.num, .int .i64 o.ck, .int .u64 o.hi, .int .u64 o.lo, .bool o.cb, .string o.cs, .int .i64 o.file, .int .i64 o.line, .int .i64 o.col] 97)).cell? ⟨wr.heap.size, 11, none⟩ = some (.bool o.cb) := by { rw [blk_cell hblk]; rfl }
              have y12 : (wr.alloc (.cells #[.int .i64 3, .int .i64 ia, .int .i64 ii, .int .i64 o.kind, .string o.name, .int .i64 o.typ, .int .i64 o.node, .int .i64 o.num, .int .i64 o.ck, .int .u64 o.hi, .int .u64 o.lo, .bool o.cb, .string o.cs, .int .i64 o.file, .int .i64 o.line, .int .i64 o.col] 97)).cell? ⟨wr.heap.size, 12, none⟩ = some (.string o.cs) := by { rw [blk_cell hblk]; rfl }
              have y13 : (wr.alloc (.cells #[.int .i64 3, .int .i64 ia, .int .i64 ii, .int .i64 o.kind, .string o.name, .int .i64 o.typ, .int .i64 o.node, .int .i64 o.num, .int .i64 o.ck, .int .u64 o.hi, .int .u64 o.lo, .bool o.cb, .string o.cs, .int .i64 o.file, .int .i64 o.line, .int .i64 o.col] 97)).cell? ⟨wr.heap.size, 13, none⟩ = some (.int .i64 o.file) := by { rw [blk_cell hblk]; rfl }
              have y14 : (wr.alloc (.cells #[.int .i64 3, .int .i64 ia, .int .i64 ii, .int .i64 o.kind, .string o.name, .int .i64 o.typ, .int .i64 o.node, .int .i64 o.num, .int .i64 o.ck, .int .u64 o.hi, .int .u64 o.lo, .bool o.cb, .string o.cs, .int .i64 o.file, .int .i64 o.line, .int .i64 o.col] 97)).cell? ⟨wr.heap.size, 14, none⟩ = some (.int .i64 o.line) := by { rw [blk_cell hblk]; rfl }
              have y15 : (wr.alloc (.cells #[.int .i64 3, .int .i64 ia, .int .i64 ii, .int .i64 o.kind, .string o.name, .int .i64 o.typ, .int .i64 o.node, .int .i64 o.num, .int .i64 o.ck, .int .u64 o.hi, .int .u64 o.lo, .bool o.cb, .string o.cs, .int .i64 o.file, .int .i64 o.line, .int .i64 o.col] 97)).cell? ⟨wr.heap.size, 15, none⟩ = some (.int .i64 o.col) := by { rw [blk_cell hblk]; rfl }
              clear hcall hTd hblk
              go_wp2_with fail
              go_region_held3 (fun w' => w'.cell? ⟨wr.heap.size, 1, none⟩ = some (.int .i64 ia) ∧ w'.cell? ⟨wr.heap.size, 2, none⟩ = some (.int .i64 ii) ∧ w'.cell? ⟨wr.heap.size, 3, none⟩ = some (.int .i64 o.kind) ∧ w'.cell? ⟨wr.heap.size, 4, none⟩ = some (.string o.name) ∧ w'.cell? ⟨wr.heap.size, 5, none⟩ = some (.int .i64 o.typ) ∧ w'.cell? ⟨wr.heap.size, 6, none⟩ = some (.int .i64 o.node) ∧ w'.cell? ⟨wr.heap.size, 7, none⟩ = some (.int .i64 o.num) ∧ w'.cell? ⟨wr.heap.size, 8, none⟩ = some (.int .i64 o.ck) ∧ w'.cell? ⟨wr.heap.size, 9, none⟩ = some (.int .u64 o.hi) ∧ w'.cell? ⟨wr.heap.size, 10, none⟩ = some (.int .u64 o.lo) ∧ w'.cell? ⟨wr.heap.size, 11, none⟩ = some (.bool o.cb) ∧ w'.cell? ⟨wr.heap.size, 12, none⟩ = some (.string o.cs) ∧ w'.cell? ⟨wr.heap.size, 13, none⟩ = some (.int .i64 o.file) ∧ w'.cell? ⟨wr.heap.size, 14, none⟩ = some (.int .i64 o.line) ∧ w'.cell? ⟨wr.heap.size, 15, none⟩ = some (.int .i64 o.col))
                (first
                  | exact ⟨p1, p2, p3, p4, p5, p6, p7, p8, p9, p10, p11, p12, p13, p14, p15⟩
                  | exact ⟨z1, z2, z3, z4, z5, z6, z7, z8, z9, z10, z11, z12, z13, z14, z15⟩
                  | exact ⟨y1, y2, y3, y4, y5, y6, y7, y8, y9, y10, y11, y12, y13, y14, y15⟩)
                ((first
                  | (go_at_call 36; refine HCALL.out.mono ?_; rintro e w6 ⟨rfl, hu6, hc6⟩; have z1 : w6.cell? ⟨wr.heap.size, 1, none⟩ = some (.int .i64 ia) := by { rw [blk_cell (HZ.out _ (Upd.mk hu6.os hu6.tape hu6.output hu6.size hu6.block))]; rfl }; have z2 : w6.cell? ⟨wr.heap.size, 2, none⟩ = some (.int .i64 ii) := by { rw [blk_cell (HZ.out _ (Upd.mk hu6.os hu6.tape hu6.output hu6.size hu6.block))]; rfl }; have z3 : w6.cell? ⟨wr.heap.size, 3, none⟩ = some (.int .i64 o.kind) := by { rw [blk_cell (HZ.out _ (Upd.mk hu6.os hu6.tape hu6.output hu6.size hu6.block))]; rfl }; have z4 : w6.cell? ⟨wr.heap.size, 4, none⟩ = some (.string o.name) := by { rw [blk_cell (HZ.out _ (Upd.mk hu6.os hu6.tape hu6.output hu6.size hu6.block))]; rfl }; have z5 : w6.cell? ⟨wr.heap.size, 5, none⟩ = some (.int .i64 o.typ) := by { rw [blk_cell (HZ.out _ (Upd.mk hu6.os hu6.tape hu6.output hu6.size hu6.block))]; rfl }; have z6 : w6.cell? ⟨wr.heap.size, 6, none⟩ = some (.int .i64 o.node) := by { rw [blk_cell (HZ.out _ (Upd.mk hu6.os hu6.tape hu6.output hu6.size hu6.block))]; rfl }; have z7 : w6.cell? ⟨wr.heap.size, 7, none⟩ = some (.int .i64 o.num) := by { rw [blk_cell (HZ.out _ (Upd.mk hu6.os hu6.tape hu6.output hu6.size hu6.block))]; rfl }; have z8 : w6.cell? ⟨wr.heap.size, 8, none⟩ = some (.int .i64 o.ck) := by { rw [blk_cell (HZ.out _ (Upd.mk hu6.os hu6.tape hu6.output hu6.size hu6.block))]; rfl }; have z9 : w6.cell? ⟨wr.heap.size, 9, none⟩ = some (.int .u64 o.hi) := by { rw [blk_cell (HZ.out _ (Upd.mk hu6.os hu6.tape hu6.output hu6.size hu6.block))]; rfl }; have z10 : w6.cell? ⟨wr.heap.size, 10, none⟩ = some (.int .u64 o.lo) := by { rw [blk_cell (HZ.out _ (Upd.mk hu6.os hu6.tape hu6.output hu6.size hu6.block))]; rfl }; have z11 : w6.cell? ⟨wr.heap.size, 11, none⟩ = some (.bool o.cb) := by { rw [blk_cell (HZ.out _ (Upd.mk hu6.os hu6.tape hu6.output hu6.size hu6.block))]; rfl }; have z12 : w6.cell? ⟨wr.heap.size, 12, none⟩ = some (.string o.cs) := by { rw [blk_cell (HZ.out _ (Upd.mk hu6.os hu6.tape hu6.output hu6.size hu6.block))]; rfl }; have z13 : w6.cell? ⟨wr.heap.size, 13, none⟩ = some (.int .i64 o.file) := by { rw [blk_cell (HZ.out _ (Upd.mk hu6.os hu6.tape hu6.output hu6.size hu6.block))]; rfl }; have z14 : w6.cell? ⟨wr.heap.size, 14, none⟩ = some (.int .i64 o.line) := by { rw [blk_cell (HZ.out _ (Upd.mk hu6.os hu6.tape hu6.output hu6.size hu6.block))]; rfl }; have z15 : w6.cell? ⟨wr.heap.size, 15, none⟩ = some (.int .i64 o.col) := by { rw [blk_cell (HZ.out _ (Upd.mk hu6.os hu6.tape hu6.output hu6.size hu6.block))]; rfl }; have HC6 := Aside0.mk hc6; clear hu6 hc6)
                  | (go_at_call 43; refine HC6.out.mono ?_; rintro e w7 ⟨rfl, hu7, hT7⟩; have hu7x := Upd.mk (S := fun k => F k ∨ G k) (w := wr.alloc (.cells #[.int .i64 3, .int .i64 ia, .int .i64 ii, .int .i64 o.kind, .string o.name, .int .i64 o.typ, .int .i64 o.node, .int .i64 o.num, .int .i64 o.ck, .int .u64 o.hi, .int .u64 o.lo, .bool o.cb, .string o.cs, .int .i64 o.file, .int .i64 o.line, .int .i64 o.col] 97)) hu7.os hu7.tape hu7.output hu7.size hu7.block; have p1 : w7.cell? ⟨wr.heap.size, 1, none⟩ = some (.int .i64 ia) := by { rw [blk_cell (HZ.out _ hu7x)]; rfl }; have p2 : w7.cell? ⟨wr.heap.size, 2, none⟩ = some (.int .i64 ii) := by { rw [blk_cell (HZ.out _ hu7x)]; rfl }; have p3 : w7.cell? ⟨wr.heap.size, 3, none⟩ = some (.int .i64 o.kind) := by { rw [blk_cell (HZ.out _ hu7x)]; rfl }; have p4 : w7.cell? ⟨wr.heap.size, 4, none⟩ = some (.string o.name) := by { rw [blk_cell (HZ.out _ hu7x)]; rfl }; have p5 : w7.cell? ⟨wr.heap.size, 5, none⟩ = some (.int .i64 o.typ) := by { rw [blk_cell (HZ.out _ hu7x)]; rfl }; have p6 : w7.cell? ⟨wr.heap.size, 6, none⟩ = some (.int .i64 o.node) := by { rw [blk_cell (HZ.out _ hu7x)]; rfl }; have p7 : w7.cell? ⟨wr.heap.size, 7, none⟩ = some (.int .i64 o.num) := by { rw [blk_cell (HZ.out _ hu7x)]; rfl }; have p8 : w7.cell? ⟨wr.heap.size, 8, none⟩ = some (.int .i64 o.ck) := by { rw [blk_cell (HZ.out _ hu7x)]; rfl }; have p9 : w7.cell? ⟨wr.heap.size, 9, none⟩ = some (.int .u64 o.hi) := by { rw [blk_cell (HZ.out _ hu7x)]; rfl }; have p10 : w7.cell? ⟨wr.heap.size, 10, none⟩ = some (.int .u64 o.lo) := by { rw [blk_cell (HZ.out _ hu7x)]; rfl }; have p11 : w7.cell? ⟨wr.heap.size, 11, none⟩ = some (.bool o.cb) := by { rw [blk_cell (HZ.out _ hu7x)]; rfl }; have p12 : w7.cell? ⟨wr.heap.size, 12, none⟩ = some (.string o.cs) := by { rw [blk_cell (HZ.out _ hu7x)]; rfl }; have p13 : w7.cell? ⟨wr.heap.size, 13, none⟩ = some (.int .i64 o.file) := by { rw [blk_cell (HZ.out _ hu7x)]; rfl }; have p14 : w7.cell? ⟨wr.heap.size, 14, none⟩ = some (.int .i64 o.line) := by { rw [blk_cell (HZ.out _ hu7x)]; rfl }; have p15 : w7.cell? ⟨wr.heap.size, 15, none⟩ = some (.int .i64 o.col) := by { rw [blk_cell (HZ.out _ hu7x)]; rfl }; have HU7 := Aside0.mk hu7x; have HT7 := Aside0.mk hT7; clear hu7 hT7 hu7x)))
              all_goals
                go_wp2
                go_roundg (gk - 1)
                case measure => omega
                case rel => exact ⟨j + 1, by omega, by go_num, ⟨HT7.out.more (by have := HL.out; omega) (by have := HL.out; omega)⟩, ⟨HLO.out _ HU7.out⟩⟩
          · have hk3b : (kind == 3) = false := by simpa using hk3
            go_wp2
            go_roundg (gk - 1)
            case measure => omega
            case rel => exact ⟨j + 1, by omega, by go_num, HTR, HBR⟩
    · by_cases hl1 : (j : Int) < (L.length : Int)
      · have hl2 : (60 : Int) ≤ (j : Int) := by omega
        clear hlt
        have hT62 := Aside0.mk (hT.out.more (n2 := 62) (m2 := 79) (by omega) (by omega))
        go_wp2
        go_ret3
        exact ⟨sb, ub, rfl, hB.out, hT62.out⟩
      · have hl2 : (L.length : Int) ≤ (j : Int) := by omega
        clear hlt hl1
        have hT62 := Aside0.mk (hT.out.more (n2 := 62) (m2 := 79) (by omega) (by omega))
        go_wp2
        go_ret3
        exact ⟨sb, ub, rfl, hB.out, hT62.out⟩
end Go.Proofs.Ytnmahbpkaocjdaa
