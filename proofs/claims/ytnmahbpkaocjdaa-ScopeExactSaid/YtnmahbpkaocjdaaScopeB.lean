/-
  Scopes in memory: the program's.
-/
import Derived.Test.YtnmahbpkaocjdaaScopeA
import Derived.Maps.OwnSet
import Derived.Maps.OwnOps
import Derived.DeepKeys4
import Derived.KernelRfl
import Derived.Outline
set_option linter.unusedVariables false
namespace Go.Proofs.Ytnmahbpkaocjdaa
open Go.RowKit Go.Proofs.YtnmahbpkaocjdaaW.PrintWords

theorem laidOut07 : laidOutB Try.prog = true := by kernel_rfl
theorem row105 : (105 : TypeId) < Try.prog.types.size := of_decide_eq_true (by kernel_rfl)
theorem wide_of {P : Program} {k : TypeId} {fs : Array Field} (h : P.underlying k = some (.struct fs)) : (match P.underlying k with | some (.array _ _) | some (.struct _) => true | _ => false) = true := by rw [h]
theorem law105 : Maps.Keyed Try.prog 105 := Maps.Keyed.of_law (deep_law_laid laidOut07 (m := 2) (by omega) row105 (by kernel_rfl) (by rw [Try.underlying105]))
theorem keyed_pair {P : Program} {k : TypeId} {fs : Array Field} {f0 f1 : Field} (hk : P.underlying k = some (.struct fs)) (hfs : fs = #[f0, f1]) {m : Nat} (hn : P.types.size = m + 1)
    (o0 : f0.offset = 0) (o1 : f1.offset = 1) (n0 : f0.name != "_") (n1 : f1.name != "_") (ha : P.underlying f0.type = some (.int .i64)) (hb : P.underlying f1.type = some .string) (ca : P.cellsOf f0.type = 1) (cb : P.cellsOf f1.type = 1) (ck : P.cellsOf k = 2) (hkt : P.keyType k = true)
    (i : Int) (h : (Lit.int .i64 i).wf = true) (s : ByteArray) (hs : s.size ≤ maxLen) : ∃ l, keyOf P k (.agg #[.int .i64 i, .string s]) = some l := by
  subst hfs
  have hf : (Value.agg #[.int .i64 i, .string s]).formed P k = true := by simp [Value.formed, hk, ck]
  have h0 : P.keyLits (m + 1) f0.type [.int .i64 i] = some [.int .i64 i] := by simp [Program.keyLits, ha, h]
  have h1 : P.keyLits (m + 1) f1.type [.string s] = some [.string s.data.toList] := by simp [Program.keyLits, hb, hs]
  unfold keyOf
  rw [hk]
  simp only [hkt, hf, Bool.and_self, if_true]
  rw [hn]
  unfold Program.keyLits
  rw [hk]
  simp [ck, n0, n1, o0, o1, ca, cb, Value.cells, h0, h1]
theorem keyed105 (i : Int) (h : (Lit.int .i64 i).wf = true) (s : ByteArray) (hs : s.size ≤ maxLen) : ∃ l, keyOf Try.prog 105 (.agg #[.int .i64 i, .string s]) = some l :=
  keyed_pair Try.underlying105 rfl (m := 125) (by kernel_rfl) rfl rfl (by decide) (by decide) Try.underlying3 Try.underlying9 (by kernel_rfl) (by kernel_rfl) (by kernel_rfl) (by kernel_rfl) i h s hs

def intk : Kd Int := Kd.scalar (fun i => .int .i64 i) (fun _ => rfl)
def obk : Kd Ob := flat 13 Ob.enc (fun _ => rfl) (fun x u hu => by
  simp only [Ob.enc, List.mem_cons, List.not_mem_nil, or_false] at hu
  rcases hu with rfl | rfl | rfl | rfl | rfl | rfl | rfl | rfl | rfl | rfl | rfl | rfl | rfl <;> rfl)

/-- What the map holds, key by key. -/
def MapView (D : DataW Unit) (st : St) : Prop := ∀ (i : Int) (nm : ByteArray) (kl : Lit), keyOf Try.prog 105 (.agg #[.int .i64 i, .string nm]) = some kl →
  Maps.has D kl = decide (st.here i nm ≠ 0) ∧ D.atKey kl (.lit (.int .i64 0)) = .lit (.int .i64 (st.here i nm : Int))

theorem MapView.same {D : DataW Unit} {st st2 : St} (h : MapView D st) (he : ∀ i nm, st2.here i nm = st.here i nm) : MapView D st2 := fun i nm kl hk => by rw [he]; exact h i nm kl hk
theorem MapView.put {D : DataW Unit} {st : St} (h : MapView D st) (hm : Maps.IsMap D) (g : st.Good) {i : Int} {o : Ob} (hn : st.here i o.name = 0) (hu : o.name ≠ under) {kl : Lit} (hk : keyOf Try.prog 105 (.agg #[.int .i64 i, .string o.name]) = some kl) :
    MapView (D.put kl (.lit (.int .i64 (st.objs.length : Int)))) (st.put i o) := by
  have hp := g.pos
  intro i2 nm kl2 hk2
  rw [St.here_put g]
  by_cases he : kl2 = kl
  · subst he
    have := law105.inj hk hk2
    injection this with this
    have hl := congrArg Array.toList this
    simp only [List.cons.injEq, Value.int.injEq, Value.string.injEq, true_and, and_true] at hl
    obtain ⟨rfl, rfl⟩ := hl
    rw [if_neg (by simp [hn]), if_pos ⟨rfl, rfl, hu⟩]
    refine ⟨?_, Maps.atKey_put_same hm (law105.key hk) _ _⟩
    rw [Maps.has_put_same hm (law105.key hk)]
    exact (decide_eq_true (by omega)).symm
  · have h2 : ¬ (i2 = i ∧ nm = o.name ∧ nm ≠ under) := by
      rintro ⟨rfl, rfl, _⟩
      rw [hk] at hk2
      injection hk2 with hk2
      exact he hk2.symm
    rw [if_neg h2, Maps.has_put_other he, Maps.atKey_put_other he]
    by_cases h3 : st.here i2 nm ≠ 0
    · rw [if_pos h3]; exact h i2 nm kl2 hk2
    · rw [if_neg h3]
      have h4 : st.here i2 nm = 0 := by simpa using h3
      have := h i2 nm kl2 hk2
      rw [h4] at this
      exact this
/-- '_' is never found: the map needs no entry. -/
theorem MapView.put_under {D : DataW Unit} {st : St} (h : MapView D st) (g : st.Good) {i : Int} {o : Ob} (hu : o.name = under) : MapView D (st.put i o) := h.same (fun i2 nm => by
  rw [St.here_put g]
  by_cases h3 : st.here i2 nm ≠ 0
  · rw [if_pos h3]
  · rw [if_neg h3, if_neg (fun h => h.2.2 (h.2.1.trans hu))]
    simp at h3
    exact h3.symm)

theorem ownsMap_upd {H : Type} {P : Program} {k : TypeId} {R : Value → Option (DataW H × List MemPlace)} {w w1 : World} {b n : Nat} {D : DataW H} {S : Nat → Prop} (h : w.ownsMap P k R b n D) (hu : Upd S w w1) (hn : ¬ S b) : w1.ownsMap P k R b n D := by
  obtain ⟨es, clock, hb, r⟩ := h
  exact ⟨es, clock, hu.blk hb hn, r⟩

structure SIn (w0 w : World) (col : Nat → Nat) (sb : Nat) (st : St) : Prop where
  c1 : col sb = 1
  blk : ∃ ov bv mb n, ∃ D : DataW Unit, w.heap[sb]? = some (.cells #[ov, bv, .map (some mb)] 103 (0, 0)) ∧ intk.R 3 w w0.heap.size (fun k => col k = 3) ov st.outer ∧ obk.R 70 w w0.heap.size (fun k => col k = 4) bv st.objs ∧ col mb = 2 ∧
    w.ownsMap Try.prog 105 (plainElem Try.prog 3) mb n D ∧ n ≤ st.objs.length ∧ MapView D st
  lt : ∀ k, col k ≠ 0 → w0.heap.size ≤ k ∧ k < w.heap.size

/-- The program's scopes; all that they lead to is among F. -/
def SRep (w0 w : World) (F : Nat → Prop) (sb : Nat) (st : St) : Prop := st.Good ∧ ∃ col, SIn w0 w col sb st ∧ ∀ k, col k ≠ 0 → F k

theorem SIn.upd {w0 w w1 : World} {col : Nat → Nat} {S : Nat → Prop} {sb : Nat} {st : St} (h : SIn w0 w col sb st) (hu : Upd S w w1) (hn : ∀ k, col k ≠ 0 → ¬ S k) : SIn w0 w1 col sb st where
  c1 := h.c1
  blk := by
    obtain ⟨ov, bv, mb, n, D, hb, hr1, hr2, hc, hm, hn2, hv⟩ := h.blk
    exact ⟨ov, bv, mb, n, D, hu.blk hb (hn _ (by rw [h.c1]; decide)), Kd.R_upd hr1 hu (fun k hk => hn k (by rw [hk]; decide)), Kd.R_upd hr2 hu (fun k hk => hn k (by rw [hk]; decide)), hc, ownsMap_upd hm hu (hn _ (by rw [hc]; decide)), hn2, hv⟩
  lt := fun k hk => ⟨(h.lt k hk).1, Nat.lt_of_lt_of_le (h.lt k hk).2 hu.size⟩
theorem SRep.upd {w0 w w1 : World} {F S : Nat → Prop} {sb : Nat} {st : St} (h : SRep w0 w F sb st) (hu : Upd S w w1) (hn : ∀ k, F k → ¬ S k) : SRep w0 w1 F sb st := by
  obtain ⟨g, col, hI, hF⟩ := h
  exact ⟨g, col, hI.upd hu (fun k hk => hn k (hF k hk)), hF⟩
theorem SRep.mono {w0 w : World} {F G : Nat → Prop} {sb : Nat} {st : St} (h : SRep w0 w F sb st) (hn : ∀ k, w0.heap.size ≤ k → k < w.heap.size → F k → G k) : SRep w0 w G sb st := by
  obtain ⟨g, col, hI, hF⟩ := h
  exact ⟨g, col, hI, fun k hk => hn k (hI.lt k hk).1 (hI.lt k hk).2 (hF k hk)⟩
theorem SRep.below {w0 w w1 : World} {F : Nat → Prop} {sb : Nat} {st : St} (h : SRep w0 w F sb st) (hb : Below w.heap.size w w1) : SRep w0 w1 F sb st := h.upd (Upd.of_below hb (fun _ => False)) (fun _ _ h => h)

theorem int_cell {w : World} {base : Nat} {ok : Nat → Prop} {v : Value} {L : List Int} (h : intk.R 3 w base ok v L) : ∃ A c, v = .slice A L.length c ∧ L.length ≤ c ∧ ∀ k : Nat, k < L.length → ∃ lb, A = some ⟨lb, 0, none⟩ ∧ w.cell? ⟨lb, k, none⟩ = some (.int .i64 (L.getD k 0)) := by
  obtain ⟨A, c, hv⟩ := Kd.R_slice h
  subst hv
  refine ⟨A, c, rfl, (Kd.R_reads' h).2.1, fun k hk => ?_⟩
  obtain ⟨g, cap, hv, _⟩ := Kd.R_form h (by omega)
  injection hv with ha _ hc
  subst ha; subst hc
  refine ⟨g, rfl, ?_⟩
  have h3 := (Kd.R_cell (0 : Int) h (k : Int) (by omega) (by omega)).1
  rw [Int.toNat_natCast] at h3
  rw [h3]
  simp [rdOf, List.getD_eq_getElem?_getD, hk]

/-- The thirteen cells of an object. -/
def ObAt (w : World) (g o : Nat) (x : Ob) : Prop :=
  w.cell? ⟨g, o, none⟩ = some (.int .i64 x.kind) ∧ w.cell? ⟨g, o + 1, none⟩ = some (.string x.name) ∧ w.cell? ⟨g, o + 2, none⟩ = some (.int .i64 x.typ) ∧ w.cell? ⟨g, o + 3, none⟩ = some (.int .i64 x.node) ∧
  w.cell? ⟨g, o + 4, none⟩ = some (.int .i64 x.num) ∧ w.cell? ⟨g, o + 5, none⟩ = some (.int .i64 x.ck) ∧ w.cell? ⟨g, o + 6, none⟩ = some (.int .u64 x.hi) ∧ w.cell? ⟨g, o + 7, none⟩ = some (.int .u64 x.lo) ∧
  w.cell? ⟨g, o + 8, none⟩ = some (.bool x.cb) ∧ w.cell? ⟨g, o + 9, none⟩ = some (.string x.cs) ∧ w.cell? ⟨g, o + 10, none⟩ = some (.int .i64 x.file) ∧ w.cell? ⟨g, o + 11, none⟩ = some (.int .i64 x.line) ∧ w.cell? ⟨g, o + 12, none⟩ = some (.int .i64 x.col)

theorem ob_cell {w : World} {base : Nat} {ok : Nat → Prop} {v : Value} {L : List Ob} (h : obk.R 70 w base ok v L) : ∃ A c, v = .slice A L.length c ∧ L.length ≤ c ∧ ∀ k : Nat, k < L.length → ∃ lb, A = some ⟨lb, 0, none⟩ ∧ ok lb ∧ (∀ j, w.frozen? ⟨lb, j, none⟩ = false) ∧ ObAt w lb (k * 13) (L.getD k Ob.zero) := by
  obtain ⟨A, c, hv⟩ := Kd.R_slice h
  subst hv
  refine ⟨A, c, rfl, (Kd.R_reads' h).2.1, fun k hk => ?_⟩
  obtain ⟨g, cap, hv, _, _, cells, hcells⟩ := Kd.R_form h (by omega)
  injection hv with ha _ hc
  subst ha; subst hc
  refine ⟨g, rfl, h.1 g (by simp [Value.ownBlock]), fun j => blk_frozen hcells j, ?_⟩
  obtain ⟨cs, hcl, hM, hcell, _⟩ := Kd.R_elem h Ob.zero (k : Int) (by omega) (by omega)
  rw [Int.toNat_natCast] at hM hcell
  have hM' : cs = (L.getD k Ob.zero).enc := hM
  subst hM'
  exact ⟨hcell 0 _ rfl, hcell 1 _ rfl, hcell 2 _ rfl, hcell 3 _ rfl, hcell 4 _ rfl, hcell 5 _ rfl, hcell 6 _ rfl, hcell 7 _ rfl, hcell 8 _ rfl, hcell 9 _ rfl, hcell 10 _ rfl, hcell 11 _ rfl, hcell 12 _ rfl⟩

/-- What the walk reads. -/
theorem SIn.cells {w0 w : World} {col : Nat → Nat} {sb : Nat} {st : St} (h : SIn w0 w col sb st) : ∃ A1 c1 A2 c2 mb, w.cell? ⟨sb, 0, none⟩ = some (.slice A1 st.outer.length c1) ∧ w.cell? ⟨sb, 1, none⟩ = some (.slice A2 st.objs.length c2) ∧ w.cell? ⟨sb, 2, none⟩ = some (.map (some mb)) ∧
    (∀ k : Nat, k < st.outer.length → ∃ lb, A1 = some ⟨lb, 0, none⟩ ∧ w.cell? ⟨lb, k, none⟩ = some (.int .i64 (st.out k))) ∧
    (∀ k : Nat, k < st.objs.length → ∃ lb, A2 = some ⟨lb, 0, none⟩ ∧ ObAt w lb (k * 13) (st.ob k)) ∧
    ∃ n, ∃ D : DataW Unit, w.ownsMap Try.prog 105 (plainElem Try.prog 3) mb n D ∧ n ≤ st.objs.length ∧ MapView D st := by
  obtain ⟨ov, bv, mb, n, D, hb, hr1, hr2, hc, hm, hn, hv⟩ := h.blk
  obtain ⟨A1, c1, rfl, _, h1⟩ := int_cell hr1
  obtain ⟨A2, c2, rfl, _, h2⟩ := ob_cell hr2
  refine ⟨A1, c1, A2, c2, mb, by rw [blk_cell hb]; rfl, by rw [blk_cell hb]; rfl, by rw [blk_cell hb]; rfl, fun k hk => ?_, fun k hk => ?_, n, D, hm, hn, hv⟩
  · obtain ⟨lb, hA, hc⟩ := h1 k hk
    refine ⟨lb, hA, ?_⟩
    rw [hc]
    simp [St.out]
  · obtain ⟨lb, hA, _, _, hc⟩ := h2 k hk
    exact ⟨lb, hA, hc⟩
end Go.Proofs.Ytnmahbpkaocjdaa
