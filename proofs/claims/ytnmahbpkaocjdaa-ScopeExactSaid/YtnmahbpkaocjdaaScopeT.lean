/-
  Scopes: acts that came in.
-/
import Derived.Test.YtnmahbpkaocjdaaScopeS
import Derived.Test.YtnmahbpkaocjdaaO
set_option linter.unusedVariables false
namespace Go.Proofs.Ytnmahbpkaocjdaa
open Go.RowKit Go.Proofs.YtnmahbpkaocjdaaW.PrintWords

section
variable {H : Type} {enc : TypeId × Value → H} {w : World} {base : Nat} {spare : Nat → Bool} {held : Bool} {fuel : Nat}

theorem c3_ : Try.prog.cellsOf 3 = 1 := by kernel_rfl
theorem c4_ : Try.prog.cellsOf 4 = 1 := by kernel_rfl
theorem c9_ : Try.prog.cellsOf 9 = 1 := by kernel_rfl
theorem c62_ : Try.prog.cellsOf 62 = 1 := by kernel_rfl
theorem c64_ : Try.prog.cellsOf 64 = 2 := by kernel_rfl
theorem c66_ : Try.prog.cellsOf 66 = 5 := by kernel_rfl
theorem c68_ : Try.prog.cellsOf 68 = 3 := by kernel_rfl
theorem c70_ : Try.prog.cellsOf 70 = 13 := by kernel_rfl
theorem c97_ : Try.prog.cellsOf 97 = 16 := by kernel_rfl

set_option maxRecDepth 100000 in
theorem read_wide {a b : Value} {x : DataW H × List MemPlace} (h : DataW.trod enc Try.prog w base spare held fuel 64 [a, b] = some x) : ∃ hi lo : Int, a = .int .u64 hi ∧ b = .int .u64 lo := by
  obtain ⟨xs, n, _, _, hl, hlen, hf⟩ := DataW.trod_struct Try.underlying64 h
  have hx : xs.length = 2 := hlen
  match xs, hx with
  | [x0, x1], _ =>
    have h0 := hf 0 _ rfl
    have h1 := hf 1 _ rfl
    simp [c62_] at h0 h1
    obtain ⟨k, he, _⟩ := DataW.trod_int Try.underlying62 h0
    obtain ⟨i, he1, _⟩ := DataW.trod_int Try.underlying62 h1
    simp at he he1
    exact ⟨k, i, he, he1⟩

set_option maxRecDepth 100000 in
theorem read_pos {a b c : Value} {x : DataW H × List MemPlace} (h : DataW.trod enc Try.prog w base spare held fuel 68 [a, b, c] = some x) : ∃ i j k : Int, a = .int .i64 i ∧ b = .int .i64 j ∧ c = .int .i64 k := by
  obtain ⟨xs, n, _, _, hl, hlen, hf⟩ := DataW.trod_struct Try.underlying68 h
  have hx : xs.length = 3 := hlen
  match xs, hx with
  | [x0, x1, x2], _ =>
    have h0 := hf 0 _ rfl
    have h1 := hf 1 _ rfl
    have h2 := hf 2 _ rfl
    simp [c3_] at h0 h1 h2
    obtain ⟨k, he, _⟩ := DataW.trod_int Try.underlying3 h0
    obtain ⟨i, he1, _⟩ := DataW.trod_int Try.underlying3 h1
    obtain ⟨j, he2, _⟩ := DataW.trod_int Try.underlying3 h2
    simp at he he1 he2
    exact ⟨k, i, j, he, he1, he2⟩

set_option maxRecDepth 100000 in
theorem read_konst {a b c d e : Value} {x : DataW H × List MemPlace} (h : DataW.trod enc Try.prog w base spare held fuel 66 [a, b, c, d, e] = some x) : ∃ (i hi lo : Int) (t : Bool) (s : ByteArray), a = .int .i64 i ∧ b = .int .u64 hi ∧ c = .int .u64 lo ∧ d = .bool t ∧ e = .string s := by
  obtain ⟨xs, n, _, _, hl, hlen, hf⟩ := DataW.trod_struct Try.underlying66 h
  have hx : xs.length = 4 := hlen
  match xs, hx with
  | [x0, x1, x2, x3], _ =>
    have h0 := hf 0 _ rfl
    have h1 := hf 1 _ rfl
    have h2 := hf 2 _ rfl
    have h3 := hf 3 _ rfl
    simp [c3_, c64_, c4_, c9_] at h0 h1 h2 h3
    obtain ⟨k, he, _⟩ := DataW.trod_int Try.underlying3 h0
    obtain ⟨hi, lo, rfl, rfl⟩ := read_wide h1
    obtain ⟨t, he2, _⟩ := DataW.trod_bool Try.underlying4 h2
    obtain ⟨s, he3, _⟩ := DataW.trod_string Try.underlying9 h3
    simp at he he2 he3
    exact ⟨k, hi, lo, t, s, he, rfl, rfl, he2, he3⟩

set_option maxRecDepth 100000 in
theorem read_ob {cs : List Value} (hl : cs.length = 13) {x : DataW H × List MemPlace} (h : DataW.trod enc Try.prog w base spare held fuel 70 cs = some x) : ∃ o : Ob, cs = o.enc ∧ o.name.size ≤ maxLen := by
  obtain ⟨xs, n, _, _, _, hlen, hf⟩ := DataW.trod_struct Try.underlying70 h
  match cs, hl with
  | [a0, a1, a2, a3, a4, a5, a6, a7, a8, a9, a10, a11, a12], _ =>
    have hx : xs.length = 7 := hlen
    match xs, hx with
    | [x0, x1, x2, x3, x4, x5, x6], _ =>
      have h0 := hf 0 _ rfl
      have h1 := hf 1 _ rfl
      have h2 := hf 2 _ rfl
      have h3 := hf 3 _ rfl
      have h4 := hf 4 _ rfl
      have h5 := hf 5 _ rfl
      have h6 := hf 6 _ rfl
      simp [c3_, c66_, c68_, c9_] at h0 h1 h2 h3 h4 h5 h6
      obtain ⟨k, he, _⟩ := DataW.trod_int Try.underlying3 h0
      obtain ⟨s, he1, _, hs⟩ := DataW.trod_string Try.underlying9 h1
      obtain ⟨t, he2, _⟩ := DataW.trod_int Try.underlying3 h2
      obtain ⟨n', he3, _⟩ := DataW.trod_int Try.underlying3 h3
      obtain ⟨m, he4, _⟩ := DataW.trod_int Try.underlying3 h4
      obtain ⟨ck, hi, lo, cb, cs', rfl, rfl, rfl, rfl, rfl⟩ := read_konst h5
      obtain ⟨f, l, c, rfl, rfl, rfl⟩ := read_pos h6
      simp at he he1 he2 he3 he4
      subst he; subst he1; subst he2; subst he3; subst he4
      exact ⟨⟨k, s, t, n', m, ck, hi, lo, cb, cs', f, l, c⟩, rfl, hs⟩
end

structure SAct where
  kind : Int
  at_ : Int
  i : Int
  o : Ob
def SAct.enc (x : SAct) : List Value := [.int .i64 x.kind, .int .i64 x.at_, .int .i64 x.i] ++ x.o.enc
def sactk : Kd SAct := flat 16 SAct.enc (fun _ => rfl) (fun x u hu => by
  rcases List.mem_append.1 hu with hu | hu
  · simp only [List.mem_cons, List.not_mem_nil, or_false] at hu
    rcases hu with rfl | rfl | rfl <;> rfl
  · simp only [Ob.enc, List.mem_cons, List.not_mem_nil, or_false] at hu
    rcases hu with rfl | rfl | rfl | rfl | rfl | rfl | rfl | rfl | rfl | rfl | rfl | rfl | rfl <;> rfl)

set_option maxRecDepth 100000 in
theorem opens_sact : Opens Try.prog sactk 97 (fun a => a.o.name.size ≤ maxLen) := by
  intro H enc w base spare held fuel cs x h
  obtain ⟨xs, n, _, _, hl, hlen, hf⟩ := DataW.trod_struct Try.underlying97 h
  have hl5 : cs.length = 16 := hl.trans c97_
  match cs, hl5 with
  | [b0, b1, b2, a0, a1, a2, a3, a4, a5, a6, a7, a8, a9, a10, a11, a12], _ =>
    have hx : xs.length = 4 := hlen
    match xs, hx with
    | [x0, x1, x2, x3], _ =>
      have h0 := hf 0 _ rfl
      have h1 := hf 1 _ rfl
      have h2 := hf 2 _ rfl
      have h3 := hf 3 _ rfl
      simp [c3_, c70_] at h0 h1 h2 h3
      obtain ⟨k, he, _⟩ := DataW.trod_int Try.underlying3 h0
      obtain ⟨i, he1, _⟩ := DataW.trod_int Try.underlying3 h1
      obtain ⟨m, he2, _⟩ := DataW.trod_int Try.underlying3 h2
      obtain ⟨o, ho, hs⟩ := read_ob rfl h3
      simp at he he1 he2
      subst he; subst he1; subst he2
      refine ⟨⟨k, i, m, o⟩, hs, ?_⟩
      show _ = [_, _, _] ++ o.enc
      rw [← ho]
      rfl
theorem opens_sacts : Opens Try.prog (Kd.slice 97 sactk) 50 (fun l => ∀ a ∈ l, a.o.name.size ≤ maxLen) := Opens.slice 97 Try.underlying50 (by kernel_rfl) opens_sact

theorem sact_cells {w : World} {A : Option Addr} {n : Nat} {L : List SAct} (h : sactk.C w A n L) (hn : 0 < n) :
    ∃ b o, A = some ⟨b, o, none⟩ ∧ ∀ k (hk : k < L.length), ∀ j u, (L[k]'hk).enc[j]? = some u → w.cell? ⟨b, o + k * 16 + j, none⟩ = some u := by
  obtain ⟨ad, hA, hc⟩ := h.2.2 hn
  have hl : 0 < L.length := by have := h.1; omega
  obtain ⟨cs, hcl, hM, hcell⟩ := hc 0 _ (List.getElem?_eq_getElem hl)
  have hM' : cs = (L[0]'hl).enc := hM
  subst hM'
  have h0 := hcell 0 _ rfl
  have hsp : ad.spot = none := by
    obtain ⟨b, o, s⟩ := ad
    cases s with
    | none => rfl
    | some s => simp [Addr.add, World.cell?] at h0; split at h0 <;> simp at h0
  obtain ⟨b, o, s⟩ := ad
  subst hsp
  refine ⟨b, o, hA, fun k hk j u hu => ?_⟩
  obtain ⟨cs, hcl, hM, hcell⟩ := hc k _ (List.getElem?_eq_getElem hk)
  have hM' : cs = (L[k]'hk).enc := hM
  subst hM'
  have := hcell j u hu
  rw [add_at] at this
  rw [Nat.add_assoc]
  exact this
end Go.Proofs.Ytnmahbpkaocjdaa
