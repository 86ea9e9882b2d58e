/-
  Scopes: the program's and the document's, side by side.
-/
import Derived.Test.YtnmahbpkaocjdaaScopeR
set_option linter.unusedVariables false
namespace Go.Proofs.Ytnmahbpkaocjdaa
open Go.RowKit Go.Proofs.YtnmahbpkaocjdaaW.PrintWords

/-- Both hold st; F: the program's blocks, G: the document's. -/
structure Tw (w0 w : World) (F G : Nat → Prop) (sb ub : Nat) (st : St) : Prop where
  s : SRep w0 w F sb st
  u : USc w0 w G ub st
  dis : ∀ k, F k → ¬ G k
  low : ∀ k, F k ∨ G k → w0.heap.size ≤ k ∧ k < w.heap.size

theorem Tw.upd {w0 w w1 : World} {F G S : Nat → Prop} {sb ub : Nat} {st : St} (h : Tw w0 w F G sb ub st) (hu : Upd S w w1) (hn : ∀ k, F k ∨ G k → ¬ S k) : Tw w0 w1 F G sb ub st where
  s := h.s.upd hu (fun k hk => hn k (.inl hk))
  u := h.u.upd hu (fun k hk => hn k (.inr hk))
  dis := h.dis
  low := fun k hk => ⟨(h.low k hk).1, Nat.lt_of_lt_of_le (h.low k hk).2 hu.size⟩
theorem Tw.below {w0 w w1 : World} {F G : Nat → Prop} {sb ub : Nat} {st : St} (h : Tw w0 w F G sb ub st) (hb : Below w.heap.size w w1) : Tw w0 w1 F G sb ub st := h.upd (Upd.of_below hb (fun _ => False)) (fun _ _ h => h)

/-- Some footprints, some state. -/
def Tws (w0 w : World) (sb ub : Nat) (n m : Nat) : Prop := ∃ F G st, Tw w0 w F G sb ub st ∧ st.outer.length ≤ n ∧ st.objs.length ≤ m
theorem Tws.below {w0 w w1 : World} {sb ub n m : Nat} (h : Tws w0 w sb ub n m) (hb : Below w.heap.size w w1) : Tws w0 w1 sb ub n m := by
  obtain ⟨F, G, st, h, h1, h2⟩ := h
  exact ⟨F, G, st, h.below hb, h1, h2⟩
theorem Tws.more {w0 w : World} {sb ub n m n2 m2 : Nat} (h : Tws w0 w sb ub n m) (h1 : n ≤ n2) (h2 : m ≤ m2) : Tws w0 w sb ub n2 m2 := by
  obtain ⟨F, G, st, h, k1, k2⟩ := h
  exact ⟨F, G, st, h, by omega, by omega⟩

section
variable {w0 w : World} {F G : Nat → Prop} {sb ub : Nat} {st : St}

/-- A step on both sides: first the program's, then the document's. -/
theorem Tw.step {w1 w2 : World} {st2 : St} (h : Tw w0 w F G sb ub st) (hu1 : Upd F w w1) (hs : SRep w0 w1 (fun k => F k ∨ w.heap.size ≤ k) sb st2)
    (hu2 : Upd G w1 w2) (hU : USc w0 w2 (fun k => G k ∨ w1.heap.size ≤ k) ub st2) (h0 : w0.heap.size ≤ w.heap.size) :
    Upd (fun k => F k ∨ G k) w w2 ∧ Tw w0 w2 (fun k => F k ∨ (w.heap.size ≤ k ∧ k < w1.heap.size)) (fun k => G k ∨ (w1.heap.size ≤ k ∧ k < w2.heap.size)) sb ub st2 := by
  have s1 := hu1.size
  have s2 := hu2.size
  refine ⟨(hu1.mono (T := fun k => F k ∨ G k) (fun k _ hk => .inl hk)).trans hu2 (fun k hk => .inl (.inr hk)), ?_, ?_, ?_, ?_⟩
  · have hs' : SRep w0 w1 (fun k => F k ∨ (w.heap.size ≤ k ∧ k < w1.heap.size)) sb st2 := hs.mono (fun k _ hk hc => hc.imp id (fun h => ⟨h, hk⟩))
    refine hs'.upd hu2 (fun k hk hg => ?_)
    rcases hk with hk | hk
    · exact h.dis k hk hg
    · have := (h.low k (.inr hg)).2
      omega
  · exact hU.mono (fun k _ hk hc => hc.imp id (fun h => ⟨h, hk⟩))
  · rintro k (hk | hk) (hg | hg)
    · exact h.dis k hk hg
    · have := (h.low k (.inl hk)).2
      omega
    · have := (h.low k (.inr hg)).2
      omega
    · omega
  · rintro k ((hk | hk) | (hk | hk))
    · have := h.low k (.inl hk)
      omega
    · omega
    · have := h.low k (.inr hk)
      omega
    · omega

/-- One result on both sides; what the second call finds. -/
def Both (w0 : World) (F G : Nat → Prop) (sb ub : Nat) (n m : Nat) (f : FuncId) (args : Array Value) (v : Value) (w : World) (e : Ending) (w1 : World) : Prop :=
  e = .returned v ∧ Upd (fun k => F k ∨ G k) w w1 ∧ Calls Try.prog f args w1 fun e w2 => e = .returned v ∧ Upd (fun k => F k ∨ G k) w w2 ∧ Tws w0 w2 sb ub n m

theorem Tw.open_ (h : Tw w0 w F G sb ub st) (h0 : w0.heap.size ≤ w.heap.size) (i : Int) (hl : st.outer.length < 1000) :
    ∃ a c : Int, Calls Try.prog 35 #[.pointer (some ⟨sb, 0, none⟩), .int .i64 i] w (Both w0 F G sb ub (st.outer.length + 1) st.objs.length 41 #[.pointer (some ⟨ub, 0, none⟩), .int .i64 i] (.tuple #[.int .i64 a, .int .i64 c]) w) := by
  by_cases hh : st.has i = true
  · refine ⟨(st.outer.length : Int), 0, (s_open_t h.s h0 i hh hl).mono ?_⟩
    rintro e w1 ⟨rfl, hu1, hs⟩
    refine ⟨rfl, hu1.mono (fun k _ hk => .inl hk), ?_⟩
    refine (u_open_t (h.u.upd hu1 (fun k hk hf => h.dis k hf hk)) (Nat.le_trans h0 hu1.size) i hh hl).mono ?_
    rintro e w2 ⟨rfl, hu2, hU⟩
    obtain ⟨k1, k2⟩ := h.step hu1 hs hu2 hU h0
    exact ⟨rfl, k1, _, _, _, k2, by simp [St.open_], by simp [St.open_]⟩
  · have hh' : st.has i = false := by simpa using hh
    refine ⟨0, 1, (s_open_f h.s i hh').mono ?_⟩
    rintro e w1 ⟨rfl, rfl⟩
    refine ⟨rfl, Upd.refl _ _, (u_open_f h.u i hh').mono ?_⟩
    rintro e w2 ⟨rfl, rfl⟩
    exact ⟨rfl, Upd.refl _ _, _, _, _, h, by omega, by omega⟩

theorem Tw.put (h : Tw w0 w F G sb ub st) (h0 : w0.heap.size ≤ w.heap.size) (i : Int) (o : Ob) (hn : o.name.size ≤ maxLen) (hl : st.objs.length < 1000) :
    ∃ a c : Int, Calls Try.prog 26 #[.pointer (some ⟨sb, 0, none⟩), .int .i64 i, o.val] w (Both w0 F G sb ub st.outer.length (st.objs.length + 1) 42 #[.pointer (some ⟨ub, 0, none⟩), .int .i64 i, o.val] (.tuple #[.int .i64 a, .int .i64 c]) w) := by
  by_cases hf : st.fits i o
  · by_cases ht : st.here i o.name = 0
    · refine ⟨(st.objs.length : Int), 0, (s_put_ok h.s h0 i o hf hn ht hl).mono ?_⟩
      rintro e w1 ⟨rfl, hu1, hs⟩
      refine ⟨rfl, hu1.mono (fun k _ hk => .inl hk), ?_⟩
      refine (u_put_ok (h.u.upd hu1 (fun k hk hf => h.dis k hf hk)) (Nat.le_trans h0 hu1.size) i o hf hn ht hl).mono ?_
      rintro e w2 ⟨rfl, hu2, hU⟩
      obtain ⟨k1, k2⟩ := h.step hu1 hs hu2 hU h0
      exact ⟨rfl, k1, _, _, _, k2, by simp [St.put], by simp [St.put]⟩
    · refine ⟨0, 8, (s_put_twice h.s i o hf hn ht).mono ?_⟩
      rintro e w1 ⟨rfl, hb1⟩
      refine ⟨rfl, Upd.of_below hb1 _, (u_put_twice (h.below hb1).u i o hf ht).mono ?_⟩
      rintro e w2 ⟨rfl, hb2⟩
      exact ⟨rfl, (Upd.of_below hb1 _).trans (Upd.of_below hb2 (fun _ => False)) (fun _ h => h.elim), _, _, _, (h.below hb1).below hb2, by omega, by omega⟩
  · refine ⟨0, 1, (s_put_bad h.s i o hf).mono ?_⟩
    rintro e w1 ⟨rfl, hb1⟩
    refine ⟨rfl, Upd.of_below hb1 _, (u_put_bad (h.below hb1).u i o hf).mono ?_⟩
    rintro e w2 ⟨rfl, hb2⟩
    exact ⟨rfl, (Upd.of_below hb1 _).trans (Upd.of_below hb2 (fun _ => False)) (fun _ h => h.elim), _, _, _, (h.below hb1).below hb2, by omega, by omega⟩

theorem Tw.change (h : Tw w0 w F G sb ub st) (h0 : w0.heap.size ≤ w.heap.size) (i : Int) (o : Ob) :
    ∃ c : Int, Calls Try.prog 36 #[.pointer (some ⟨sb, 0, none⟩), .int .i64 i, o.val] w (Both w0 F G sb ub st.outer.length st.objs.length 43 #[.pointer (some ⟨ub, 0, none⟩), .int .i64 i, o.val] (.int .i64 c) w) := by
  by_cases hm : st.may i o
  · have hk : 1 ≤ i ∧ i < (st.objs.length : Int) := by simpa [St.holds] using hm.1
    obtain ⟨k, rfl⟩ : ∃ k : Nat, i = (k : Int) := ⟨i.toNat, by omega⟩
    refine ⟨0, (s_change_ok h.s h0 k o hm).mono ?_⟩
    rintro e w1 ⟨rfl, hu1, hs⟩
    refine ⟨rfl, hu1.mono (fun k _ hk => .inl hk), ?_⟩
    refine (u_change_ok (h.u.upd hu1 (fun k hk hf => h.dis k hf hk)) (Nat.le_trans h0 hu1.size) k o hm).mono ?_
    rintro e w2 ⟨rfl, hu2, hU⟩
    obtain ⟨k1, k2⟩ := h.step hu1 (hs.mono (fun k _ _ hk => .inl hk)) hu2 (hU.mono (fun k _ _ hk => .inl hk)) h0
    exact ⟨rfl, k1, _, _, _, k2, by simp [St.change], by simp [St.change]⟩
  · refine ⟨1, (s_change_bad h.s i o hm).mono ?_⟩
    rintro e w1 ⟨rfl, hb1⟩
    refine ⟨rfl, Upd.of_below hb1 _, (u_change_bad (h.below hb1).u i o hm).mono ?_⟩
    rintro e w2 ⟨rfl, hb2⟩
    exact ⟨rfl, (Upd.of_below hb1 _).trans (Upd.of_below hb2 (fun _ => False)) (fun _ h => h.elim), _, _, _, (h.below hb1).below hb2, by omega, by omega⟩
end
end Go.Proofs.Ytnmahbpkaocjdaa
