/-
  Acts that came in; the program's channels beside the document's.
-/
import Derived.Test.YtnmahbpkaocjdaaPipeP
set_option linter.unusedVariables false
namespace Go.Proofs.Ytnmahbpkaocjdaa
open Go.RowKit Go.Proofs.YtnmahbpkaocjdaaW.PrintWords

structure PAct where
  kind : Int
  i : Int
  n : Int
  l : List PV

/-- An act, as it is read. -/
def actk : Kd PAct where
  sz := 4
  E := []
  K := fun w x cs => ∃ A c, cs = [.int .i64 x.kind, .int .i64 x.i, .int .i64 x.n, .slice A x.l.length c] ∧ x.l.length ≤ c ∧ pvk.C w A x.l.length x.l
  M := fun _ _ _ _ _ => False
  K_len := by
    rintro w x cs ⟨A, c, rfl, _⟩
    rfl
  K_one := by
    rintro w x cs ⟨A, c, rfl, _⟩ u hu
    simp only [List.mem_cons, List.not_mem_nil, or_false] at hu
    rcases hu with rfl | rfl | rfl | rfl <;> rfl
  K_below := by
    rintro w w1 x cs hb ⟨A, c, rfl, hl, hC⟩
    exact ⟨A, c, rfl, hl, Kd.C_below hC hb⟩
  K_of_M := fun h => h.elim
  M_mono := fun _ h => h
  M_bound := fun h => h.elim
  M_move := fun _ h => h
  M_lower := fun _ h => h

set_option maxRecDepth 100000 in
theorem opens_act : Opens Try.prog actk 34 (fun _ => True) := by
  intro H enc w base spare held fuel cs x h
  obtain ⟨xs, n, _, _, hl, hlen, hf⟩ := DataW.trod_struct Try.underlying34 h
  have hl5 : cs.length = 4 := hl.trans (by kernel_rfl)
  have c3 : Try.prog.cellsOf 3 = 1 := by kernel_rfl
  have c32 : Try.prog.cellsOf 32 = 1 := by kernel_rfl
  match cs, hl5 with
  | [a, b, c, d], _ =>
    have hx : xs.length = 4 := hlen
    match xs, hx with
    | [x0, x1, x2, x3], _ =>
      have h0 := hf 0 _ rfl
      have h1 := hf 1 _ rfl
      have h2 := hf 2 _ rfl
      have h3 := hf 3 _ rfl
      simp [c3, c32] at h0 h1 h2 h3
      obtain ⟨k, he, _⟩ := DataW.trod_int Try.underlying3 h0
      obtain ⟨i, he1, _⟩ := DataW.trod_int Try.underlying3 h1
      obtain ⟨m, he2, _⟩ := DataW.trod_int Try.underlying3 h2
      obtain ⟨l, _, A, c', he3, hlc, hC⟩ := opens_pvs enc w _ _ _ _ _ _ h3
      simp at he he1 he2 he3
      subst he; subst he1; subst he2; subst he3
      exact ⟨⟨k, i, m, l⟩, trivial, A, c', rfl, hlc, hC⟩
theorem opens_acts : Opens Try.prog (Kd.slice 34 actk) 42 (fun _ => True) := fun enc w base spare held fuel cs x h => by
  obtain ⟨a, _, hK⟩ := (Opens.slice 34 Try.underlying42 (by kernel_rfl) opens_act) enc w base spare held fuel cs x h
  exact ⟨a, trivial, hK⟩

theorem act_cells {w : World} {A : Option Addr} {n : Nat} {L : List PAct} (h : actk.C w A n L) (hn : 0 < n) :
    ∃ b o, A = some ⟨b, o, none⟩ ∧ ∀ k (hk : k < L.length), ∃ A' c', w.cell? ⟨b, o + k * 4, none⟩ = some (.int .i64 (L[k]'hk).kind) ∧ w.cell? ⟨b, o + k * 4 + 1, none⟩ = some (.int .i64 (L[k]'hk).i) ∧ w.cell? ⟨b, o + k * 4 + 2, none⟩ = some (.int .i64 (L[k]'hk).n) ∧
      w.cell? ⟨b, o + k * 4 + 3, none⟩ = some (.slice A' (L[k]'hk).l.length c') ∧ (L[k]'hk).l.length ≤ c' ∧ pvk.C w A' (L[k]'hk).l.length (L[k]'hk).l := by
  obtain ⟨ad, hA, hc⟩ := h.2.2 hn
  have hl : 0 < L.length := by have := h.1; omega
  obtain ⟨cs, hcl, ⟨A0, c0, rfl, _, _⟩, hcell⟩ := hc 0 _ (List.getElem?_eq_getElem hl)
  have h0 := hcell 0 _ rfl
  have hsp : ad.spot = none := by
    obtain ⟨b, o, s⟩ := ad
    cases s with
    | none => rfl
    | some s => simp [Addr.add, World.cell?] at h0; split at h0 <;> simp at h0
  obtain ⟨b, o, s⟩ := ad
  subst hsp
  refine ⟨b, o, hA, fun k hk => ?_⟩
  obtain ⟨cs, hcl, ⟨A', c', rfl, hlc, hC⟩, hcell⟩ := hc k _ (List.getElem?_eq_getElem hk)
  have g : ∀ j u, [Value.int .i64 (L[k]'hk).kind, .int .i64 (L[k]'hk).i, .int .i64 (L[k]'hk).n, .slice A' (L[k]'hk).l.length c'][j]? = some u → w.cell? ⟨b, o + k * 4 + j, none⟩ = some u := fun j u hu => by
    have := hcell j u hu
    rw [add_at] at this
    rw [Nat.add_assoc]
    exact this
  exact ⟨A', c', g 0 _ rfl, g 1 _ rfl, g 2 _ rfl, g 3 _ rfl, hlc, hC⟩

/-- The program's channels and the document's, side by side. -/
structure Bo (w0 w : World) (top : Nat → Prop) (sb : Nat) (chs : List Ch) (rok : Nat → Prop) (uv : Value) (us : List Uc) : Prop where
  p : PRep w0 w top sb chs
  u : URep w0 w rok uv us
  len : chs.length = us.length
  same : ∀ k (h1 : k < chs.length) (h2 : k < us.length), (chs[k]'h1).room = (us[k]'h2).room ∧ (chs[k]'h1).q = (us[k]'h2).q ∧ (chs[k]'h1).closed = (us[k]'h2).closed
  dis : ∀ k, (top k ∨ ∃ c ∈ chs, c.own k) → ¬ (rok k ∨ ∃ u ∈ us, u.own k)

/-- All that is written is the channels' own. -/
def Bo.fp (top : Nat → Prop) (chs : List Ch) (rok : Nat → Prop) (us : List Uc) (k : Nat) : Prop := (top k ∨ ∃ c ∈ chs, c.own k) ∨ (rok k ∨ ∃ u ∈ us, u.own k)
theorem Bo.lt {w0 w : World} {top : Nat → Prop} {sb : Nat} {chs : List Ch} {rok : Nat → Prop} {uv : Value} {us : List Uc} (h : Bo w0 w top sb chs rok uv us) {k : Nat} (hk : Bo.fp top chs rok us k) : w0.heap.size ≤ k ∧ k < w.heap.size := by
  rcases hk with (hk | ⟨c, hc, hk⟩) | (hk | ⟨u, hu, hk⟩)
  · exact h.p.lt k hk
  · exact (h.p.each c hc).lt k hk
  · exact h.u.lt k hk
  · exact (h.u.each u hu).lt k hk
theorem Bo.upd {w0 w w1 : World} {top S : Nat → Prop} {sb : Nat} {chs : List Ch} {rok : Nat → Prop} {uv : Value} {us : List Uc} (h : Bo w0 w top sb chs rok uv us) (hu : Upd S w w1) (hn : ∀ k, Bo.fp top chs rok us k → ¬ S k) : Bo w0 w1 top sb chs rok uv us where
  p := h.p.upd hu (fun k hk => hn k (.inl (.inl hk))) (fun c hc k hk => hn k (.inl (.inr ⟨c, hc, hk⟩)))
  u := h.u.upd hu (fun k hk => hn k (.inr (.inl hk))) (fun u hc k hk => hn k (.inr (.inr ⟨u, hc, hk⟩)))
  len := h.len
  same := h.same
  dis := h.dis
theorem Bo.below {w0 w w1 : World} {top : Nat → Prop} {sb : Nat} {chs : List Ch} {rok : Nat → Prop} {uv : Value} {us : List Uc} (h : Bo w0 w top sb chs rok uv us) (hb : Below w.heap.size w w1) : Bo w0 w1 top sb chs rok uv us := h.upd (Upd.of_below hb (fun _ => False)) (fun _ _ h => h)

/-- A call on channel k of the program, then one on the document's. -/
theorem Bo.set {w0 w w1 w2 : World} {top : Nat → Prop} {sb : Nat} {chs : List Ch} {rok : Nat → Prop} {uv : Value} {us : List Uc} (h : Bo w0 w top sb chs rok uv us) (k : Nat) (hk : k < chs.length) (hk' : k < us.length)
    (c' : Ch) (u' : Uc) (hu1 : Upd (chs[k]'hk).own w w1) (hc : ∀ j, c'.own j → (chs[k]'hk).own j ∨ (w.heap.size ≤ j ∧ j < w1.heap.size)) (hp : PRep w0 w1 top sb (chs.set k c'))
    (hu2 : Upd (fun j => (us[k]'hk').own j ∨ rok j) w1 w2) (hv : ∀ j, u'.own j → (us[k]'hk').own j ∨ (w1.heap.size ≤ j)) (hq : URep w0 w2 rok uv (us.set k u'))
    (h1 : c'.room = u'.room) (h2 : c'.q = u'.q) (h3 : c'.closed = u'.closed) : Bo w0 w2 top sb (chs.set k c') rok uv (us.set k u') where
  p := by
    refine hp.upd hu2 (fun j hj h4 => ?_) (fun c hc2 j hj h4 => ?_)
    · refine h.dis j (.inl hj) ?_
      rcases h4 with h4 | h4
      · exact .inr ⟨_, List.getElem_mem hk', h4⟩
      · exact .inl h4
    · have h5 : rok j ∨ ∃ u ∈ us, u.own j := by
        rcases h4 with h4 | h4
        · exact .inr ⟨_, List.getElem_mem hk', h4⟩
        · exact .inl h4
      rcases List.mem_or_eq_of_mem_set hc2 with hc2 | rfl
      · exact h.dis j (.inr ⟨c, hc2, hj⟩) h5
      · rcases hc j hj with h6 | h6
        · exact h.dis j (.inr ⟨_, List.getElem_mem hk, h6⟩) h5
        · have := (h.lt (k := j) (.inr h5)).2
          omega
  u := hq
  len := by rw [List.length_set, List.length_set]; exact h.len
  same := fun j hj hj' => by
    by_cases hjk : j = k
    · subst hjk
      rw [List.getElem_set_self, List.getElem_set_self]
      exact ⟨h1, h2, h3⟩
    · rw [List.getElem_set_ne (by omega), List.getElem_set_ne (by omega)]
      rw [List.length_set] at hj hj'
      exact h.same j hj hj'
  dis := fun j hj h4 => by
    have hs1 := hu1.size
    have hA : (top j ∨ ∃ c ∈ chs, c.own j) ∨ (w.heap.size ≤ j ∧ j < w1.heap.size) := by
      rcases hj with hj | ⟨c, hc2, hj⟩
      · exact .inl (.inl hj)
      · rcases List.mem_or_eq_of_mem_set hc2 with hc2 | rfl
        · exact .inl (.inr ⟨c, hc2, hj⟩)
        · rcases hc j hj with h6 | h6
          · exact .inl (.inr ⟨_, List.getElem_mem hk, h6⟩)
          · exact .inr h6
    have hB : (rok j ∨ ∃ u ∈ us, u.own j) ∨ w1.heap.size ≤ j := by
      rcases h4 with h4 | ⟨u, hu4, h4⟩
      · exact .inl (.inl h4)
      · rcases List.mem_or_eq_of_mem_set hu4 with hu4 | rfl
        · exact .inl (.inr ⟨u, hu4, h4⟩)
        · rcases hv j h4 with h6 | h6
          · exact .inl (.inr ⟨_, List.getElem_mem hk', h6⟩)
          · exact .inr h6
    rcases hA with hA | hA
    · rcases hB with hB | hB
      · exact h.dis j hA hB
      · have := (h.lt (k := j) (.inl hA)).2
        omega
    · rcases hB with hB | hB
      · have := (h.lt (k := j) (.inr hB)).2
        omega
      · omega
end Go.Proofs.Ytnmahbpkaocjdaa
