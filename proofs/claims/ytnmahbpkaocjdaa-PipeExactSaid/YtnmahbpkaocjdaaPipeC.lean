/-
  Channels: what a call on one channel leaves of all (PRep.set), and Close.
-/
import Derived.Test.YtnmahbpkaocjdaaPipeB
set_option linter.unusedVariables false
namespace Go.Proofs.Ytnmahbpkaocjdaa
open Go.RowKit Go.Proofs.YtnmahbpkaocjdaaW.PrintWords

theorem pairwise_set {α : Type} {R : α → α → Prop} : ∀ {l : List α} {k : Nat} {y : α}, l.Pairwise R → (∀ j (hj : j < l.length), j ≠ k → R y (l[j]'hj) ∧ R (l[j]'hj) y) → (l.set k y).Pairwise R
  | [], k, y, _, _ => by simp
  | x :: l, 0, y, h, hy => by
    rw [List.set_cons_zero]
    rw [List.pairwise_cons] at h ⊢
    refine ⟨fun z hz => ?_, h.2⟩
    obtain ⟨j, hj, rfl⟩ := List.getElem_of_mem hz
    exact (hy (j + 1) (by simp; omega) (by omega)).1
  | x :: l, k + 1, y, h, hy => by
    rw [List.set_cons_succ]
    rw [List.pairwise_cons] at h ⊢
    refine ⟨fun z hz => ?_, pairwise_set h.2 (fun j hj hne => hy (j + 1) (by simp; omega) (by omega))⟩
    rcases List.mem_or_eq_of_mem_set hz with hz | rfl
    · exact h.1 z hz
    · exact (hy 0 (by simp) (by omega)).2

theorem PRep.set {w0 w w1 : World} {top S : Nat → Prop} {sb : Nat} {chs : List Ch} (h : PRep w0 w top sb chs) (k : Nat) (hk : k < chs.length) (hu : Upd S w w1) (hS : ∀ j, S j → (chs[k]'hk).own j)
    (c' : Ch) (hc' : ChRep w0 w1 c') (hb : c'.b = (chs[k]'hk).b) (hown : ∀ j, c'.own j → (chs[k]'hk).own j ∨ w.heap.size ≤ j) : PRep w0 w1 top sb (chs.set k c') := by
  have hap : ∀ j (hj : j < chs.length), j ≠ k → ∀ q, (chs[k]'hk).own q → ¬ (chs[j]'hj).own q := by
    intro j hj hne q hq
    rcases Nat.lt_or_gt_of_ne hne with hlt | hgt
    · exact fun h2 => (List.pairwise_iff_getElem.1 h.pair j k hj hk hlt) q h2 hq
    · exact (List.pairwise_iff_getElem.1 h.pair k j hk hj hgt) q hq
  have hmap : (chs.set k c').map Ch.b = chs.map Ch.b := by
    rw [List.map_set, hb]
    apply List.ext_getElem?
    intro j
    by_cases hjk : j = k
    · subst hjk
      rw [List.getElem?_set_self (by simpa using hk)]
      simp [hk]
    · rw [List.getElem?_set_ne (by omega)]
  refine ⟨h.top_sb, ?_, fun j hj => ⟨(h.lt j hj).1, Nat.lt_of_lt_of_le (h.lt j hj).2 hu.size⟩, ?_, ?_, ?_, by rw [List.length_set]; exact h.few⟩
  · obtain ⟨v, hv, hr⟩ := h.blk
    rw [hmap]
    have hck := h.apart _ (List.getElem_mem hk)
    exact ⟨v, hu.blk hv (fun h2 => hck _ (hS _ h2) h.top_sb), Kd.R_upd hr hu (fun j hj h2 => hck _ (hS _ h2) hj.1)⟩
  · intro c hc
    obtain ⟨j, hj, rfl⟩ := List.getElem_of_mem hc
    rw [List.length_set] at hj
    by_cases hjk : j = k
    · subst hjk
      rw [List.getElem_set_self]
      exact hc'
    · rw [List.getElem_set_ne (by omega)]
      exact (h.each _ (List.getElem_mem hj)).upd hu (fun q hq h2 => hap j hj hjk q (hS _ h2) hq)
  · intro c hc q hq ht
    rcases List.mem_or_eq_of_mem_set hc with hc | rfl
    · exact h.apart c hc q hq ht
    · rcases hown q hq with h2 | h2
      · exact h.apart _ (List.getElem_mem hk) q h2 ht
      · have := (h.lt q ht).2
        omega
  · refine pairwise_set h.pair (fun j hj hne => ⟨fun q hq h2 => ?_, fun q h2 hq => ?_⟩)
    · rcases hown q hq with h3 | h3
      · exact hap j hj hne q h3 h2
      · have := ((h.each _ (List.getElem_mem hj)).lt q h2).2
        omega
    · rcases hown q hq with h3 | h3
      · exact hap j hj hne q h3 h2
      · have := ((h.each _ (List.getElem_mem hj)).lt q h2).2
        omega

section
variable {w0 w : World} {top : Nat → Prop} {sb : Nat} {chs : List Ch}

theorem Close_out (h : PRep w0 w top sb chs) (i : Int) (hi : i < 1 ∨ (chs.length : Int) < i) :
    Calls Try.prog 14 #[.pointer (some ⟨sb, 0, none⟩), .int .i64 i] w fun e w' => e = .returned (.int .i64 1) ∧ w = w' := by
  go_enter Try.func14, Try.ntmps14
  go_wp2_with (go_at_call 37; refine (channel_out h _ hi).mono ?_; rintro e w' ⟨rfl, rfl⟩)
  go_ret
  exact ⟨rfl, rfl⟩
theorem Close_twice (h : PRep w0 w top sb chs) (k : Nat) (hk : k < chs.length) (hcl : (chs[k]'hk).closed = true) :
    Calls Try.prog 14 #[.pointer (some ⟨sb, 0, none⟩), .int .i64 ((k + 1 : Nat) : Int)] w fun e w' => e = .returned (.int .i64 15) ∧ w = w' := by
  have hc := h.each _ (List.getElem_mem hk)
  have hb := hc.blk
  rw [hcl] at hb
  have c2 : w.cell? ⟨(chs[k]'hk).b, 2, none⟩ = some (.bool true) := by rw [blk_cell hb]; rfl
  clear hb hc hcl
  go_enter Try.func14, Try.ntmps14
  go_wp2_with (go_at_call 37; refine (channel_in h k hk).mono ?_; rintro e w' ⟨rfl, rfl⟩)
  go_ret
  exact ⟨rfl, rfl⟩
theorem Close_once (h : PRep w0 w top sb chs) (k : Nat) (hk : k < chs.length) (hcl : (chs[k]'hk).closed = false) :
    Calls Try.prog 14 #[.pointer (some ⟨sb, 0, none⟩), .int .i64 ((k + 1 : Nat) : Int)] w fun e w' => e = .returned (.int .i64 0) ∧
      Upd (chs[k]'hk).own w w' ∧ PRep w0 w' top sb (chs.set k { (chs[k]'hk) with closed := true }) := by
  have hc := h.each _ (List.getElem_mem hk)
  have hb := hc.blk
  rw [hcl] at hb
  have c2 : w.cell? ⟨(chs[k]'hk).b, 2, none⟩ = some (.bool false) := by rw [blk_cell hb]; rfl
  have f2 : w.frozen? ⟨(chs[k]'hk).b, 2, none⟩ = false := blk_frozen hb _
  have hob := hc.own_b
  have hfin : Upd (chs[k]'hk).own w (w.setCell ⟨(chs[k]'hk).b, 2, none⟩ (.bool true)) ∧ PRep w0 (w.setCell ⟨(chs[k]'hk).b, 2, none⟩ (.bool true)) top sb (chs.set k { (chs[k]'hk) with closed := true }) := by
    have hu : Upd (fun j => j = (chs[k]'hk).b) w (w.setCell ⟨(chs[k]'hk).b, 2, none⟩ (.bool true)) := Upd.cell _ _ _ _
    have hS : ∀ j, j = (chs[k]'hk).b → (chs[k]'hk).own j := fun j hj => by rw [hj]; exact hob
    refine ⟨hu.mono (fun j _ hj => hS j hj), h.set k hk hu hS _ ⟨hob, ?_, ?_, fun j hj => ⟨(hc.lt j hj).1, by simpa [World.setCell] using (hc.lt j hj).2⟩, hc.room0, hc.room1, hc.len⟩ rfl (fun j hj => .inl hj)⟩
    · exact blk_put hb 2 _ rfl
    · exact Kd.Q_upd hc.row hu (fun j hj => hj.2)
  have hfin' := Aside0.mk hfin
  clear hfin hb hc hcl hob
  go_enter Try.func14, Try.ntmps14
  go_wp2_with (go_at_call 37; refine (channel_in h k hk).mono ?_; rintro e w' ⟨rfl, rfl⟩)
  go_ret
  exact ⟨rfl, hfin'.out⟩
end
end Go.Proofs.Ytnmahbpkaocjdaa
