/-
  PipeExact: one act on both sides.
-/
import Derived.Test.YtnmahbpkaocjdaaPipeQ
set_option linter.unusedVariables false
namespace Go.Proofs.Ytnmahbpkaocjdaa
open Go.RowKit Go.Proofs.YtnmahbpkaocjdaaW.PrintWords

/-- n channels, the program's as the document's. -/
def Ex (w0 w : World) (sb : Nat) (uv : Value) (n : Nat) : Prop := ∃ top chs rok us, Bo w0 w top sb chs rok uv us ∧ us.length = n

theorem Ex.below {w0 w w1 : World} {sb : Nat} {uv : Value} {n : Nat} (h : Ex w0 w sb uv n) (hb : Below w.heap.size w w1) : Ex w0 w1 sb uv n := by
  obtain ⟨top, chs, rok, us, hB, hn⟩ := h
  exact ⟨top, chs, rok, us, hB.below hb, hn⟩

theorem Ex.start {w w2 : World} {sb : Nat} (hp : PRep w w2 (fun j => j = sb) sb []) (h0 : w.heap.size ≤ w2.heap.size) : Ex w (w2.alloc (.cells #[] 45)) sb (.slice (some ⟨w2.heap.size, 0, none⟩) 0 0) 0 := by
  have hsb := (hp.lt sb rfl).2
  refine ⟨_, [], fun k => k = w2.heap.size, [], ⟨hp.upd ((Upd.refl (fun _ => False) w2).alloc _) (fun _ _ h => h) (fun _ h => by simp at h), ⟨Kd.R_lower (R_empty rawk w2 (fun k => k = w2.heap.size) rfl) h0, fun k hk => by rw [hk, World.size_alloc]; omega, by simp, by simp, List.Pairwise.nil, by simp⟩, rfl, by simp, ?_⟩, rfl⟩
  rintro k (hk | ⟨c, hc, _⟩) (h | ⟨u, hu, _⟩)
  · omega
  · simp at hu
  · simp at hc
  · simp at hc

section
variable {w0 w : World} {top : Nat → Prop} {sb : Nat} {chs : List Ch} {rok : Nat → Prop} {uv : Value} {us : List Uc}

theorem Bo.inOwn (h : Bo w0 w top sb chs rok uv us) {k : Nat} (hk : k < us.length) {j : Nat} (hj : (us[k]'hk).own j ∨ rok j) : Bo.fp top chs rok us j := by
  rcases hj with hj | hj
  · exact .inr (.inr ⟨_, List.getElem_mem hk, hj⟩)
  · exact .inr (.inl hj)
theorem Bo.inCh (h : Bo w0 w top sb chs rok uv us) {k : Nat} (hk : k < chs.length) {j : Nat} (hj : (chs[k]'hk).own j) : Bo.fp top chs rok us j := .inl (.inr ⟨_, List.getElem_mem hk, hj⟩)

/-- A call on channel k of the program leaves the document's channels. -/
theorem Bo.uAfter (h : Bo w0 w top sb chs rok uv us) {k : Nat} (hk : k < chs.length) {w1 : World} (hu : Upd (chs[k]'hk).own w w1) : URep w0 w1 rok uv us :=
  h.u.upd hu (fun j hj h2 => h.dis j (.inr ⟨_, List.getElem_mem hk, h2⟩) (.inl hj)) (fun u hu j hj h2 => h.dis j (.inr ⟨_, List.getElem_mem hk, h2⟩) (.inr ⟨u, hu, hj⟩))

/-- Push on both sides: one code. -/
theorem Bo.push (h : Bo w0 w top sb chs rok uv us) (h0 : w0.heap.size ≤ w.heap.size) (i : Int) (A : Option Addr) (c : Nat) (xs : List PV) (hn : A = none → xs.length = 0) (hC : pvk.C w0 A xs.length xs) (hlc : xs.length ≤ c) (hl : xs.length ≤ 1000) (hCw : pvk.C w A xs.length xs) :
    ∃ code : Int, Calls Try.prog 13 #[.pointer (some ⟨sb, 0, none⟩), .int .i64 i, .slice A xs.length c] w (fun e w1 => e = .returned (.int .i64 code) ∧ Upd (Bo.fp top chs rok us) w w1 ∧
      Calls Try.prog 19 #[uv, .int .i64 i, .slice A xs.length c] w1 (fun e w2 => e = .returned (.int .i64 code) ∧ Upd (Bo.fp top chs rok us) w w2 ∧ Ex w0 w2 sb uv us.length)) := by
  obtain ⟨Au, cu, hv⟩ := h.u.form
  by_cases hi : i < 1 ∨ (us.length : Int) < i
  · refine ⟨1, (Push_out h.p i (by rw [h.len]; exact hi) _).mono ?_⟩
    rintro e w1 ⟨rfl, rfl⟩
    refine ⟨rfl, Upd.refl _ _, ?_⟩
    rw [hv]
    refine (UPush_out w Au _ cu i hi _).mono ?_
    rintro e w2 ⟨rfl, rfl⟩
    refine ⟨rfl, Upd.refl _ _, ?_⟩
    rw [← hv]
    exact ⟨_, _, _, _, h, rfl⟩
  · obtain ⟨k, rfl⟩ : ∃ k : Nat, i = ((k + 1 : Nat) : Int) := ⟨(i - 1).toNat, by omega⟩
    have hk : k < us.length := by omega
    have hk' : k < chs.length := by rw [h.len]; exact hk
    obtain ⟨s1, s2, s3⟩ := h.same k hk' hk
    have hcast : ((k + 1 : Nat) : Int) = (k : Int) + 1 := by omega
    by_cases hcl : (us[k]'hk).closed = true
    · refine ⟨15, (Push_closed h.p k hk' _ (by rw [s3]; exact hcl)).mono ?_⟩
      rintro e w1 ⟨rfl, rfl⟩
      refine ⟨rfl, Upd.refl _ _, ?_⟩
      rw [hcast]
      refine (UPush_closed h.u k hk _ hcl).mono ?_
      rintro e w2 ⟨rfl, hs⟩
      exact ⟨rfl, hs.upd _, _, _, _, _, h.upd (hs.upd (fun _ => False)) (fun _ _ h => h), rfl⟩
    · have hcl' : (us[k]'hk).closed = false := by simpa using hcl
      by_cases hf : (us[k]'hk).room ≤ ((us[k]'hk).q.length : Int)
      · refine ⟨14, (Push_full h.p k hk' _ (by rw [s3]; exact hcl') (by rw [s1, s2]; exact hf)).mono ?_⟩
        rintro e w1 ⟨rfl, hs1⟩
        refine ⟨rfl, hs1.upd _, ?_⟩
        rw [hcast]
        have h1 := h.upd (hs1.upd (fun _ => False)) (fun _ _ h => h)
        refine (UPush_full h1.u k hk _ hcl' hf).mono ?_
        rintro e w2 ⟨rfl, hs⟩
        exact ⟨rfl, (hs1.trans hs).upd _, _, _, _, _, h1.upd (hs.upd (fun _ => False)) (fun _ _ h => h), rfl⟩
      · refine ⟨0, (Push_in h.p h0 k hk' (by rw [s3]; exact hcl') (by rw [s1, s2]; omega) A c xs hn hCw hl).mono ?_⟩
        rintro e w1 ⟨rfl, qv, own, hu1, hown, hp1⟩
        refine ⟨rfl, hu1.mono (fun j _ hj => h.inCh hk' hj), ?_⟩
        rw [hcast]
        refine (UPush_in (h.uAfter hk' hu1) (Nat.le_trans h0 hu1.size) k hk hcl' (by omega) A c xs hC hlc).mono ?_
        rintro e w2 ⟨rfl, qv2, own2, hu2, hown2, hq2⟩
        refine ⟨rfl, ?_, _, _, _, _, h.set k hk' hk _ _ hu1 (fun j hj => ?_) hp1 hu2 (fun j hj => hown2 j hj) hq2 s1 (by show (chs[k]'hk').q ++ [xs] = (us[k]'hk).q ++ [xs]; rw [s2]) s3, by rw [List.length_set]⟩
        · exact (hu1.mono (T := Bo.fp top chs rok us) (fun j _ hj => h.inCh hk' hj)).trans hu2 (fun j hj => .inl (h.inOwn hk hj))
        · rcases hown j hj with h3 | h3
          · exact .inl h3
          · refine .inr ⟨h3, ?_⟩
            have := (hp1.each _ (List.mem_set hk' _)).lt j hj
            exact this.2

/-- Pop where nothing waits. -/
theorem Bo.pop_none (h : Bo w0 w top sb chs rok uv us) (i : Int) (hi : (i < 1 ∨ (us.length : Int) < i) ∨ ∃ k, ∃ hk : k < us.length, i = (k : Int) + 1 ∧ (us[k]'hk).q = []) :
    Calls Try.prog 15 #[.pointer (some ⟨sb, 0, none⟩), .int .i64 i] w fun e w' => e = .returned (.tuple #[.slice none 0 0, .bool false]) ∧ w = w' := by
  rcases hi with hi | ⟨k, hk, rfl, hq⟩
  · exact Pop_out h.p i (by rw [h.len]; exact hi)
  · have hk' : k < chs.length := by rw [h.len]; exact hk
    have := Pop_empty h.p k hk' (by rw [(h.same k hk' hk).2.1]; exact hq)
    rw [show ((k + 1 : Nat) : Int) = (k : Int) + 1 by omega] at this
    exact this

/-- What the walk reads behind a Pop, and what it makes of it. -/
structure Mid (w0 : World) (F : Nat → Prop) (sb : Nat) (uv : Value) (n k : Nat) (x : List PV) (A1 : Option Addr) (w w1 : World) : Prop where
  upd : Upd F w w1
  got : pvk.C w1 A1 x.length x
  rest : ∃ g c gq oq m cq A2 c2 A' , uv = .slice (some ⟨g, 0, none⟩) n c ∧ F g ∧ w1.frozen? ⟨g, k * 3 + 1, none⟩ = false ∧ w1.cell? ⟨g, k * 3 + 1, none⟩ = some (.slice (some ⟨gq, oq, none⟩) (m + 1) cq) ∧ w1.cell? ⟨gq, oq, none⟩ = some (.slice A2 x.length c2) ∧ pvk.C w0 A2 x.length x ∧
    (∀ W : World, (Instr.slice 22 (.slice (some ⟨gq, oq, none⟩) (m + 1) cq) (some (.int .i64 1)) none none).run Try.prog W = .ok (.slice A' m (cq - 1)) W) ∧
    ∀ w2, Below w1.heap.size w1 w2 → Ex w0 (w2.setCell ⟨g, k * 3 + 1, none⟩ (.slice A' m (cq - 1))) sb uv n

theorem Bo.pop_some (h : Bo w0 w top sb chs rok uv us) (h0 : w0.heap.size ≤ w.heap.size) (k : Nat) (hk : k < us.length) (x : List PV) (r : List (List PV)) (hq : (us[k]'hk).q = x :: r) :
    Calls Try.prog 15 #[.pointer (some ⟨sb, 0, none⟩), .int .i64 ((k : Int) + 1)] w fun e w1 => ∃ A c, e = .returned (.tuple #[.slice A x.length c, .bool true]) ∧ Mid w0 (Bo.fp top chs rok us) sb uv us.length k x A w w1 := by
  have hk' : k < chs.length := by rw [h.len]; exact hk
  obtain ⟨s1, s2, s3⟩ := h.same k hk' hk
  have hp := Pop_in h.p k hk' x r (by rw [s2]; exact hq)
  rw [show ((k + 1 : Nat) : Int) = (k : Int) + 1 by omega] at hp
  refine hp.mono ?_
  rintro e w1 ⟨A, c, qv, rfl, hC, hu1, hp1⟩
  refine ⟨A, c, rfl, hu1.mono (fun j _ hj => h.inCh hk' hj), hC, ?_⟩
  have hU := h.uAfter hk' hu1
  obtain ⟨g, cu, hv, hrg, hfz, hcell⟩ := hU.cells (by omega)
  obtain ⟨_, c1, _⟩ := hcell k hk
  have hc := hU.each _ (List.getElem_mem hk)
  have hlen : (us[k]'hk).q.length = r.length + 1 := by rw [hq]; rfl
  obtain ⟨gq, oq, cq, hqv, _, hglt, _⟩ := Kd.Q_form hc.row (by omega)
  have hrow := hc.row
  rw [hqv] at hrow
  obtain ⟨cs, hcl, hM, hce, _⟩ := Kd.Q_elem hrow [] 0 (by omega) (by omega)
  have hx : (us[k]'hk).q.getD (0 : Int).toNat [] = x := by rw [hq]; rfl
  rw [hx] at hM
  obtain ⟨A2, c2, rfl, hl2, hC2⟩ := hM
  have e0 : w1.cell? ⟨gq, oq, none⟩ = some (.slice A2 x.length c2) := by
    have h2 := hce 0 _ rfl
    simpa using h2
  have hdrop := Kd.Q_drop hrow (k := 1) (by omega)
  rw [hlen, hq] at hdrop
  have hdrop2 : (fxk w0).Q 32 w1 w0.heap.size (us[k]'hk).own (.slice (if cq = 1 then some ⟨gq, oq, none⟩ else Option.map (fun x : Addr => x.add (1 * (fxk w0).sz)) (some ⟨gq, oq, none⟩)) r.length (cq - 1)) r := hdrop
  obtain ⟨i32, hi32, hz⟩ := Option.map_eq_some_iff.1 info32
  simp only [Prod.mk.injEq] at hz
  have hcut := cut_from (P := Try.prog) 22 32 .i64 Try.underlying22 hi32 1 hz.2.1 (some ⟨gq, oq, none⟩) (r.length + 1) cq 1 (by omega) (by omega)
  have hap := hU.apart _ (List.getElem_mem hk)
  refine ⟨g, cu, gq, oq, r.length, cq, A2, c2, _, hv, h.inOwn hk (.inr hrg), hfz _, by rw [c1, hqv, hlen], e0, hC2, hcut, fun w2 hb => ?_⟩
  obtain ⟨A', hA'⟩ : ∃ A', A' = (if cq = 1 then some ⟨gq, oq, none⟩ else Option.map (fun x : Addr => x.add (1 * (fxk w0).sz)) (some ⟨gq, oq, none⟩)) := ⟨_, rfl⟩
  have hAA : (if cq = (1 : Int).toNat then some (⟨gq, oq, none⟩ : Addr) else Option.map (fun x : Addr => x.add ((1 : Int).toNat * 1)) (some ⟨gq, oq, none⟩)) = A' := by rw [hA']; rfl
  rw [← hA'] at hdrop2
  rw [hAA]
  have hgl := (hU.lt g hrg).2
  have hu2 : Upd (fun j => (us[k]'hk).own j ∨ rok j) w1 (w2.setCell ⟨g, k * 3 + 1, none⟩ (.slice A' r.length (cq - 1))) := (Upd.of_below hb _).setCell (.inl (.inr hrg)) _
  have hr2 : rawk.R 45 w2 w0.heap.size rok uv (us.map Uc.raw) := Kd.R_upd hU.row (Upd.of_below hb (fun _ => False)) (fun _ _ h => h)
  rw [hv] at hr2
  have hr3 := (raw_put hr2 k (by rw [List.length_map]; exact hk)).1 (.slice A' r.length (cq - 1)) rfl
  rw [← hv] at hr3
  refine ⟨_, _, _, _, h.set k hk' hk { (chs[k]'hk') with qv := qv, q := r } { (us[k]'hk) with qv := .slice A' r.length (cq - 1), q := r } hu1 (fun j hj => .inl hj) hp1 hu2 (fun j hj => .inl hj) (hU.set k hk hu2 (fun _ hj => hj) _ ⟨?_, ?_, hc.room1, ?_⟩ ?_ (fun j hj => .inl hj)) s1 rfl s3, by rw [List.length_set]⟩
  · exact Kd.Q_far (p := ⟨g, k * 3 + 1, none⟩) (Kd.Q_upd hdrop2 (Upd.of_below hb (fun _ => False)) (fun _ _ h => h)) (fun j hj he => by
      have he' : j = g := he
      exact hap j hj (he' ▸ hrg)) _
  · intro j hj
    exact ⟨(hc.lt j hj).1, Nat.lt_of_lt_of_le (hc.lt j hj).2 hu2.size⟩
  · have := hc.len
    show (r.length : Int) ≤ (us[k]'hk).room
    omega
  · simpa [Uc.raw] using hr3

/-- Close on the program's side, then the document's cell. -/
structure MidC (w0 : World) (F : Nat → Prop) (sb : Nat) (uv : Value) (n k : Nat) (cl : Bool) (w w1 : World) : Prop where
  upd : Upd F w w1
  rest : ∃ g c, uv = .slice (some ⟨g, 0, none⟩) n c ∧ F g ∧ w1.frozen? ⟨g, k * 3 + 2, none⟩ = false ∧ w1.cell? ⟨g, k * 3 + 2, none⟩ = some (.bool cl) ∧
    ∀ w2, Below w1.heap.size w1 w2 → Ex w0 (w2.setCell ⟨g, k * 3 + 2, none⟩ (.bool true)) sb uv n

theorem Bo.close_out (h : Bo w0 w top sb chs rok uv us) (i : Int) (hi : i < 1 ∨ (us.length : Int) < i) :
    Calls Try.prog 14 #[.pointer (some ⟨sb, 0, none⟩), .int .i64 i] w fun e w' => e = .returned (.int .i64 1) ∧ w = w' := Close_out h.p i (by rw [h.len]; exact hi)
theorem Bo.close_in (h : Bo w0 w top sb chs rok uv us) (k : Nat) (hk : k < us.length) :
    Calls Try.prog 14 #[.pointer (some ⟨sb, 0, none⟩), .int .i64 ((k : Int) + 1)] w fun e w1 => e = .returned (.int .i64 (if (us[k]'hk).closed then 15 else 0)) ∧ MidC w0 (Bo.fp top chs rok us) sb uv us.length k (us[k]'hk).closed w w1 := by
  have hk' : k < chs.length := by rw [h.len]; exact hk
  obtain ⟨s1, s2, s3⟩ := h.same k hk' hk
  have key : ∀ w1, Upd (chs[k]'hk').own w w1 → PRep w0 w1 top sb (chs.set k { (chs[k]'hk') with closed := true }) → MidC w0 (Bo.fp top chs rok us) sb uv us.length k (us[k]'hk).closed w w1 := by
    intro w1 hu1 hp1
    have hU := h.uAfter hk' hu1
    obtain ⟨g, cu, hv, hrg, hfz, hcell⟩ := hU.cells (by omega)
    obtain ⟨_, _, c2⟩ := hcell k hk
    have hc := hU.each _ (List.getElem_mem hk)
    have hap := hU.apart _ (List.getElem_mem hk)
    have hgl := (hU.lt g hrg).2
    refine ⟨hu1.mono (fun j _ hj => h.inCh hk' hj), g, cu, hv, h.inOwn hk (.inr hrg), hfz _, c2, fun w2 hb => ?_⟩
    have hu2 : Upd (fun j => (us[k]'hk).own j ∨ rok j) w1 (w2.setCell ⟨g, k * 3 + 2, none⟩ (.bool true)) := (Upd.of_below hb _).setCell (.inl (.inr hrg)) _
    have hr2 : rawk.R 45 w2 w0.heap.size rok uv (us.map Uc.raw) := Kd.R_upd hU.row (Upd.of_below hb (fun _ => False)) (fun _ _ h => h)
    rw [hv] at hr2
    have hr3 := (raw_put hr2 k (by rw [List.length_map]; exact hk)).2 true
    rw [← hv] at hr3
    refine ⟨_, _, _, _, h.set k hk' hk { (chs[k]'hk') with closed := true } { (us[k]'hk) with closed := true } hu1 (fun j hj => .inl hj) hp1 hu2 (fun j hj => .inl hj) (hU.set k hk hu2 (fun _ hj => hj) _ ⟨?_, ?_, hc.room1, hc.len⟩ ?_ (fun j hj => .inl hj)) s1 s2 rfl, by rw [List.length_set]⟩
    · exact Kd.Q_far (p := ⟨g, k * 3 + 2, none⟩) (Kd.Q_upd hc.row (Upd.of_below hb (fun _ => False)) (fun _ _ h => h)) (fun j hj he => by
        have he' : j = g := he
        exact hap j hj (he' ▸ hrg)) _
    · intro j hj
      exact ⟨(hc.lt j hj).1, Nat.lt_of_lt_of_le (hc.lt j hj).2 hu2.size⟩
    · simpa [Uc.raw] using hr3
  have hcast : ((k + 1 : Nat) : Int) = (k : Int) + 1 := by omega
  by_cases hcl : (chs[k]'hk').closed = true
  · have hc := Close_twice h.p k hk' hcl
    rw [hcast] at hc
    refine hc.mono ?_
    rintro e w1 ⟨rfl, rfl⟩
    refine ⟨by rw [← s3, hcl]; rfl, key w (Upd.refl _ _) ?_⟩
    have he : chs.set k { (chs[k]'hk') with closed := true } = chs := by
      have : ({ (chs[k]'hk') with closed := true } : Ch) = chs[k]'hk' := by rw [← hcl]
      rw [this, List.set_getElem_self]
    rw [he]
    exact h.p
  · have hcl' : (chs[k]'hk').closed = false := by simpa using hcl
    have hc := Close_once h.p k hk' hcl'
    rw [hcast] at hc
    refine hc.mono ?_
    rintro e w1 ⟨rfl, hu1, hp1⟩
    exact ⟨by rw [← s3, hcl']; rfl, key w1 hu1 hp1⟩

/-- A channel more on both sides. -/
theorem Bo.made (h : Bo w0 w top sb chs rok uv us) (h0 : w0.heap.size ≤ w.heap.size) {r : Int} (hr0 : 0 ≤ r) (hr1 : r ≤ 1024) (hf : us.length < 1000) {top' : Nat → Prop} {c : Ch} {w1 w1a w2 : World} {v2 : Value}
    (hu1 : Upd top w w1) (ht : ∀ j, top' j → top j ∨ w.heap.size ≤ j) (hc : ∀ j, c.own j → w.heap.size ≤ j) (c1 : c.room = r) (c2 : c.q = []) (c3 : c.closed = false) (hp : PRep w0 w1 top' sb (chs ++ [c]))
    (hb1 : Below w1.heap.size w1 w1a) (hg : w1a.grownBy w2 uv.ownBlock)
    (hr : rawk.R 45 w2 w0.heap.size (fun j => rok j ∨ w1.heap.size ≤ j) v2 (us.map Uc.raw ++ [(r, .slice none 0 0, false)])) : Ex w0 w2 sb v2 (us.length + 1) := by
  have hin : ∀ j, uv.ownBlock = some j → rok j := fun j hj => h.u.row.1 j hj
  have hu2 : Upd (fun j => uv.ownBlock = some j) w1 w2 := (Upd.of_below hb1 _).grown hg (fun j hj => .inl hj)
  have hs1 := hu1.size
  have hs2 := hu2.size
  refine ⟨top', chs ++ [c], fun j => (rok j ∨ w1.heap.size ≤ j) ∧ j < w2.heap.size, us ++ [⟨r, .slice none 0 0, [], false, fun _ => False⟩], ⟨?_, ⟨?_, ?_, ?_, ?_, ?_, ?_⟩, ?_, ?_, ?_⟩, by simp⟩
  · refine hp.upd hu2 (fun j hj h4 => ?_) (fun d hd j hj h4 => ?_)
    · rcases ht j hj with h5 | h5
      · exact h.dis j (.inl h5) (.inl (hin j h4))
      · have := (h.u.lt j (hin j h4)).2
        omega
    · rcases List.mem_append.1 hd with hd | hd
      · exact h.dis j (.inr ⟨d, hd, hj⟩) (.inl (hin j h4))
      · rw [List.mem_singleton.1 hd] at hj
        have := (h.u.lt j (hin j h4)).2
        have := hc j hj
        omega
  · rw [List.map_append]
    exact Kd.R_mono (Kd.R_bound hr) (fun j hj => ⟨hj.1, hj.2.2.1⟩)
  · rintro j ⟨hj | hj, h2⟩
    · exact ⟨(h.u.lt j hj).1, h2⟩
    · exact ⟨by omega, h2⟩
  · intro u hu
    rcases List.mem_append.1 hu with hu | hu
    · refine ((h.u.each u hu).upd hu1 (fun j hj h2 => h.dis j (.inl h2) (.inr ⟨u, hu, hj⟩))).upd hu2 (fun j hj h2 => h.u.apart u hu j hj (hin j h2))
    · rw [List.mem_singleton.1 hu]
      exact ⟨Kd.Q_nil _ _ _ _ _, fun j hj => hj.elim, hr1, hr0⟩
  · intro u hu j hj hk
    rcases List.mem_append.1 hu with hu | hu
    · rcases hk.1 with h2 | h2
      · exact h.u.apart u hu j hj h2
      · have := ((h.u.each u hu).lt j hj).2
        omega
    · rw [List.mem_singleton.1 hu] at hj
      exact hj
  · refine pairwise_snoc h.u.pair (fun d hd j hj hj2 => hj2)
  · rw [List.length_append, List.length_singleton]
    omega
  · rw [List.length_append, List.length_append, List.length_singleton, List.length_singleton, h.len]
  · intro j h1 h2
    rw [List.length_append, List.length_singleton] at h1 h2
    by_cases hj : j < us.length
    · rw [List.getElem_append_left hj, List.getElem_append_left (by rw [h.len]; exact hj)]
      exact h.same j _ hj
    · obtain rfl : j = us.length := by omega
      have e1 : (chs ++ [c])[us.length]'(by rw [List.length_append, List.length_singleton]; exact h1) = c := by
        rw [List.getElem_append_right (by rw [h.len]; exact Nat.le_refl _)]
        simp [h.len]
      rw [e1]
      simp [c1, c2, c3]
  · intro j hj h4
    have hA : (top j ∨ ∃ c ∈ chs, c.own j) ∨ (w.heap.size ≤ j ∧ j < w1.heap.size) := by
      rcases hj with hj | ⟨d, hd, hj⟩
      · rcases ht j hj with h5 | h5
        · exact .inl (.inl h5)
        · exact .inr ⟨h5, (hp.lt j hj).2⟩
      · have hlt := ((hp.each d hd).lt j hj).2
        rcases List.mem_append.1 hd with hd | hd
        · exact .inl (.inr ⟨d, hd, hj⟩)
        · rw [List.mem_singleton.1 hd] at hj
          exact .inr ⟨hc j hj, hlt⟩
    have hB : (rok j ∨ ∃ u ∈ us, u.own j) ∨ w1.heap.size ≤ j := by
      rcases h4 with h4 | ⟨u, hu, h4⟩
      · exact h4.1.imp .inl id
      · rcases List.mem_append.1 hu with hu | hu
        · exact .inl (.inr ⟨u, hu, h4⟩)
        · rw [List.mem_singleton.1 hu] at h4
          exact h4.elim
    rcases hA with hA | hA
    · rcases hB with hB | hB
      · exact h.dis j hA hB
      · have := (h.lt (k := j) (.inl hA)).2
        omega
    · rcases hB with hB | hB
      · have := (h.lt (k := j) (.inr hB)).2
        omega
      · omega
end
end Go.Proofs.Ytnmahbpkaocjdaa
