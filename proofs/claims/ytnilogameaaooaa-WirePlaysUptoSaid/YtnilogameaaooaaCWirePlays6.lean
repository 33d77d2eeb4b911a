/- Texts of this claim, put together: PureWireChunks, PlayPure, ExtPlays, PureWirePlays, Opens. -/
import Derived.Test.YtnilogameaaooaaCWirePlays4
import Derived.Test.YtnilogameaaooaaCWirePlays5
import Derived.Test.YtnilogameaaooaaRows
import Derived.Test.YtnilogameaaooaaWWords
import Derived.Test.YtnilogameaaooaaWLast
import Derived.Deep.Slices
import Derived.ProofKit
import Derived.SizedLaws
/- depotlaw03.WireChunks answers true for every text, plan, longest text and cuts, all in 2^20 values and letters. -/
set_option linter.unusedVariables false
set_option linter.unusedSimpArgs false
namespace Go.Proofs.Ytnilogameaaooaa.Pure
open Go.RowKit Go.Proofs.Ytnilogameaaooaa.Q Go.Proofs.Ytnilogameaaooaa.Rdr Go.Proofs.Ytnilogameaaooaa.Tail Go.Proofs.YtnilogameaaooaaW.PrintWords Go.Proofs.YtnilogameaaooaaW.PrintLast Go.Proofs.YtnilogameaaooaaW.PrintMore Go.Proofs.Ytnilogameaaooaa.Bytes Go.Proofs.Ytnilogameaaooaa.Evs

theorem close_got (text plan : ByteArray) (most : Int) (h : most ≤ 9223372036854775807) : (fedAll text plan most).2 = (got text plan most).1 ∧ (close (fedAll text plan most).1).code = (shutR (got text plan most) plan.size).1 ∧ (close (fedAll text plan most).1).place = (shutR (got text plan most) plan.size).2 := by
  have hA := feed_got text plan most h
  obtain ⟨n1, n2⟩ := newM_item plan (m0 most)
  unfold fedAll
  generalize feed (newM plan (m0 most)) (numsOf text) = F at hA ⊢
  obtain ⟨a1, a2, a3, a4, a5, a6, a7⟩ := hA
  rw [n1] at a5
  rw [n2] at a6
  refine ⟨a1, ?_⟩
  unfold close shutR Ps.stopped
  rw [a7, a6, a5, a2, a4]
  by_cases hc : (got text plan most).2.1 = 0
  · rw [if_neg (by rw [hc]; simp)]
    by_cases hl : ((got text plan most).1.length : Int) < (plan.size : Int)
    · rw [if_pos (by omega), if_pos ⟨hc, hl⟩]
      exact ⟨rfl, rfl⟩
    · rw [if_neg (by omega), if_neg (fun q => hl q.2)]
      exact ⟨rfl, a3⟩
  · rw [if_pos (by simp [hc]), if_neg (fun q => hc q.1)]
    exact ⟨rfl, a3⟩
theorem WireChunks : ∀ (x0 : S60), (∀ n ∈ ([((x0).f0).size] ++ ([((x0).f1).size] ++ (([] : List Nat) ++ ((((x0).f3).length * Try.prog.bytesOf 3) :: ((x0).f3).flatMap (fun y5 => ([] : List Nat)))))), n ≤ 140737488351232) → (((x0).f0).size ≤ maxLen ∧ (((x0).f1).size ≤ maxLen ∧ ((Lit.int .i64 ((x0).f2)).wf = true ∧ (((x0).f3).length ≤ maxLen ∧ ∀ y5 ∈ (x0).f3, (Lit.int .i64 (y5)).wf = true)))) → (((((x0).f0).size + 1) + ((((x0).f1).size + 1) + (1 + ((((x0).f3).map (fun y5 => 1)).sum + 1)))) + 1) ≤ 1048576 → ∃ k, depotlaw03_WireChunks.f k (x0.f0) (x0.f1) (x0.f2) (x0.f3) = some true := by
  intro x0 _ hw hk
  obtain ⟨text, plan, most, cuts⟩ := x0
  simp only at hw hk ⊢
  have hm := (bounds_i64 hw.2.2.1).2
  have h1 : text.size ≤ 1099511627776 := by omega
  have h2 : plan.size ≤ 1099511627776 := by omega
  have hfed : ∀ l, depotlaw03_fedIn.f text plan most l = some ((fedAll text plan most).2, (close (fedAll text plan most).1).code, (close (fedAll text plan most).1).place, (fedAll text plan most).1.taken) := fun l => if_pos ⟨h1, h2, by omega⟩
  obtain ⟨g1, g2, g3⟩ := close_got text plan most (by omega)
  have hlen := got_len text plan most
  have hs := split_got text plan most h1 h2 (by omega)
  rw [← g1] at hlen
  rw [← g1, ← g2, ← g3] at hs
  have hal : (fedAll text plan most).2.length ≤ 1099511627776 := by omega
  have hp := shut_place (text := text) (plan := plan) (most := most)
  rw [← g2, ← g3] at hp
  apply Ev.rounds
  simp only [depotlaw03_WireChunks.f]
  refine Ev.bind awake_ev (pos rfl (call (hfed cuts) (call (hfed []) (neg (by simp) (pos rfl (Ev.bind (alike_ev _ hal) (succ ?_)))))))
  simp only [depotlaw03_WireChunks.j0]
  refine neg (by simp) (call hs ?_)
  by_cases hc : (close (fedAll text plan most).1).code = 0
  · rw [if_pos hc]
    have hp := hp hc
    rw [hp, hc]
    exact pos (by simp) (pos rfl (Ev.bind (alike_ev _ hal) (now rfl)))
  · rw [if_neg hc]
    exact pos (by simp) (neg hc (now rfl))
end Go.Proofs.Ytnilogameaaooaa.Pure
/- What a play of a reader keeps: plain facts, and what stands in memory. -/
namespace Go.Proofs.Ytnilogameaaooaa.Pure
open Go.RowKit Go.Proofs.Ytnilogameaaooaa.Q Go.Proofs.Ytnilogameaaooaa.Rdr Go.Proofs.Ytnilogameaaooaa.Tail Go.Proofs.YtnilogameaaooaaW.PrintWords Go.Proofs.YtnilogameaaooaaW.PrintLast Go.Proofs.YtnilogameaaooaaW.PrintMore Go.Proofs.Ytnilogameaaooaa.Bytes Go.Proofs.Ytnilogameaaooaa.Evs
set_option linter.unusedVariables false
set_option linter.unusedSimpArgs false

theorem fed_nil (plan : ByteArray) (most : Int) : fedAll (⟨#[]⟩ : ByteArray) plan most = (newM plan (m0 most), []) := rfl
theorem fed_app (T U plan : ByteArray) (most : Int) : (fedAll (T ++ U) plan most).1 = (feed (fedAll T plan most).1 (numsOf U)).1 ∧ (fedAll (T ++ U) plan most).2 = (fedAll T plan most).2 ++ (feed (fedAll T plan most).1 (numsOf U)).2 := by
  unfold fedAll
  rw [nums_app, feed_app]
  exact ⟨rfl, rfl⟩
theorem close_shut (p : Ps) : (close p).shut = true := by
  unfold close
  split
  · rfl
  · split <;> rfl
theorem close_stopped (p : Ps) : (close p).stopped = true := by unfold Ps.stopped; rw [close_shut]; rfl
theorem close_close (p : Ps) : close (close p) = close p := by
  have h := close_shut p
  have h2 := close_stopped p
  generalize close p = q at h h2 ⊢
  unfold close
  rw [if_pos h2]
  obtain ⟨a1, a2, a3, a4, a5, a6, a7, a8, a9, a10, a11, a12⟩ := q
  simp only at h
  rw [h]
theorem feed_shut (p : Ps) (l : List Int) : feed (close p) l = (close p, []) := feed_stop (close_stopped p) l
theorem read_fed (T plan : ByteArray) (most : Int) (h1 : T.size ≤ 1099511627776) (h2 : plan.size ≤ 1099511627776) (h : most ≤ 9223372036854775807) :
    Ev (fun k => depotref03_Read.f k T plan most) ((fedAll T plan most).2.map to78, (fedAll T plan most).1.code, (fedAll T plan most).1.place, (fedAll T plan most).1.taken) := by
  have hA := feed_got T plan most h
  have := read_got T plan most h1 h2 h
  unfold fedAll
  rw [hA.items, hA.code, hA.place, hA.taken]
  exact this
theorem closed_fed (T plan : ByteArray) (most : Int) (h1 : T.size ≤ 1099511627776) (h2 : plan.size ≤ 1099511627776) (h : most ≤ 9223372036854775807) :
    Ev (fun k => depotref03_Closed.f k T plan most) ((close (fedAll T plan most).1).code, (close (fedAll T plan most).1).place) := by
  obtain ⟨_, g2, g3⟩ := close_got T plan most h
  rw [g2, g3]
  exact closed_got T plan most h1 h2 h
theorem fed_items (T plan : ByteArray) (most : Int) (h : most ≤ 9223372036854775807) : (fedAll T plan most).2.length ≤ plan.size := by
  rw [(close_got T plan most h).1]
  exact got_len T plan most
theorem newM_wf (plan : ByteArray) (most : Int) (h2 : plan.size ≤ 1099511627776) (h : most ≤ 9223372036854775807) : (newM plan (m0 most)).stopped = true ∨ Wf (newM plan (m0 most)) := by
  have hm := m0_range most h
  exact (newM_ok plan (m0 most) (by omega) hm.1 hm.2).1
theorem fed_wf (T plan : ByteArray) (most : Int) (h2 : plan.size ≤ 1099511627776) (h : most ≤ 9223372036854775807) : (fedAll T plan most).1.stopped = true ∨ Wf (fedAll T plan most).1 :=
  feed_wf _ _ (newM_wf plan most h2 h) (numsOf_range T)
theorem fed_taken (T plan : ByteArray) (most : Int) (h2 : plan.size ≤ 1099511627776) (h : most ≤ 9223372036854775807) : 0 ≤ (fedAll T plan most).1.taken ∧ (fedAll T plan most).1.taken ≤ (T.size : Int) := by
  have hm := m0_range most h
  have h3 := (newM_ok plan (m0 most) (by omega) hm.1 hm.2).2.2
  have := feed_taken (numsOf T) (newM plan (m0 most))
  rw [h3, numsOf_len] at this
  unfold fedAll
  omega
/-- The reader as the play has it. -/
def plSt (T plan : ByteArray) (most : Int) (sh : Bool) : Ps := if sh = true then close (fedAll T plan most).1 else (fedAll T plan most).1
/-- What stands in memory: the reader, and the document's answer beside it. -/
structure St (w W : World) (b gb : Nat) (P : Ps) (its : List S78) (c a t : Int) : Prop where
  rep : Rep P W b w.heap.size (fun k => b < k)
  gc : ∃ v, W.heap[gb]? = some (.cells #[v, .int .i64 c, .int .i64 a, .int .i64 t] 36 (0, 0)) ∧ Kd.R k78 78 W w.heap.size (fun _ => True) v its
  bel : Below w.heap.size w W
  lo : w.heap.size ≤ b
  bg : b < gb
section
variable {w W W' : World} {b gb : Nat} {P P' : Ps} {its its' : List S78} {c a t c' a' t' : Int}
theorem row_typed {base : Nat} {v : Value} (h : Kd.R k78 78 W base (fun _ => True) v its) (hm : ∀ (k : Nat) (cs : Array Value), W.heap[k]? = some (.cells cs 78 (0, 0)) → W'.heap[k]? = W.heap[k]?) : Kd.R k78 78 W' base (fun _ => True) v its := by
  refine Kd.R_mono (Kd.R_step (Kd.R_bound h) ?_) (fun _ _ => trivial)
  rintro k ⟨_, _, _, q, hq, cells, hc⟩ _
  have hq' : q = 78 := by
    rcases List.mem_cons.1 hq with e | e
    · exact e
    · exact absurd e (by simp [k78, Kd.iso, Kd.pair, Kd.int, Kd.bool, Kd.string, Kd.scalar])
  subst hq'
  exact hm k cells hc
theorem rep_typed {base : Nat} {ok : Nat → Prop} (h : Rep P W b base ok) (hb : W'.heap[b]? = W.heap[b]?) (hm : ∀ (k : Nat) (cs : Array Value), W.heap[k]? = some (.cells cs 5 (0, 0)) → W'.heap[k]? = W.heap[k]?) : Rep P W' b base ok := by
  obtain ⟨u, hA, hR⟩ := h
  refine ⟨u, hb.trans hA, Kd.R_mono (Kd.R_step (Kd.R_bound hR) ?_) (fun k hk => hk.1)⟩
  rintro k ⟨_, _, _, q, hq, cells, hc⟩ _
  have hq' : q = 5 := by
    rcases List.mem_cons.1 hq with e | e
    · exact e
    · exact absurd e (by simp [Kd.int, Kd.scalar])
  subst hq'
  exact hm k cells hc
theorem St.below (h : St w W b gb P its c a t) (hb : Below W.heap.size W W') : St w W' b gb P its c a t := by
  obtain ⟨v, hv, hR⟩ := h.gc
  exact ⟨h.rep.below hb, ⟨v, (hb.block _ (Array.getElem?_eq_some_iff.1 hv).1).trans hv, Kd.R_below hR hb⟩, h.bel.trans (hb.mono h.bel.size), h.lo, h.bg⟩
theorem St.frame {gp : Nat} (h : St w W b gb P its c a t) (hF : Rdr.Frame (fun k => b < k ∧ k ≠ gp) b W W') (hr : Rep P' W' b w.heap.size (fun k => b < k ∧ k ≠ gp)) : St w W' b gb P' its c a t := by
  obtain ⟨v, hv, hR⟩ := h.gc
  obtain ⟨u, hA, _⟩ := h.rep
  have hlo := h.lo
  have hbg := h.bg
  refine ⟨hr.wider (fun k hk => hk.1), ⟨v, (hF.block _ (Array.getElem?_eq_some_iff.1 hv).1 (by omega) (.inr ?_)).trans hv, row_typed hR ?_⟩, h.bel.trans (frame_below hF h.bel.size hlo (fun k hk => by omega)), h.lo, h.bg⟩
  · rintro ⟨cs, hc⟩
    rw [hv] at hc
    simp at hc
  · intro k cs hk
    refine hF.block k (Array.getElem?_eq_some_iff.1 hk).1 ?_ (.inr ?_)
    · rintro rfl
      have hA : W.heap[k]? = some (.cells _ 71 (0, 0)) := hA
      rw [hk] at hA
      simp at hA
    · rintro ⟨cs2, hc⟩
      rw [hk] at hc
      simp at hc
theorem St.shutFrame {ok : Nat → Prop} (h : St w W b gb P its c a t) (hF : Rdr.Frame ok b W W') (hok : ∀ k, ok k → b < k) (hr : Rep P' W' b w.heap.size ok) : St w W' b gb P' its c a t := by
  obtain ⟨v, hv, hR⟩ := h.gc
  obtain ⟨u, hA, _⟩ := h.rep
  have hlo := h.lo
  have hbg := h.bg
  refine ⟨hr.wider hok, ⟨v, (hF.block _ (Array.getElem?_eq_some_iff.1 hv).1 (by omega) (.inr ?_)).trans hv, row_typed hR ?_⟩, h.bel.trans (frame_below hF h.bel.size hlo (fun k hk => by have := hok k hk; omega)), h.lo, h.bg⟩
  · rintro ⟨cs, hc⟩
    rw [hv] at hc
    simp at hc
  · intro k cs hk
    refine hF.block k (Array.getElem?_eq_some_iff.1 hk).1 ?_ (.inr ?_)
    · rintro rfl
      have hA : W.heap[k]? = some (.cells _ 71 (0, 0)) := hA
      rw [hk] at hA
      simp at hA
    · rintro ⟨cs2, hc⟩
      rw [hk] at hc
      simp at hc
theorem set_other {g k i : Nat} {u : Value} (h : k ≠ g) : (W.setCell ⟨g, i, none⟩ u).heap[k]? = W.heap[k]? := Below.heap_setCell W ⟨g, i, none⟩ u k h
theorem set_here {g i : Nat} {u : Value} {cs : Array Value} {e : TypeId} (h : W.heap[g]? = some (.cells cs e (0, 0))) : (W.setCell ⟨g, i, none⟩ u).heap[g]? = some (.cells (cs.setIfInBounds i u) e (0, 0)) := by
  simp [World.setCell, Array.getElem?_modify, h]
/-- A cell of the document's answer is written. -/
theorem St.set (h : St w W b gb P its c a t) {i : Nat} {u v v' : Value} (hv : W.heap[gb]? = some (.cells #[v, .int .i64 c, .int .i64 a, .int .i64 t] 36 (0, 0)))
    (e : (#[v, .int .i64 c, .int .i64 a, .int .i64 t] : Array Value).setIfInBounds i u = #[v', .int .i64 c', .int .i64 a', .int .i64 t']) (hR : Kd.R k78 78 W w.heap.size (fun _ => True) v' its') :
    St w (W.setCell ⟨gb, i, none⟩ u) b gb P its' c' a' t' := by
  have hbg := h.bg
  have hlo := h.lo
  obtain ⟨q, hA, _⟩ := h.rep
  refine ⟨rep_typed h.rep (set_other (W := W) (g := gb) (k := b) (i := i) (u := u) (by omega)) (fun k cs hk => set_other ?_), ⟨v', ?_, row_typed hR (fun k cs hk => set_other ?_)⟩, h.bel.setCell (show w.heap.size ≤ gb by omega) _, h.lo, h.bg⟩
  · rintro rfl
    rw [hk] at hv
    simp at hv
  · rw [set_here hv, e]
  · rintro rfl
    rw [hk] at hv
    simp at hv
end
theorem St.lts {w W : World} {b gb : Nat} {P : Ps} {its : List S78} {c a t : Int} (h : St w W b gb P its c a t) : b < gb ∧ gb < W.heap.size ∧ w.heap.size ≤ b := by
  obtain ⟨v, hv, _⟩ := h.gc
  exact ⟨h.bg, (Array.getElem?_eq_some_iff.1 hv).1, h.lo⟩
theorem St.all {w W : World} {b gb : Nat} {P : Ps} {its its' : List S78} {c a t c' a' t' : Int} {v' : Value} (h : St w W b gb P its c a t) (hR : Kd.R k78 78 W w.heap.size (fun _ => True) v' its') :
    St w ((((W.setCell ⟨gb, 0, none⟩ v').setCell ⟨gb, 1, none⟩ (.int .i64 c')).setCell ⟨gb, 2, none⟩ (.int .i64 a')).setCell ⟨gb, 3, none⟩ (.int .i64 t')) b gb P its' c' a' t' := by
  obtain ⟨v, hv, _⟩ := h.gc
  have h1 := St.set h (i := 0) (u := v') (v' := v') (c' := c) (a' := a) (t' := t) hv rfl hR
  have hv1 := set_here (i := 0) (u := v') hv
  obtain ⟨u1, hu1, hR1⟩ := h1.gc
  rw [hv1] at hu1
  have e1 : v' = u1 := by injection hu1 with q; injection q with q; simpa using q
  subst e1
  have h2 := St.set h1 (i := 1) (u := .int .i64 c') (v' := v') (c' := c') (a' := a) (t' := t) hv1 rfl hR1
  have hv2 := set_here (i := 1) (u := .int .i64 c') hv1
  obtain ⟨u2, hu2, hR2⟩ := h2.gc
  rw [hv2] at hu2
  have e2 : v' = u2 := by injection hu2 with q; injection q with q; simpa using q
  subst e2
  have h3 := St.set h2 (i := 2) (u := .int .i64 a') (v' := v') (c' := c') (a' := a') (t' := t) hv2 rfl hR2
  have hv3 := set_here (i := 2) (u := .int .i64 a') hv2
  obtain ⟨u3, hu3, hR3⟩ := h3.gc
  rw [hv3] at hu3
  have e3 : v' = u3 := by injection hu3 with q; injection q with q; simpa using q
  subst e3
  exact St.set h3 (i := 3) (u := .int .i64 t') (v' := v') (c' := c') (a' := a') (t' := t') hv3 rfl hR3
theorem items_set {W : World} {base g i : Nat} {u v : Value} {its : List S55} {cs : Array Value} {e : TypeId} (h : Kd.R k55 55 W base (fun _ => True) v its) (hg : W.heap[g]? = some (.cells cs e (0, 0))) (he : e ≠ 55) : Kd.R k55 55 (W.setCell ⟨g, i, none⟩ u) base (fun _ => True) v its := out_set h hg he
theorem o_kept {w5 w4 : World} {ok : Nat → Prop} {b g : Nat} {cs : Array Value} (h : Rdr.Frame ok b w4 w5) (hg : w4.heap[g]? = some (.cells cs 66 (0, 0))) (hne : g ≠ b) : w5.heap[g]? = some (.cells cs 66 (0, 0)) :=
  (h.block g (Array.getElem?_eq_some_iff.1 hg).1 hne (.inr (by
    rintro ⟨c2, h2⟩
    rw [hg] at h2
    simp at h2))).trans hg
theorem items_all {W : World} {base g : Nat} {v u0 u1 u2 u3 : Value} {its : List S55} {cs : Array Value} (h : Kd.R k55 55 W base (fun _ => True) v its) (hg : W.heap[g]? = some (.cells cs 36 (0, 0))) : Kd.R k55 55 ((((W.setCell ⟨g, 0, none⟩ u0).setCell ⟨g, 1, none⟩ u1).setCell ⟨g, 2, none⟩ u2).setCell ⟨g, 3, none⟩ u3) base (fun _ => True) v its :=
  items_set (items_set (items_set (items_set h hg (by decide)) (set_here hg) (by decide)) (set_here (set_here hg)) (by decide)) (set_here (set_here (set_here hg))) (by decide)
theorem docs_all {W : World} {base g : Nat} {v u0 u1 u2 u3 : Value} {its : List S78} {cs : Array Value} (h : Kd.R k78 78 W base (fun _ => True) v its) (hg : W.heap[g]? = some (.cells cs 36 (0, 0))) : Kd.R k78 78 ((((W.setCell ⟨g, 0, none⟩ u0).setCell ⟨g, 1, none⟩ u1).setCell ⟨g, 2, none⟩ u2).setCell ⟨g, 3, none⟩ u3) base (fun _ => True) v its := by
  refine row_typed h (fun k cs2 hk => ?_)
  have hne : k ≠ g := by
    rintro rfl
    rw [hk] at hg
    simp at hg
  rw [set_other hne, set_other hne, set_other hne, set_other hne]
theorem two_set {w W : World} {b gb : Nat} {P : Ps} {its : List S78} {c a t c' a' : Int} {v : Value} (h : St w W b gb P its c a t) (hv : W.heap[gb]? = some (.cells #[v, .int .i64 c, .int .i64 a, .int .i64 t] 36 (0, 0))) (hR : Kd.R k78 78 W w.heap.size (fun _ => True) v its) :
    St w ((W.setCell ⟨gb, 1, none⟩ (.int .i64 c')).setCell ⟨gb, 2, none⟩ (.int .i64 a')) b gb P its c' a' t := by
  have h2 := St.set h (i := 1) (u := .int .i64 c') (v' := v) (c' := c') (a' := a) (t' := t) hv rfl hR
  have hv2 := set_here (i := 1) (u := .int .i64 c') hv
  obtain ⟨u2, hu2, hR2⟩ := h2.gc
  rw [hv2] at hu2
  have e2 : v = u2 := by injection hu2 with q; injection q with q; simpa using q
  subst e2
  exact St.set h2 (i := 2) (u := .int .i64 a') (v' := v) (c' := c') (a' := a') (t' := t) hv2 rfl hR2
end Go.Proofs.Ytnilogameaaooaa.Pure
/- depotlaw03.WirePlays, walked by hand: it answers true. -/
namespace Go.Proofs.Ytnilogameaaooaa.Q
open Go.RowKit Go.Proofs.Ytnilogameaaooaa.Pure Go.Proofs.Ytnilogameaaooaa.Rdr Go.Proofs.Ytnilogameaaooaa.Tail Go.Proofs.YtnilogameaaooaaW.PrintWords Go.Proofs.YtnilogameaaooaaW.PrintLast Go.Proofs.YtnilogameaaooaaW.PrintMore Go.Proofs.Ytnilogameaaooaa.Bytes
set_option linter.unusedVariables false
set_option linter.unusedSimpArgs false

def sumT (l : List S66) : Nat := (l.map fun x => x.f1.size).sum
def depotlaw03_WirePlays.f (a0 : ByteArray) (a1 : Int) (l2 : List (S66)) : Option (Bool) :=
  if a0.size ≤ 1048576 ∧ a1 ≤ 9223372036854775807 ∧ sumT l2 ≤ 1048576 ∧ l2.length ≤ 1048576 then some true else none
set_option maxHeartbeats 2000000 in
set_option maxRecDepth 100000 in
theorem fault_calls (r : Rd) (w : World) (b : Nat) (h : r.At w b) :
    Calls Try.prog 31 #[.pointer (some ⟨b, 0, none⟩)] w fun e w' => e = .returned (.agg #[.int .i64 r.code, .int .i64 r.place]) ∧ Below w.heap.size w w' := by
  have HH := Aside0.mk h
  have hlt := h.lt
  have hne : (w.heap.size = b) = False := eq_false (by omega)
  have hne' : (b = w.heap.size) = False := eq_false (by omega)
  have c1 := h.c1
  have c2 := h.c2
  have f1 := h.fro 1
  have f2 := h.fro 2
  clear h
  obtain ⟨taken, code, place, shut, plan, most, item, start, state, num, need, v⟩ := r
  simp only at c1 c2
  go_enter Try.func31, Try.ntmps31
  go_wp2
  refine bodyPost_ret (results_c rfl _ _ w.heap.size 31 _ (0, 0) _ rfl (heap_alloc_new w _) Try.underlying31 rfl rfl) rfl ⟨rfl, (Below.refl _ _).alloc (Nat.le_refl _) _⟩
set_option maxHeartbeats 8000000 in
set_option maxRecDepth 100000 in
theorem depotlaw03_WirePlays.calls (a0 : ByteArray) (a1 : Int) (A2 : Option Addr) (c2 : Nat) (l2 : List (S66)) (r : Bool) (w : World) (hr2 : Kd.C k66 w A2 l2.length l2) (hc2 : l2.length ≤ c2) (h : depotlaw03_WirePlays.f a0 a1 l2 = some r) :
    Calls Try.prog 11 #[.string a0, .int .i64 a1, .slice A2 l2.length c2] w fun e w' => e = .returned (.bool r) ∧ Below w.heap.size w w' := by
  unfold depotlaw03_WirePlays.f at h
  by_cases hsz : a0.size ≤ 1048576 ∧ a1 ≤ 9223372036854775807 ∧ sumT l2 ≤ 1048576 ∧ l2.length ≤ 1048576
  case neg => rw [if_neg hsz] at h; exact absurd h (by simp)
  rw [if_pos hsz] at h
  obtain ⟨s0, s1, s2, s3⟩ := hsz
  obtain rfl := Option.some.inj h
  have HR2 := Aside0.mk hr2
  obtain ⟨Ka, hKa⟩ := awake_ev
  have HKa := Aside0.mk (hKa Ka (Nat.le_refl _))
  obtain ⟨Kr, hKr⟩ := read_fed (⟨#[]⟩ : ByteArray) a0 a1 (by decide) (by omega) s1
  have HKr := Aside0.mk (hKr Kr (Nat.le_refl _))
  have hm := m0_range a1 s1
  obtain ⟨hwf, htx, htk⟩ := newM_ok a0 (m0 a1) (by omega) hm.1 hm.2
  have HTX := Aside0.mk htx
  clear hwf htx htk hm hKa hKr h hr2
  go_enter Try.func11, Try.ntmps11
  go_wp2_with (first | (go_at_call 18; refine (depotlaw03_awake.calls Ka true _ HKa.out).mono ?_; rintro e w1 ⟨rfl, hb1⟩; have HB1 := Aside0.mk hb1; clear hb1) | (go_at_call 27; refine (new_calls a0 a1 w1 (by omega)).mono ?_; rintro e w2 ⟨rfl, hA, hB⟩; have HA := Aside0.mk hA; have HB := Aside0.mk hB; clear hA hB) | (go_at_call 20; refine (depotref03_Read.calls Kr (⟨#[]⟩ : ByteArray) a0 a1 _ _ _ _ w2 HKr.out).mono ?_; rintro e w3 ⟨v3, rfl, hR3, hB3⟩; obtain ⟨A3, c3, rfl, hc3, _⟩ := Kd.R_reads hR3; have HR3 := Aside0.mk hR3; have HB3 := Aside0.mk hB3; clear hR3 hB3))
  have hb0 := HB1.out.size
  have hl3 := HB.out.size
  have hAl := HA.out.lt
  have hl4 := HB3.out.size
  have HST0 : Aside0 (St w (w3.alloc (.cells #[.slice A3 (fedAll ⟨#[]⟩ a0 a1).2.length c3, .int .i64 (fedAll ⟨#[]⟩ a0 a1).1.code, .int .i64 (fedAll ⟨#[]⟩ a0 a1).1.place, .int .i64 (fedAll ⟨#[]⟩ a0 a1).1.taken] 36)) w1.heap.size w3.heap.size (plSt ⟨#[]⟩ a0 a1 false) ((fedAll ⟨#[]⟩ a0 a1).2.map to78) (plSt ⟨#[]⟩ a0 a1 false).code (plSt ⟨#[]⟩ a0 a1 false).place (plSt ⟨#[]⟩ a0 a1 false).taken) := by
    refine ⟨⟨⟨.slice none 0 0, ?_, ?_⟩, ⟨_, heap_alloc_new w3 _, ?_⟩, ?_, hb0, by omega⟩⟩
    · exact (Below.heap_alloc _ _ _ (by omega)).trans ((HB3.out.block _ hAl).trans HA.out)
    · show Kd.R (Kd.int .u8) 5 _ _ _ _ (newM a0 (m0 a1)).text
      rw [HTX.out]
      exact Kd.R_nil _ _ _ _ _
    · have := HR3.out
      rw [List.length_map] at this
      exact Kd.R_alloc (Kd.R_lower this (by omega)) _
    · exact ((HB1.out.trans (HB.out.mono (by omega))).trans (HB3.out.mono (by omega))).alloc (by omega) _
  generalize w3.alloc (.cells #[.slice A3 (fedAll ⟨#[]⟩ a0 a1).2.length c3, .int .i64 (fedAll ⟨#[]⟩ a0 a1).1.code, .int .i64 (fedAll ⟨#[]⟩ a0 a1).1.place, .int .i64 (fedAll ⟨#[]⟩ a0 a1).1.taken] 36) = wS at HST0 ⊢
  obtain ⟨b, hbb⟩ : ∃ b, w1.heap.size = b := ⟨_, rfl⟩
  obtain ⟨gb, hgb⟩ : ∃ gb, w3.heap.size = gb := ⟨_, rfl⟩
  rw [hbb, hgb] at HST0
  simp only [hbb, hgb]
  clear hb0 hl3 hAl hl4 HA HB HB1 HB3 HR3 hbb hgb
  go_loopg [8, 9, 10, 29] l2.length (fun g v8 v9 v10 v29 wx => ∃ (i : Nat) (T : ByteArray) (sh : Bool), i + g = l2.length ∧ v8 = .string T ∧ v9 = .int .i64 ((fedAll T a0 a1).2.length : Int) ∧ v10 = .bool sh ∧ v29 = .int .i64 (i : Int) ∧ T.size + sumT (l2.drop i) ≤ 1048576 ∧ Aside0 (St w wx b gb (plSt T a0 a1 sh) ((fedAll T a0 a1).2.map to78) (plSt T a0 a1 sh).code (plSt T a0 a1 sh).place (plSt T a0 a1 sh).taken))
  case atStart => exact ⟨0, ⟨#[]⟩, false, by omega, rfl, rfl, rfl, rfl, by rw [List.drop_zero]; show 0 + _ ≤ _; omega, HST0⟩
  case round =>
    obtain ⟨i, T, sh, hig, rfl, rfl, rfl, rfl, hsum, HS⟩ := hrel
    cases gk with
    | zero =>
      obtain rfl : i = l2.length := by omega
      have d1 : decide ((l2.length : Int) < (l2.length : Int)) = false := decide_eq_false (by omega)
      go_wp2
      go_ret
      exact ⟨rfl, HS.out.bel⟩
    | succ g =>
      have d1 : decide ((i : Int) < (l2.length : Int)) = true := decide_eq_true (by omega)
      have hlt : i < l2.length := by omega
      obtain ⟨ad1, e1, hx0, hx1⟩ := at_T66 HR2.out (i : Int) (by omega) (by omega)
      cases e1
      have ex : rd_T66 l2 (i : Int) = l2[i] := by
        unfold rd_T66
        rw [Int.toNat_natCast, List.getD_eq_getElem?_getD, List.getElem?_eq_getElem hlt]
        rfl
      rw [Int.toNat_natCast, ex] at hx0 hx1
      rw [List.drop_eq_getElem_cons hlt] at hsum
      obtain ⟨x, hx⟩ : ∃ x, l2[i] = x := ⟨_, rfl⟩
      rw [hx] at hx0 hx1 hsum
      clear ex hx
      obtain ⟨xc, U⟩ := x
      have hsum : T.size + U.size + sumT (l2.drop (i + 1)) ≤ 1048576 := by
        have : sumT (⟨xc, U⟩ :: l2.drop (i + 1)) = U.size + sumT (l2.drop (i + 1)) := by simp [sumT]
        rw [this] at hsum
        omega
      simp only at hx0 hx1
      replace hx0 := (HS.out.bel.cell (World.block_lt_of_cell? w _ hx0)).trans hx0
      replace hx1 := (HS.out.bel.cell (World.block_lt_of_cell? w _ hx1)).trans hx1
      cases xc with
      | false =>
        cases sh with
        | false =>
          have HLT := Aside0.mk HS.out.lts
          have HF1 := Aside0.mk (fed_app T U a0 a1).1
          have hF2 := (fed_app T U a0 a1).2
          obtain ⟨X, hX⟩ : ∃ X, (feed (fedAll T a0 a1).1 (numsOf U)).2 = X := ⟨_, rfl⟩
          rw [hX] at hF2
          have HX := Aside0.mk hX
          clear hX
          have hTU : (T ++ U).size ≤ 1048576 := by rw [ByteArray.size_append]; omega
          obtain ⟨Kr2, hKr2⟩ := read_fed (T ++ U) a0 a1 (by omega) (by omega) s1
          have hKr2 := hKr2 Kr2 (Nat.le_refl _)
          obtain ⟨L, hL⟩ : ∃ L, (fedAll (T ++ U) a0 a1).2.map to78 = L := ⟨_, rfl⟩
          rw [hL] at hKr2
          have HKr2 := Aside0.mk hKr2
          have hLL : L = (fedAll T a0 a1).2.map to78 ++ X.map to78 := by rw [← hL, hF2, List.map_append]
          have hLn : L.length = (fedAll (T ++ U) a0 a1).2.length := by rw [← hL, List.length_map]
          obtain ⟨Ks, hKs⟩ := same_ev X ((fedAll T a0 a1).2.map to78) (by have := fed_items (T ++ U) a0 a1 s1; rw [hF2, List.length_append] at this; rw [List.length_map]; omega)
          have hKs := hKs Ks (Nat.le_refl _)
          rw [← hLL, List.length_map] at hKs
          have HKs := Aside0.mk hKs
          have HL := Aside0.mk hL
          have HLn := Aside0.mk hLn
          have hcat : (9223372036854775807 < T.size + U.size) = False := eq_false (by omega)
          clear hKr2 hKs hL hLL hLn hF2 hTU
          go_wp2_with (first | ((with_reducible refine gate_dst (N := 63) rfl ?_); refine T_conv (w0 := wr.alloc (.cells #[.bool false, .string U] 66)) (wr.heap.size + 1) 5 rfl (N := 63) rfl 9 48 _ rfl U rfl Try.underlying9 Try.underlying48 Try.underlying5 (by simp only [maxLen]; omega) (Below.refl _ _) (by rw [size_alloc]; exact Nat.le_refl _) ?_; intro vc w4 HO hb4; obtain ⟨gp, cp, rfl, hg1, hg2, hg3, hrd⟩ := OwnT.slice HO; have hb4' : Below (wr.alloc (.cells #[.bool false, .string U] 66)).heap.size (wr.alloc (.cells #[.bool false, .string U] 66)) w4 := (by rw [size_alloc]; exact hb4); have HS1 := HS.out.below (below_alloc (Below.refl _ _) (.cells #[.bool false, .string U] 66)); have HS4 := Aside0.mk (HS1.below hb4'); have HREP := Aside0.mk (HS1.rep.apart (g := gp) (by rw [size_alloc]; exact hg1) hb4'); have HO4 := Aside0.mk ((hb4.block wr.heap.size (by omega)).trans (heap_alloc_new wr (.cells #[.bool false, .string U] 66))); have HRD := Aside0.mk hrd; have HG1 := Aside0.mk hg1; have HG2 := Aside0.mk hg2; have HG3 := Aside0.mk hg3; have HS4s := Aside0.mk hb4.size; clear HS1 hrd hg1 hg2 hg3 hb4 hb4' HO) | (go_at_call 28; refine (feed_calls (fedAll T a0 a1).1 w4 b w.heap.size (fun k => b < k ∧ k ≠ gp) HREP.out (fed_wf T a0 a1 (by omega) s1) (by omega) (fun k hk => ⟨by have := HS4.out.lts; omega, by have := HG2.out; omega⟩) (by have := HS4.out.lts; omega) _ _ _ (numsOf U) HRD.out HG3.out (fun ad had => by injection had with had; subst had; exact ⟨by have := HG1.out; have := HLT.out; show gp ≠ _; omega, HG2.out, fun q => q.2 rfl⟩) (numsOf_range U) (by have := fed_taken T a0 a1 (by omega) s1; rw [numsOf_len]; omega) (fed_taken T a0 a1 (by omega) s1).1).mono ?_; rintro e w5 ⟨vf, rfl, hOut, hRep5, hF5⟩; rw [HX.out] at hOut; rw [← HF1.out] at hRep5; obtain ⟨A5, c5, rfl, hc5, _⟩ := Kd.R_reads hOut; have hoc := o_kept hF5 HO4.out (by have := HLT.out; omega); have o1 := cell3 hoc 1; have HS5 := Aside0.mk (HS4.out.frame hF5 hRep5); have HOUT := Aside0.mk (Kd.R_lower hOut (by have := HS4.out.bel.size; omega : w.heap.size ≤ w4.heap.size)); clear hOut hRep5 hF5 hoc) | (go_at_call 20; refine (depotref03_Read.calls Kr2 (T ++ U) a0 a1 _ _ _ _ w5 HKr2.out).mono ?_; rintro e w6 ⟨v6, rfl, hR6, hB6⟩; obtain ⟨A6, c6, rfl, hc6, _⟩ := Kd.R_reads hR6; have HS6 := Aside0.mk (HS5.out.below hB6); have HO6 := Aside0.mk (Kd.R_below HOUT.out hB6); have HR6 := Aside0.mk (Kd.R_lower hR6 (by have := HS5.out.bel.size; omega : w.heap.size ≤ w5.heap.size)); obtain ⟨v7, hv7, _⟩ := HS6.out.gc; have z0 := cell3 hv7 0; have z1 := cell3 hv7 1; have z2 := cell3 hv7 2; have z3 := cell3 hv7 3; have y0 := fro3 hv7 0; have y1 := fro3 hv7 1; have y2 := fro3 hv7 2; have y3 := fro3 hv7 3; have HV7 := Aside0.mk hv7; clear o1 hR6 hB6 hv7) | (go_at_call 22; have HS7 := Aside0.mk (HS6.out.all HR6.out (c' := (fedAll (T ++ U) a0 a1).1.code) (a' := (fedAll (T ++ U) a0 a1).1.place) (t' := (fedAll (T ++ U) a0 a1).1.taken)); refine (depotlaw03_same.calls Ks A5 c5 X A6 c6 L _ true _ (Kd.R_reads' (items_all HO6.out HV7.out)).2.2 hc5 (Kd.R_reads' (docs_all HR6.out HV7.out)).2.2 hc6 HKs.out).mono ?_; rintro e w8 ⟨rfl, hb8⟩; have HS8 := Aside0.mk (HS7.out.below hb8); obtain ⟨v8, hv8, hR8⟩ := HS8.out.gc; obtain ⟨A8, c8, rfl, _, _⟩ := Kd.R_reads hR8; clear z0 z1 z2 z3 y0 y1 y2 y3 hb8 hR8; have z0 := cell3 hv8 0; have HV8 := Aside0.mk hv8; clear hv8) | (go_at_call 31; obtain ⟨vt, hAt, _⟩ := HS8.out.rep; refine (fault_calls ((fedAll (T ++ U) a0 a1).1.rd vt) w8 b hAt).mono ?_; rintro e w9 ⟨rfl, hb9⟩; have HS9 := Aside0.mk (HS8.out.below hb9); clear z0 hAt hb9))
          have HS10 := HS9.out.below (below_alloc (Below.refl _ _) (.cells #[.int .i64 (fedAll (T ++ U) a0 a1).1.code, .int .i64 (fedAll (T ++ U) a0 a1).1.place] 31))
          have hq10 : (w9.alloc (.cells #[.int .i64 (fedAll (T ++ U) a0 a1).1.code, .int .i64 (fedAll (T ++ U) a0 a1).1.place] 31)).heap[w9.heap.size]? = some (.cells #[.int .i64 (fedAll (T ++ U) a0 a1).1.code, .int .i64 (fedAll (T ++ U) a0 a1).1.place] 31 (0, 0)) := heap_alloc_new w9 _
          change Code.wp _ _ _ _ (w9.alloc (.cells #[.int .i64 (fedAll (T ++ U) a0 a1).1.code, .int .i64 (fedAll (T ++ U) a0 a1).1.place] 31))
          generalize w9.alloc (.cells #[.int .i64 (fedAll (T ++ U) a0 a1).1.code, .int .i64 (fedAll (T ++ U) a0 a1).1.place] 31) = w10 at HS10 hq10 ⊢
          refine wp_region_still_lit (by kernel_rfl) (by kernel_rfl) ?_
          change wpStill _ _ (World.drew w10) _ _ _
          have HS11 := HS10.below (below_drew (Below.refl _ _))
          have hq11 : w10.drew.heap[w9.heap.size]? = some (.cells #[.int .i64 (fedAll (T ++ U) a0 a1).1.code, .int .i64 (fedAll (T ++ U) a0 a1).1.place] 31 (0, 0)) := hq10
          clear HS10 hq10
          obtain ⟨w11, hw11⟩ : ∃ w11, World.drew w10 = w11 := ⟨_, rfl⟩
          rw [hw11] at HS11 hq11 ⊢
          have HW11 := Aside0.mk hw11
          have HS11 := Aside0.mk HS11
          clear hw11
          obtain ⟨v11, hv11, _⟩ := HS11.out.gc
          obtain ⟨vu, hAu, _⟩ := HS11.out.rep
          have g1 := cell3 hv11 1
          have g2 := cell3 hv11 2
          have g3 := cell3 hv11 3
          have q0 := cell3 hq11 0
          have q1 := cell3 hq11 1
          have HQ11 := Aside0.mk hq11
          have HV11 := Aside0.mk hv11
          have HA11 := Aside0.mk hAu
          clear hq11 hv11 hAu
          repeat still_step
          still_call (show Calls Try.prog 32 #[.pointer (some ⟨b, 0, none⟩)] w11 fun e w' => e = .returned (.int .i64 (fedAll (T ++ U) a0 a1).1.taken) ∧ w' = w11 from taken_calls ((fedAll (T ++ U) a0 a1).1.rd vu) w11 b HA11.out)
          repeat still_step
          refine wpStill_nil ?_
          go_wp2
          go_roundg g
          case measure => omega
          case rel => exact ⟨i + 1, T ++ U, false, by omega, rfl, by rw [HLn.out], rfl, by go_num, by rw [ByteArray.size_append]; omega, ⟨by rw [HW11.out]; have := HS11.out; rw [← HL.out] at this; exact this⟩⟩
        | true =>
          have HLT := Aside0.mk HS.out.lts
          obtain ⟨P, hP⟩ : ∃ P, close (fedAll T a0 a1).1 = P := ⟨_, rfl⟩
          have HPS := Aside0.mk (show P.stopped = true by rw [← hP]; exact close_stopped _)
          have HPF := Aside0.mk (show feed P (numsOf U) = (P, []) by rw [← hP]; exact feed_shut _ _)
          have HPT := Aside0.mk (show 0 ≤ P.taken ∧ P.taken ≤ (T.size : Int) by rw [← hP, close_taken]; exact fed_taken T a0 a1 (by omega) s1)
          have HP := Aside0.mk hP
          obtain ⟨L, hL⟩ : ∃ L, (fedAll T a0 a1).2.map to78 = L := ⟨_, rfl⟩
          have hLn : L.length = (fedAll T a0 a1).2.length := by rw [← hL, List.length_map]
          replace HS : Aside0 (St w wr b gb P L P.code P.place P.taken) := ⟨by have := HS.out; rw [hL, show plSt T a0 a1 true = close (fedAll T a0 a1).1 from rfl, hP] at this; exact this⟩
          obtain ⟨Ks, hKs⟩ := same_ev [] L (by have := fed_items T a0 a1 s1; rw [hLn]; simp only [List.length_nil]; omega)
          have hKs := hKs Ks (Nat.le_refl _)
          rw [List.map_nil, List.append_nil, hLn] at hKs
          have HKs := Aside0.mk hKs
          have HL := Aside0.mk hL
          have HLn := Aside0.mk hLn
          clear hKs hL hLn hP
          go_wp2_with (first | ((with_reducible refine gate_dst (N := 63) rfl ?_); refine T_conv (w0 := wr.alloc (.cells #[.bool false, .string U] 66)) (wr.heap.size + 1) 5 rfl (N := 63) rfl 9 48 _ rfl U rfl Try.underlying9 Try.underlying48 Try.underlying5 (by simp only [maxLen]; omega) (Below.refl _ _) (by rw [size_alloc]; exact Nat.le_refl _) ?_; intro vc w4 HO hb4; obtain ⟨gp, cp, rfl, hg1, hg2, hg3, hrd⟩ := OwnT.slice HO; have hb4' : Below (wr.alloc (.cells #[.bool false, .string U] 66)).heap.size (wr.alloc (.cells #[.bool false, .string U] 66)) w4 := (by rw [size_alloc]; exact hb4); have HS1 := HS.out.below (below_alloc (Below.refl _ _) (.cells #[.bool false, .string U] 66)); have HS4 := Aside0.mk (HS1.below hb4'); have HREP := Aside0.mk (HS1.rep.apart (g := gp) (by rw [size_alloc]; exact hg1) hb4'); have HO4 := Aside0.mk ((hb4.block wr.heap.size (by omega)).trans (heap_alloc_new wr (.cells #[.bool false, .string U] 66))); have HRD := Aside0.mk hrd; have HG1 := Aside0.mk hg1; have HG2 := Aside0.mk hg2; have HG3 := Aside0.mk hg3; have HS4s := Aside0.mk hb4.size; clear HS1 hrd hg1 hg2 hg3 hb4 hb4' HO) | (go_at_call 28; refine (feed_calls P w4 b w.heap.size (fun k => b < k ∧ k ≠ gp) HREP.out (.inl HPS.out) (by omega) (fun k hk => ⟨by have := HS4.out.lts; omega, by have := HG2.out; omega⟩) (by have := HS4.out.lts; omega) _ _ _ (numsOf U) HRD.out HG3.out (fun ad had => by injection had with had; subst had; exact ⟨by have := HG1.out; have := HLT.out; show gp ≠ _; omega, HG2.out, fun q => q.2 rfl⟩) (numsOf_range U) (by have := HPT.out; rw [numsOf_len]; omega) HPT.out.1).mono ?_; rintro e w5 ⟨vf, rfl, hOut, hRep5, hF5⟩; rw [HPF.out] at hOut hRep5; obtain ⟨A5, c5, rfl, hc5, _⟩ := Kd.R_reads hOut; have hoc := o_kept hF5 HO4.out (by have := HLT.out; omega); have HS5 := Aside0.mk (HS4.out.frame hF5 hRep5); have HOUT := Aside0.mk (Kd.R_lower hOut (by have := HS4.out.bel.size; omega : w.heap.size ≤ w4.heap.size)); obtain ⟨v7, hv7, hR7⟩ := HS5.out.gc; obtain ⟨A6, c6, rfl, hc6, _⟩ := Kd.R_reads hR7; have z0 := cell3 hv7 0; have HR7 := Aside0.mk hR7; have HV7 := Aside0.mk hv7; clear hOut hRep5 hF5 hoc hR7 hv7) | (go_at_call 22; refine (depotlaw03_same.calls Ks A5 c5 [] A6 c6 L _ true w5 (Kd.R_reads' HOUT.out).2.2 hc5 (Kd.R_reads' HR7.out).2.2 hc6 HKs.out).mono ?_; rintro e w8 ⟨rfl, hb8⟩; have HS8 := Aside0.mk (HS5.out.below hb8); obtain ⟨v8, hv8, hR8⟩ := HS8.out.gc; obtain ⟨A8, c8, rfl, _, _⟩ := Kd.R_reads hR8; clear z0 hb8 hR8; have z0 := cell3 hv8 0; have HV8 := Aside0.mk hv8; clear hv8) | (go_at_call 31; obtain ⟨vt, hAt, _⟩ := HS8.out.rep; refine (fault_calls (P.rd vt) w8 b hAt).mono ?_; rintro e w9 ⟨rfl, hb9⟩; have HS9 := Aside0.mk (HS8.out.below hb9); clear z0 hAt hb9))
          have HS10 := HS9.out.below (below_alloc (Below.refl _ _) (.cells #[.int .i64 P.code, .int .i64 P.place] 31))
          have hq10 : (w9.alloc (.cells #[.int .i64 P.code, .int .i64 P.place] 31)).heap[w9.heap.size]? = some (.cells #[.int .i64 P.code, .int .i64 P.place] 31 (0, 0)) := heap_alloc_new w9 _
          change Code.wp _ _ _ _ (w9.alloc (.cells #[.int .i64 P.code, .int .i64 P.place] 31))
          generalize w9.alloc (.cells #[.int .i64 P.code, .int .i64 P.place] 31) = w10 at HS10 hq10 ⊢
          refine wp_region_still_lit (by kernel_rfl) (by kernel_rfl) ?_
          change wpStill _ _ (World.drew w10) _ _ _
          have HS11 := HS10.below (below_drew (Below.refl _ _))
          have hq11 : w10.drew.heap[w9.heap.size]? = some (.cells #[.int .i64 P.code, .int .i64 P.place] 31 (0, 0)) := hq10
          clear HS10 hq10
          obtain ⟨w11, hw11⟩ : ∃ w11, World.drew w10 = w11 := ⟨_, rfl⟩
          rw [hw11] at HS11 hq11 ⊢
          have HW11 := Aside0.mk hw11
          have HS11 := Aside0.mk HS11
          clear hw11
          obtain ⟨v11, hv11, _⟩ := HS11.out.gc
          obtain ⟨vu, hAu, _⟩ := HS11.out.rep
          have g1 := cell3 hv11 1
          have g2 := cell3 hv11 2
          have g3 := cell3 hv11 3
          have q0 := cell3 hq11 0
          have q1 := cell3 hq11 1
          have HQ11 := Aside0.mk hq11
          have HV11 := Aside0.mk hv11
          have HA11 := Aside0.mk hAu
          clear hq11 hv11 hAu
          repeat still_step
          still_call (show Calls Try.prog 32 #[.pointer (some ⟨b, 0, none⟩)] w11 fun e w' => e = .returned (.int .i64 P.taken) ∧ w' = w11 from taken_calls (P.rd vu) w11 b HA11.out)
          repeat still_step
          refine wpStill_nil ?_
          go_wp2
          go_roundg g
          case measure => omega
          case rel => exact ⟨i + 1, T, true, by omega, rfl, by rw [HLn.out], rfl, by go_num, by omega, ⟨by rw [HW11.out]; have := HS11.out; rw [← HL.out, ← HP.out] at this; exact this⟩⟩
      | true =>
        cases sh with
        | false =>
          have HLT := Aside0.mk HS.out.lts
          obtain ⟨P, hP⟩ : ∃ P, close (fedAll T a0 a1).1 = P := ⟨_, rfl⟩
          have HP := Aside0.mk hP
          have HPT := Aside0.mk (show (fedAll T a0 a1).1.taken = P.taken by rw [← hP, close_taken])
          obtain ⟨Kc, hKc⟩ := closed_fed T a0 a1 (by omega) (by omega) s1
          have hKc := hKc Kc (Nat.le_refl _)
          rw [hP] at hKc
          have HKc := Aside0.mk hKc
          obtain ⟨L, hL⟩ : ∃ L, (fedAll T a0 a1).2.map to78 = L := ⟨_, rfl⟩
          replace HS : Aside0 (St w wr b gb (fedAll T a0 a1).1 L (fedAll T a0 a1).1.code (fedAll T a0 a1).1.place P.taken) := ⟨by have := HS.out; rw [hL, show plSt T a0 a1 false = (fedAll T a0 a1).1 from rfl] at this; rw [← HPT.out]; exact this⟩
          have HL := Aside0.mk hL
          clear hL hP hKc
          have HS1 := Aside0.mk (HS.out.below (below_alloc (Below.refl _ _) (.cells #[.bool true, .string U] 66)))
          go_wp2_with (first | (go_at_call 29; refine (close_ps (fedAll T a0 a1).1 (wr.alloc (.cells #[.bool true, .string U] 66)) b w.heap.size (fun k => b < k) HS1.out.rep (by omega)).mono ?_; rintro e w4 ⟨rfl, hRep4, hF4⟩; rw [HP.out] at hRep4 ⊢; have HS4 := Aside0.mk (HS1.out.shutFrame hF4 (fun _ h => h) hRep4); have HL4 := Aside0.mk HS4.out.lts; have hne4 : (w4.heap.size = gb) = False := eq_false (by have := HL4.out; omega); have hne4' : (gb = w4.heap.size) = False := eq_false (by have := HL4.out; omega); have hlt4 : gb < w4.heap.size := HL4.out.2.1; have hlt4' : gb < w4.heap.size + 1 := (by have := HL4.out; omega); clear hRep4 hF4) | (go_at_call 21; refine (depotref03_Closed.calls Kc T a0 a1 P.code P.place (w4.alloc (.cells #[.int .i64 P.code, .int .i64 P.place] 31)) HKc.out).mono ?_; rintro e w6 ⟨rfl, hB6⟩; have HS6 := Aside0.mk ((HS4.out.below (below_alloc (Below.refl _ _) (.cells #[.int .i64 P.code, .int .i64 P.place] 31))).below hB6); have hq6 : w6.heap[w4.heap.size]? = some (.cells #[.int .i64 P.code, .int .i64 P.place] 31 (0, 0)) := (hB6.block _ (by rw [size_alloc]; exact Nat.lt_succ_self _)).trans (heap_alloc_new w4 _); obtain ⟨v6, hv6, hR6⟩ := HS6.out.gc; have q0 := cell3 hq6 0; have q1 := cell3 hq6 1; have z1 := cell3 hv6 1; have z2 := cell3 hv6 2; have y1 := fro3 hv6 1; have y2 := fro3 hv6 2; have HQ6 := Aside0.mk hq6; have HV6 := Aside0.mk hv6; have HR6 := Aside0.mk hR6; clear hq6 hv6 hR6 hB6 hlt4 hlt4') | (go_at_call 31; have HS8 := Aside0.mk (two_set HS6.out HV6.out HR6.out (c' := P.code) (a' := P.place)); obtain ⟨vt, hAt, _⟩ := HS8.out.rep; refine (fault_calls (P.rd vt) ((w6.setCell ⟨gb, 1, none⟩ (.int .i64 P.code)).setCell ⟨gb, 2, none⟩ (.int .i64 P.place)) b hAt).mono ?_; rintro e w9 ⟨rfl, hb9⟩; have HS9 := Aside0.mk (HS8.out.below hb9); clear q0 q1 z1 z2 y1 y2 hne4 hne4' hAt hb9))
          have HS10 := HS9.out.below (below_alloc (Below.refl _ _) (.cells #[.int .i64 P.code, .int .i64 P.place] 31))
          have hq10 : (w9.alloc (.cells #[.int .i64 P.code, .int .i64 P.place] 31)).heap[w9.heap.size]? = some (.cells #[.int .i64 P.code, .int .i64 P.place] 31 (0, 0)) := heap_alloc_new w9 _
          change Code.wp _ _ _ _ (w9.alloc (.cells #[.int .i64 P.code, .int .i64 P.place] 31))
          generalize w9.alloc (.cells #[.int .i64 P.code, .int .i64 P.place] 31) = w10 at HS10 hq10 ⊢
          refine wp_region_still_lit (by kernel_rfl) (by kernel_rfl) ?_
          change wpStill _ _ (World.drew w10) _ _ _
          have HS11 := HS10.below (below_drew (Below.refl _ _))
          have hq11 : w10.drew.heap[w9.heap.size]? = some (.cells #[.int .i64 P.code, .int .i64 P.place] 31 (0, 0)) := hq10
          clear HS10 hq10
          obtain ⟨w11, hw11⟩ : ∃ w11, World.drew w10 = w11 := ⟨_, rfl⟩
          rw [hw11] at HS11 hq11 ⊢
          have HW11 := Aside0.mk hw11
          have HS11 := Aside0.mk HS11
          clear hw11
          obtain ⟨v11, hv11, _⟩ := HS11.out.gc
          obtain ⟨vu, hAu, _⟩ := HS11.out.rep
          have g1 := cell3 hv11 1
          have g2 := cell3 hv11 2
          have g3 := cell3 hv11 3
          have q0 := cell3 hq11 0
          have q1 := cell3 hq11 1
          have HQ11 := Aside0.mk hq11
          have HV11 := Aside0.mk hv11
          have HA11 := Aside0.mk hAu
          clear hq11 hv11 hAu
          repeat still_step
          still_call (show Calls Try.prog 32 #[.pointer (some ⟨b, 0, none⟩)] w11 fun e w' => e = .returned (.int .i64 P.taken) ∧ w' = w11 from taken_calls (P.rd vu) w11 b HA11.out)
          repeat still_step
          refine wpStill_nil ?_
          go_wp2
          go_roundg g
          case measure => omega
          case rel => exact ⟨i + 1, T, true, by omega, rfl, rfl, rfl, by go_num, by omega, ⟨by rw [HW11.out]; have := HS11.out; rw [← HL.out, ← HP.out] at this; exact this⟩⟩
        | true =>
          have HLT := Aside0.mk HS.out.lts
          obtain ⟨P, hP⟩ : ∃ P, close (fedAll T a0 a1).1 = P := ⟨_, rfl⟩
          have HPC := Aside0.mk (show close P = P by rw [← hP]; exact close_close _)
          have HP := Aside0.mk hP
          obtain ⟨L, hL⟩ : ∃ L, (fedAll T a0 a1).2.map to78 = L := ⟨_, rfl⟩
          replace HS : Aside0 (St w wr b gb P L P.code P.place P.taken) := ⟨by have := HS.out; rw [hL, show plSt T a0 a1 true = close (fedAll T a0 a1).1 from rfl, hP] at this; exact this⟩
          have HL := Aside0.mk hL
          clear hL hP
          have HS1 := Aside0.mk (HS.out.below (below_alloc (Below.refl _ _) (.cells #[.bool true, .string U] 66)))
          go_wp2_with (first | (go_at_call 29; refine (close_ps P (wr.alloc (.cells #[.bool true, .string U] 66)) b w.heap.size (fun k => b < k) HS1.out.rep (by omega)).mono ?_; rintro e w4 ⟨rfl, hRep4, hF4⟩; rw [HPC.out] at hRep4 ⊢; have HS4 := Aside0.mk (HS1.out.shutFrame hF4 (fun _ h => h) hRep4); obtain ⟨v4, hv4, _⟩ := HS4.out.gc; have z1 := cell3 hv4 1; have z2 := cell3 hv4 2; have HL4 := Aside0.mk HS4.out.lts; have hne4 : (w4.heap.size = gb) = False := eq_false (by have := HL4.out; omega); have hne4' : (gb = w4.heap.size) = False := eq_false (by have := HL4.out; omega); have hlt4 : gb < w4.heap.size := HL4.out.2.1; have hlt4' : gb < w4.heap.size + 1 := (by have := HL4.out; omega); clear hRep4 hF4 hv4) | (go_at_call 31; have HS8 := Aside0.mk (HS4.out.below (below_alloc (Below.refl _ _) (.cells #[.int .i64 P.code, .int .i64 P.place] 31))); obtain ⟨vt, hAt, _⟩ := HS8.out.rep; refine (fault_calls (P.rd vt) (w4.alloc (.cells #[.int .i64 P.code, .int .i64 P.place] 31)) b hAt).mono ?_; rintro e w9 ⟨rfl, hb9⟩; have HS9 := Aside0.mk (HS8.out.below hb9); clear z1 z2 hne4 hne4' hlt4 hlt4' hAt hb9))
          have HS10 := HS9.out.below (below_alloc (Below.refl _ _) (.cells #[.int .i64 P.code, .int .i64 P.place] 31))
          have hq10 : (w9.alloc (.cells #[.int .i64 P.code, .int .i64 P.place] 31)).heap[w9.heap.size]? = some (.cells #[.int .i64 P.code, .int .i64 P.place] 31 (0, 0)) := heap_alloc_new w9 _
          change Code.wp _ _ _ _ (w9.alloc (.cells #[.int .i64 P.code, .int .i64 P.place] 31))
          generalize w9.alloc (.cells #[.int .i64 P.code, .int .i64 P.place] 31) = w10 at HS10 hq10 ⊢
          refine wp_region_still_lit (by kernel_rfl) (by kernel_rfl) ?_
          change wpStill _ _ (World.drew w10) _ _ _
          have HS11 := HS10.below (below_drew (Below.refl _ _))
          have hq11 : w10.drew.heap[w9.heap.size]? = some (.cells #[.int .i64 P.code, .int .i64 P.place] 31 (0, 0)) := hq10
          clear HS10 hq10
          obtain ⟨w11, hw11⟩ : ∃ w11, World.drew w10 = w11 := ⟨_, rfl⟩
          rw [hw11] at HS11 hq11 ⊢
          have HW11 := Aside0.mk hw11
          have HS11 := Aside0.mk HS11
          clear hw11
          obtain ⟨v11, hv11, _⟩ := HS11.out.gc
          obtain ⟨vu, hAu, _⟩ := HS11.out.rep
          have g1 := cell3 hv11 1
          have g2 := cell3 hv11 2
          have g3 := cell3 hv11 3
          have q0 := cell3 hq11 0
          have q1 := cell3 hq11 1
          have HQ11 := Aside0.mk hq11
          have HV11 := Aside0.mk hv11
          have HA11 := Aside0.mk hAu
          clear hq11 hv11 hAu
          repeat still_step
          still_call (show Calls Try.prog 32 #[.pointer (some ⟨b, 0, none⟩)] w11 fun e w' => e = .returned (.int .i64 P.taken) ∧ w' = w11 from taken_calls (P.rd vu) w11 b HA11.out)
          repeat still_step
          refine wpStill_nil ?_
          go_wp2
          go_roundg g
          case measure => omega
          case rel => exact ⟨i + 1, T, true, by omega, rfl, rfl, rfl, by go_num, by omega, ⟨by rw [HW11.out]; have := HS11.out; rw [← HL.out, ← HP.out] at this; exact this⟩⟩
end Go.Proofs.Ytnilogameaaooaa.Q
/- depotlaw03.WirePlays answers true for every plan, longest text and calls in any order, all in 2^20 values and letters. -/
set_option linter.unusedVariables false
set_option linter.unusedSimpArgs false
namespace Go.Proofs.Ytnilogameaaooaa.Pure
open Go.RowKit Go.Proofs.Ytnilogameaaooaa.Q Go.Proofs.YtnilogameaaooaaW.PrintWords Go.Proofs.YtnilogameaaooaaW.PrintLast Go.Proofs.YtnilogameaaooaaW.PrintMore Go.Proofs.Ytnilogameaaooaa.Bytes

theorem ops_sum : ∀ (l : List S66), sumT l + 4 * l.length ≤ (l.map (fun y7 => ((1 + (((y7).f1).size + 1)) + 1))).sum + l.length
  | [] => by simp [sumT]
  | x :: l => by
    have ih := ops_sum l
    unfold sumT at ih ⊢
    rw [List.map_cons, List.sum_cons, List.map_cons, List.sum_cons, List.length_cons]
    omega
theorem WirePlays : ∀ (x0 : ByteArray) (x1 : Int) (x2 : List (S66)), x0.size ≤ 140737488351232 → (Lit.int .i64 x1).wf = true → (∀ n ∈ (((x2).length * Try.prog.bytesOf 66) :: (x2).flatMap (fun y7 => (([] : List Nat) ++ [((y7).f1).size]))), n ≤ 140737488351232) → ((x2).length ≤ maxLen ∧ ∀ y7 ∈ x2, (True ∧ ((y7).f1).size ≤ maxLen)) → ((x0).size + 1) + 1 + (((x2).map (fun y7 => ((1 + (((y7).f1).size + 1)) + 1))).sum + 1) ≤ 1048576 → depotlaw03_WirePlays.f (x0) (x1) (x2) = some true := by
  intro x0 x1 x2 _ h1 _ _ hk
  have hm := (bounds_i64 h1).2
  have := ops_sum x2
  exact if_pos ⟨by omega, by omega, by omega, by omega⟩
end Go.Proofs.Ytnilogameaaooaa.Pure
/- What came in, opened by its kind: a reading of a value ys data gives the Lean value of the print's kinds, with its sizes. For rows over slices and structs. -/
set_option linter.unusedVariables false
set_option linter.unusedSimpArgs false
namespace Go.Proofs.Ytnilogameaaooaa.Opens
open Go.RowKit Go.Deep Go.Proofs.YtnilogameaaooaaW.PrintWords

section
variable {α β : Type}
/-- A reading at type t gives a value of kind d: its cells (K), its weights (each no more than one of the datum's, or 0), its bulk, and what is good about its numbers. -/
structure Opens (P : Program) (t : TypeId) (d : Kd α) (Wt : α → List Nat) (Bk : α → Nat) (Gd : α → Prop) : Prop where
  sz : P.cellsOf t = d.sz
  out : ∀ {H : Type} {enc : TypeId × Value → H} {w : World} {base : Nat} {spare : Nat → Bool} {held : Bool} {fuel : Nat} {cs : List Value} {x : DataW H × List MemPlace},
    DataW.trod enc P w base spare held fuel t cs = some x → ∃ a, d.K w a cs ∧ (∀ n ∈ Wt a, n = 0 ∨ ∃ m ∈ x.1.weights P t, n ≤ m) ∧ Bk a ≤ Rows.uptoBulk x.1 ∧ Gd a

variable {P : Program} {t : TypeId}
theorem opens_string (ht : P.underlying t = some .string) (hs : P.cellsOf t = 1) : Opens P t Kd.string (fun s => [s.size]) (fun s => s.size + 1) (fun s => s.size ≤ maxLen) := by
  refine ⟨hs, fun {H enc w base spare held fuel cs x} h => ?_⟩
  obtain ⟨s, rfl, rfl, hw⟩ := DataW.trod_string ht h
  refine ⟨s, rfl, ?_, ?_, hw⟩
  · intro n hn
    rw [List.mem_singleton] at hn
    refine .inr ⟨s.data.toList.length, by rw [DataW.weights]; exact List.mem_singleton.2 rfl, ?_⟩
    rw [hn, Array.length_toList]
    exact Nat.le_refl _
  · rw [Rows.uptoBulk, Array.length_toList]
    exact Nat.le_refl _
theorem opens_bool (ht : P.underlying t = some .bool) (hs : P.cellsOf t = 1) : Opens P t Kd.bool (fun _ => []) (fun _ => 1) (fun _ => True) := by
  refine ⟨hs, fun {H enc w base spare held fuel cs x} h => ?_⟩
  obtain ⟨b, rfl, rfl⟩ := DataW.trod_bool ht h
  exact ⟨b, rfl, fun _ h => absurd h (by simp), by rw [Rows.uptoBulk] <;> simp, trivial⟩
theorem opens_int {k : IntKind} (ht : P.underlying t = some (.int k)) (hs : P.cellsOf t = 1) : Opens P t (Kd.int k) (fun _ => []) (fun _ => 1) (fun n => (Lit.int k n).wf = true) := by
  refine ⟨hs, fun {H enc w base spare held fuel cs x} h => ?_⟩
  obtain ⟨n, rfl, rfl, hw⟩ := DataW.trod_int ht h
  exact ⟨n, rfl, fun _ h => absurd h (by simp), by rw [Rows.uptoBulk] <;> simp, hw⟩

theorem list_of {Q : Nat → α → Prop} : ∀ (n : Nat), (∀ i, i < n → ∃ a, Q i a) → ∃ ys : List α, ys.length = n ∧ ∀ i a, ys[i]? = some a → Q i a
  | 0, _ => ⟨[], rfl, fun i a h => by simp at h⟩
  | n + 1, h => by
    obtain ⟨ys, hl, hq⟩ := list_of n (fun i hi => h i (by omega))
    obtain ⟨a, ha⟩ := h n (by omega)
    refine ⟨ys ++ [a], by simp [hl], fun i b hb => ?_⟩
    rcases Nat.lt_or_ge i n with hi | hi
    · rw [List.getElem?_append_left (by omega)] at hb
      exact hq i b hb
    · have : i < (ys ++ [a]).length := (List.getElem?_eq_some_iff.1 hb).1
      simp [hl] at this
      have e : i = n := by omega
      subst e
      rw [List.getElem?_append_right (by omega), hl, Nat.sub_self] at hb
      simp at hb
      subst hb
      exact ha
theorem sum_le_range (ys : List α) (Bk : α → Nat) (b : Nat → Nat) (h : ∀ i a, ys[i]? = some a → Bk a ≤ b i) : (ys.map Bk).sum ≤ ((List.range ys.length).map b).sum := by
  induction ys generalizing b with
  | nil => simp
  | cons a ys ih =>
    have h0 := h 0 a rfl
    have h1 := ih (fun i => b (i + 1)) (fun i a ha => h (i + 1) a (by simpa using ha))
    rw [List.length_cons, List.range_succ_eq_map, List.map_cons, List.sum_cons, List.map_cons, List.sum_cons, List.map_map]
    have e : (List.map (b ∘ Nat.succ) (List.range ys.length)) = List.map (fun i => b (i + 1)) (List.range ys.length) := rfl
    rw [e]
    omega
theorem bulkAll_sum {H : Type} (l : List (DataW H)) : Rows.uptoBulkAll l = (l.map Rows.uptoBulk).sum := by
  induction l with
  | nil => rfl
  | cons d l ih => rw [Rows.uptoBulkAll, ih, List.map_cons, List.sum_cons]
theorem weightsAll_mem {H : Type} {e : TypeId} : ∀ (l : List (DataW H)) (d : DataW H), d ∈ l → ∀ m ∈ d.weights P e, m ∈ DataW.weightsAll P e l
  | [], d, h => absurd h (by simp)
  | d' :: l, d, h => by
    intro m hm
    rw [DataW.weightsAll, List.mem_append]
    rcases List.mem_cons.1 h with rfl | h
    · exact .inl hm
    · exact .inr (weightsAll_mem l d h m hm)

theorem opens_slice {e : TypeId} {d : Kd α} {Wt : α → List Nat} {Bk : α → Nat} {Gd : α → Prop} (ht : P.underlying t = some (.slice e)) (hs : P.cellsOf t = 1) (he : Opens P e d Wt Bk Gd) :
    Opens P t (Kd.slice e d) (fun xs => (xs.length * P.bytesOf e) :: xs.flatMap Wt) (fun xs => (xs.map Bk).sum + 1) (fun xs => xs.length ≤ maxLen ∧ ∀ x ∈ xs, Gd x) := by
  refine ⟨hs, fun {H enc w base spare held fuel cs x} h => ?_⟩
  rcases open_slice ht h with ⟨rfl, rfl⟩ | ⟨a, len, cap, m, n, D, Pl, rfl, hb, hl, hm, hmm, rfl, hx⟩
  · exact ⟨[], ⟨none, 0, rfl, Nat.le_refl _, Kd.C_nil d w⟩, fun n hn => .inl (by simpa using hn), by rw [Rows.uptoBulk]; simp, by simp, by simp⟩
  · have hlm : len ≤ m := by rw [hmm]; split <;> omega
    have each : ∀ i, i < len → ∃ b : α, (∃ cs', w.cells? base (a.add (i * P.cellsOf e)) (P.cellsOf e) = some cs' ∧ d.K w b cs') ∧ (∀ q ∈ Wt b, q = 0 ∨ ∃ r ∈ (D i).weights P e, q ≤ r) ∧ Bk b ≤ Rows.uptoBulk (D i) ∧ Gd b := by
      intro i hi
      obtain ⟨cs', h1, h2⟩ := hx i (by omega)
      obtain ⟨b, hK, hw, hk, hg⟩ := he.out h2
      exact ⟨b, ⟨cs', h1, hK⟩, hw, hk, hg⟩
    obtain ⟨ys, hal, has⟩ := list_of len each
    subst hal
    refine ⟨ys, ⟨some a, cap, rfl, hl, rfl, by unfold maxLen at hm; omega, fun hp => ⟨a, rfl, fun j p hj => ?_⟩⟩, ?_, ?_, by omega, ?_⟩
    · obtain ⟨⟨cs', h1, hK⟩, _⟩ := has j p hj
      refine ⟨cs', d.K_len hK, hK, fun i u hu => ?_⟩
      have hc := World.cells?_some h1
      rw [he.sz] at hc
      obtain ⟨hc0, hc1, hc2⟩ := hc
      have hi : i < d.sz := by rw [← d.K_len hK]; exact (List.getElem?_eq_some_iff.1 hu).1
      have := hc2 i (by omega)
      rw [hu] at this
      rw [Go.Deep.add_add] at this
      exact this
    · intro q hq
      rw [List.mem_cons, List.mem_flatMap] at hq
      have hwt : (DataW.slice ((List.range ys.length).map D) ((List.range (m - ys.length)).map fun j => D (ys.length + j)) : DataW H).weights P t = (((List.range ys.length).map D).length + ((List.range (m - ys.length)).map fun j => D (ys.length + j)).length) * P.bytesOf e :: (DataW.weightsAll P e ((List.range ys.length).map D) ++ DataW.weightsAll P e ((List.range (m - ys.length)).map fun j => D (ys.length + j))) := by
        rw [DataW.weights, ht]
      show q = 0 ∨ ∃ r ∈ (DataW.slice ((List.range ys.length).map D) ((List.range (m - ys.length)).map fun j => D (ys.length + j)) : DataW H).weights P t, q ≤ r
      rw [hwt]
      rcases hq with rfl | ⟨b, hbm, hq⟩
      · refine .inr ⟨_, List.mem_cons_self, ?_⟩
        refine Nat.mul_le_mul_right _ ?_
        simp
      · obtain ⟨i, hi⟩ := List.getElem?_of_mem hbm
        have hil : i < ys.length := (List.getElem?_eq_some_iff.1 hi).1
        obtain ⟨_, hw, _⟩ := has i b hi
        rcases hw q hq with h0 | ⟨r, hr, hqr⟩
        · exact .inl h0
        · exact .inr ⟨r, List.mem_cons_of_mem _ (List.mem_append_left _ (weightsAll_mem _ (D i) (List.mem_map.2 ⟨i, List.mem_range.2 hil, rfl⟩) r hr)), hqr⟩
    · show _ ≤ Rows.uptoBulk (DataW.slice ((List.range ys.length).map D) ((List.range (m - ys.length)).map fun j => D (ys.length + j)) : DataW H)
      rw [Rows.uptoBulk, bulkAll_sum, List.map_map]
      have := sum_le_range ys Bk (fun i => Rows.uptoBulk (D i)) (fun i b hb => (has i b hb).2.2.1)
      have e2 : (List.map (Rows.uptoBulk ∘ D) (List.range ys.length)) = List.map (fun i => Rows.uptoBulk (D i)) (List.range ys.length) := rfl
      rw [e2]
      omega
    · intro b hbm
      obtain ⟨i, hi⟩ := List.getElem?_of_mem hbm
      exact (has i b hi).2.2.2

/-- Fields, from a place on. -/
structure OpensF (P : Program) (fs : List Field) (off : Nat) (d : Kd α) (Wt : α → List Nat) (Bk : α → Nat) (Gd : α → Prop) : Prop where
  out : ∀ {H : Type} {enc : TypeId × Value → H} {w : World} {base : Nat} {spare : Nat → Bool} {held : Bool} {fuel : Nat} {cs : List Value} {xs : List (DataW H × List MemPlace)},
    cs.length = off + d.sz → xs.length = fs.length → (∀ (i : Nat) (f : Field), fs[i]? = some f → DataW.trod enc P w base spare held fuel f.type ((cs.drop f.offset).take (P.cellsOf f.type)) = xs[i]?) →
    ∃ a, d.K w a (cs.drop off) ∧ (∀ n ∈ Wt a, n = 0 ∨ ∃ m ∈ DataW.weightsEach P (fs.map (·.type)) (xs.map (·.1)), n ≤ m) ∧ Bk a ≤ Rows.uptoBulkAll (xs.map (·.1)) ∧ Gd a
theorem opensF_one {f : Field} {off : Nat} {d : Kd α} {Wt : α → List Nat} {Bk : α → Nat} {Gd : α → Prop} (ho : f.offset = off) (he : Opens P f.type d Wt Bk Gd) : OpensF P [f] off d Wt Bk Gd := by
  refine ⟨fun {H enc w base spare held fuel cs xs} hc hl h => ?_⟩
  match xs, hl with
  | [x], _ =>
    have h0 := h 0 f rfl
    rw [ho, he.sz, List.take_of_length_le (by rw [List.length_drop]; omega)] at h0
    obtain ⟨a, hK, hw, hb, hg⟩ := he.out h0
    refine ⟨a, hK, fun n hn => ?_, ?_, hg⟩
    · rcases hw n hn with h | ⟨m, hm, hle⟩
      · exact .inl h
      · refine .inr ⟨m, ?_, hle⟩
        simp only [List.map_cons, List.map_nil, DataW.weightsEach, List.append_nil]
        exact hm
    · simp only [List.map_cons, List.map_nil, Rows.uptoBulkAll]
      omega
theorem opensF_cons {f : Field} {fs : List Field} {off : Nat} {d : Kd α} {d' : Kd β} {Wt : α → List Nat} {Bk : α → Nat} {Gd : α → Prop} {Wt' : β → List Nat} {Bk' : β → Nat} {Gd' : β → Prop}
    (ho : f.offset = off) (he : Opens P f.type d Wt Bk Gd) (hr : OpensF P fs (off + d.sz) d' Wt' Bk' Gd') :
    OpensF P (f :: fs) off (Kd.pair d d') (fun x => Wt x.1 ++ Wt' x.2) (fun x => Bk x.1 + Bk' x.2) (fun x => Gd x.1 ∧ Gd' x.2) := by
  refine ⟨fun {H enc w base spare held fuel cs xs} hc hl h => ?_⟩
  have hsz : (Kd.pair d d').sz = d.sz + d'.sz := rfl
  rw [hsz] at hc
  match xs, hl with
  | x :: xs, hl =>
    have h0 := h 0 f rfl
    rw [ho, he.sz] at h0
    obtain ⟨a, hK, hw, hb, hg⟩ := he.out h0
    obtain ⟨b, hK', hw', hb', hg'⟩ := hr.out (enc := enc) (w := w) (base := base) (spare := spare) (held := held) (fuel := fuel) (cs := cs) (xs := xs) (by omega) (by simpa using hl) (fun i f' hf => by simpa using h (i + 1) f' (by simpa using hf))
    refine ⟨(a, b), ⟨(cs.drop off).take d.sz, cs.drop (off + d.sz), ?_, hK, hK'⟩, fun n hn => ?_, ?_, hg, hg'⟩
    · rw [← List.drop_drop, List.take_append_drop]
    · simp only [List.map_cons, DataW.weightsEach, List.mem_append]
      rcases List.mem_append.1 hn with hn | hn
      · rcases hw n hn with h | ⟨m, hm, hle⟩
        · exact .inl h
        · exact .inr ⟨m, .inl hm, hle⟩
      · rcases hw' n hn with h | ⟨m, hm, hle⟩
        · exact .inl h
        · exact .inr ⟨m, .inr hm, hle⟩
    · simp only [List.map_cons, Rows.uptoBulkAll]
      omega
theorem opens_struct {fs : Array Field} {d : Kd α} {Wt : α → List Nat} {Bk : α → Nat} {Gd : α → Prop} (ht : P.underlying t = some (.struct fs)) (hs : P.cellsOf t = d.sz) (he : OpensF P fs.toList 0 d Wt Bk Gd) :
    Opens P t d Wt (fun a => Bk a + 1) Gd := by
  refine ⟨hs, fun {H enc w base spare held fuel cs x} h => ?_⟩
  obtain ⟨xs, n, rfl, rfl, hl, hl2, hx⟩ := DataW.trod_struct ht h
  obtain ⟨a, hK, hw, hb, hg⟩ := he.out (enc := enc) (w := w) (base := base) (spare := spare) (held := held) (fuel := n) (cs := cs) (xs := xs) (by omega) (by simpa using hl2) (fun i f hf => hx i f (by simpa using hf))
  refine ⟨a, by simpa using hK, fun n hn => ?_, ?_, hg⟩
  · rcases hw n hn with h | ⟨m, hm, hle⟩
    · exact .inl h
    · refine .inr ⟨m, ?_, hle⟩
      show m ∈ (DataW.agg (xs.map (·.1))).weights P t
      rw [DataW.weights, ht]
      exact hm
  · show _ ≤ Rows.uptoBulk (DataW.agg (xs.map (·.1)))
    rw [Rows.uptoBulk]
    omega
theorem opens_iso {d : Kd α} {Wt : α → List Nat} {Bk : α → Nat} {Gd : α → Prop} (f : β → α) (g : α → β) (hfg : ∀ a, f (g a) = a) (h : Opens P t d Wt Bk Gd) : Opens P t (Kd.iso d f) (fun b => Wt (f b)) (fun b => Bk (f b)) (fun b => Gd (f b)) := by
  refine ⟨h.sz, fun {H enc w base spare held fuel cs x} hx => ?_⟩
  obtain ⟨a, hK, hw, hb, hg⟩ := h.out hx
  refine ⟨g a, ?_, ?_, ?_, ?_⟩
  · show d.K w (f (g a)) cs
    rw [hfg]; exact hK
  · rw [hfg]; exact hw
  · rw [hfg]; exact hb
  · rw [hfg]; exact hg

/-- At an argument: its weights are within the reach. -/
theorem arg {H : Type} {enc : TypeId × Value → H} {w : World} {base : Nat} {spare : Nat → Bool} {held : Bool} {v : Value} {dd : DataW H} {ps : List MemPlace} {d : Kd α} {Wt : α → List Nat} {Bk : α → Nat} {Gd : α → Prop} (h : Opens P t d Wt Bk Gd)
    (hx : DataW.Trod enc P w base spare held t v dd ps) : ∃ a, d.K w a v.cells.toList ∧ (∀ n ∈ Wt a, n = 0 ∨ ∃ m ∈ dd.weights P t, n ≤ m) ∧ Bk a ≤ Rows.uptoBulk dd ∧ Gd a := by
  obtain ⟨fuel, hf⟩ := hx
  obtain ⟨a, h1, h2, h3, h4⟩ := h.out hf
  exact ⟨a, h1, h2, h3, h4⟩
/-- Each weight of an argument is within the reach of the form. -/
theorem reach {H : Type} {ts : List TypeId} {ds : List (DataW H)} (h : (DataW.weightsEach P ts ds).all (· ≤ reachBytes) = true) {j : Nat} {t : TypeId} {dd : DataW H} (ht : ts[j]? = some t) (hd : ds[j]? = some dd) {l : List Nat}
    (hw : ∀ n ∈ l, n = 0 ∨ ∃ m ∈ dd.weights P t, n ≤ m) : ∀ n ∈ l, n ≤ 140737488351232 := by
  intro n hn
  rcases hw n hn with h0 | ⟨m, hm, hle⟩
  · omega
  · have := DataW.weights_mem_each ht hd m hm
    rw [List.all_eq_true] at h
    have h1 := of_decide_eq_true (h m this)
    unfold reachBytes at h1
    omega
end
end Go.Proofs.Ytnilogameaaooaa.Opens
