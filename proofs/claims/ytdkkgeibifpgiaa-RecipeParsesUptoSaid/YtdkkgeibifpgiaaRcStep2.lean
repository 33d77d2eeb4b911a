/- The recipe's reader: one step walked. -/
import Derived.Test.YtdkkgeibifpgiaaRcStep
namespace Go.Proofs.Ytdkkgeibifpgiaa.Rc
open Go.RowKit Go.Lib Go.Proofs.YtdkkgeibifpgiaaW.PrintWords Go.Proofs.YtdkkgeibifpgiaaW.PrintLast Go.Proofs.YtdkkgeibifpgiaaW.PrintMore Go.Proofs.Ytdkkgeibifpgiaa.Bytes Go.Proofs.Ytdkkgeibifpgiaa.Q
set_option linter.unusedVariables false
set_option linter.unusedSimpArgs false
theorem info47r : (Try.prog.info? 47).map (fun i => (i.zero, i.size, i.bytes)) = some (some (.agg #[(.string ⟨#[]⟩), (.slice none 0 0)]), 2, 40) := by kernel_rfl
theorem R_first {W : World} {m : Nat} {ok : Nat → Prop} {A : Option Addr} {n cap : Nat} {x : ByteArray} {xs : List ByteArray} (h : Kd.string.R 9 W m ok (.slice A n cap) (x :: xs)) : n = xs.length + 1 ∧ ∃ g, A = some ⟨g, 0, none⟩ ∧ W.cell? ⟨g, 0, none⟩ = some (.string x) ∧ xs.length + 1 ≤ cap := by
  obtain ⟨hn, hc, _⟩ := Kd.R_reads' h
  have ho := Kd.own_of_R h
  rcases ho.2 with ⟨e, h0⟩ | ⟨g, cap', cur, e, hg, hh, r⟩
  · simp at h0
  · injection e with e1 e2 e3
    subst e1
    rw [hn] at h
    have := (Kd.R_cell (x : ByteArray) h 0 (by omega) (by simp)).1
    exact ⟨by simpa using hn, g, rfl, by simpa [rdOf] using this, by rw [hn] at hc; simpa using hc⟩
set_option maxRecDepth 100000 in
set_option maxHeartbeats 4000000 in
theorem step_calls (n0 m b0 rb bx bg be : Nat) (ob : Obj) (hbe1 : be ≠ rb) (hbe2 : be < m) (hbe3 : be ≠ bg) (T : ByteArray) (hT : T.size ≤ 1099511627776) (nm : ByteArray) (dv : Value) (deps : List ByteArray) (h0o : n0 ≤ bg) (hm1 : rb < m) (hm2 : bx < m) (hm3 : bg < m) (hb0 : bg < b0) (hmb : rb < b0) (hne : bx ≠ bg) (hxr : bx ≠ rb) (hnr : bg ≠ rb)
    (acc : List S47) (p : Nat) (W : World) (hS : GotP m b0 rb bx bg be ob nm dv deps acc W) (hR : RdAt W rb T p) (hp : p ≤ T.size) (hap : acc.length ≤ p) (hn : n0 ≤ W.heap.size) (hmW : m ≤ W.heap.size) :
    Calls Try.prog 21 #[.pointer (some ⟨bx, 0, none⟩), .pointer (some ⟨bg, 0, none⟩)] W fun e W' => AfterL n0 rb (IvP bg be ob) T (fun x W2 => GotP m b0 rb bx bg be ob nm dv deps (acc ++ [x]) W2) W (stepB ((bs T).drop p)) e W' := by
  have hmx : Try.prog.follows .mixedOrders = true := by kernel_rfl
  haveI : KeepsRf rb (IvP bg be ob) := IvP.keeps hnr hbe1
  have c2 := hS.r.cell
  have HC := strs_calls rb T hT 40 41 1 (by omega) p W hR hp
  unfold stepB wordsL
  cases hl : (wordL [40] ((bs T).drop p)).bind fun _ r => listL strB 41 false r with
  | bad l =>
    have HC' : Calls _ _ _ _ (fun e W' => AfterV rb T W (.bad l) e W') := hl ▸ HC
    go_enter Try.func21, Try.ntmps21
    go_wp2_with (go_at_call 19; refine HC'.mono ?_; intro e w5 hA; have hA3 := Broke.z (n0 := n0) (Iv := IvP bg be ob) hA hn; obtain ⟨g, rfl, hA2⟩ := hA)
    exact ⟨rfl, hA3⟩
  | ok l rest =>
    have HC' : Calls _ _ _ _ (fun e W' => AfterV rb T W (.ok l rest) e W') := hl ▸ HC
    obtain ⟨hlt, x, xs, rfl⟩ := wordsL_some _ _ _ hl
    clear HC
    obtain ⟨sv, hg, hrow⟩ := hS.got
    obtain ⟨A7, cap7, rfl⟩ := Kd.R_slice hrow
    go_enter Try.func21, Try.ntmps21
    go_wp2_with (go_at_call 19; refine HC'.mono ?_; intro e w5 hA; obtain ⟨v5, rfl, hr5, hR5, hl5, hd5, hz5⟩ := hA; obtain ⟨A5, cap5, e5⟩ := Kd.R_slice hr5; subst e5; obtain ⟨_, g5, rfl, d2, d3⟩ := R_first hr5)
    have hg5 : w5.heap[bg]? = some (.cells #[.string nm, dv, .slice A7 acc.length cap7] 26 (0, 0)) := (hz5.block bg (Array.getElem?_eq_some_iff.1 hg).1 hnr).trans hg
    have d1 : w5.cell? ⟨bg, 2, none⟩ = some (.slice A7 acc.length cap7) := by simp [World.cell?, hg5]
    have d5 : ∀ o, (w5.alloc o).cell? ⟨bg, 2, none⟩ = some (.slice A7 acc.length cap7) := fun o => by
      have hk := ((Below.refl w5.heap.size w5).alloc (Nat.le_refl _) o).block bg (Array.getElem?_eq_some_iff.1 hg5).1
      simp [World.cell?, hk, hg5]
    have hg5lt : g5 < w5.heap.size := ((Kd.R_bound hr5).1 g5 rfl).2.2.1
    have d6 : ∀ o, (w5.alloc o).cell? ⟨g5, 0, none⟩ = some (.string x) := fun o => by
      have hk := ((Below.refl w5.heap.size w5).alloc (Nat.le_refl _) o).block g5 hg5lt
      simpa [World.cell?, hk] using d2
    have hfar : ∀ k, W.heap.size ≤ k → some k ≠ (Value.slice A7 acc.length cap7).ownBlock := fun k hk e => by
      have := ((Kd.R_bound hrow).1 k e.symm).2.2.1
      omega
    have hrow5 : kSt.R 47 w5 m (fun _ => True) (.slice A7 acc.length cap7) acc := Kd.R_mono (Kd.R_move (Kd.R_bound hrow) (fun q hq => hz5.block q hq.2.2.1 (by have := hq.2.1; omega))) (fun _ _ => trivial)
    have hM0 : Kd.string.R 9 w5.drew m (fun k => W.heap.size ≤ k) (.slice (some ⟨g5, 0, none⟩) (xs.length + 1) cap5) (x :: xs) := Kd.R_drew (Kd.R_lower (Kd.R_mono (Kd.R_bound hr5) (fun k hk => hk.2.1)) hmW)
    by_cases hxs : xs = []
    · subst hxs
      have hM : kSt.M w5.drew m (fun k => W.heap.size ≤ k) ⟨x, []⟩ [.string x, .slice (some ⟨g5, 0, none⟩) 0 0] := ⟨[.string x], [.slice (some ⟨g5, 0, none⟩) 0 0], rfl, rfl, g5, x, cap5, rfl, hM0⟩
      clear hl HC' hg c2
      refine wp_region_any (by kernel_rfl) ?_
      try (change wpAny _ _ _ _ _ _ _ (World.drew _))
      refine wpAny_take (i := 0) (v := ?tvu0x0) rfl (by kernel_rfl) (by kernel_rfl) (by kernel_rfl) (fun _ _ _ h => h) (Or.inl ⟨by rfl, ?thu0x0⟩) ?tru0x0
      case thu0x0 => intro w; go_simp; with_reducible rfl
      refine wpAny_take (i := 2) (v := ?tvu0x1) rfl (by kernel_rfl) (by kernel_rfl) (by kernel_rfl) (fun _ _ _ h => h) (Or.inl ⟨by rfl, ?thu0x1⟩) ?tru0x1
      case thu0x1 => intro w; go_simp; with_reducible rfl
      refine wpAny_take (i := 3) (v := ?tvu0x2) rfl (by kernel_rfl) (by kernel_rfl) (by kernel_rfl) (fun _ _ _ h => h) (Or.inl ⟨by rfl, ?thu0x2⟩) ?tru0x2
      case thu0x2 => intro w; go_simp; with_reducible rfl
      refine wpAny_take (i := 5) (v := ?tvu0x3) rfl (by kernel_rfl) (by kernel_rfl) (by kernel_rfl) (fun _ _ _ h => h) (Or.inl ⟨by rfl, ?thu0x3⟩) ?tru0x3
      case thu0x3 => intro w; go_simp; with_reducible rfl
      refine wpAny_take (i := 6) (v := ?tvu0x4) rfl (by kernel_rfl) (by kernel_rfl) (by kernel_rfl) (fun _ _ _ h => h) (Or.inl ⟨by rfl, ?thu0x4⟩) ?tru0x4
      case thu0x4 => intro w; go_simp; with_reducible rfl
      refine wpAny_take (i := 7) (v := ?tvu0x5) rfl (by kernel_rfl) (by kernel_rfl) (by kernel_rfl) (fun _ _ _ h => h) (Or.inl ⟨by rfl, ?thu0x5⟩) ?tru0x5
      case thu0x5 => intro w; go_simp; with_reducible rfl
      refine wpAny_take (i := 8) (v := ?tvu0x6) rfl (by kernel_rfl) (by kernel_rfl) (by kernel_rfl) (fun _ _ _ h => h) (Or.inl ⟨by rfl, ?thu0x6⟩) ?tru0x6
      case thu0x6 => intro w; go_simp; with_reducible rfl
      refine wpAny_take (i := 9) (v := ?tvu0x7) rfl (by kernel_rfl) (by kernel_rfl) (by kernel_rfl) (fun _ _ _ h => h) (Or.inl ⟨by rfl, ?thu0x7⟩) ?tru0x7
      case thu0x7 => intro w; go_simp; with_reducible rfl
      refine wpAny_ready (rs := [1, 4, 10]) (by kernel_rfl) (by simp) ?_
      refine AllReady.cons rfl (fun K hK => ?_) ?_
      · go_simp
        refine hK _ _ ?_
        clear hK K
        refine wpAny_ready (rs := [4, 10]) (by kernel_rfl) (by simp) ?_
        refine AllReady.cons rfl (fun K hK => ?_) ?_
        · go_simp
          refine hK _ _ ?_
          clear hK K
          refine wpAny_ready (rs := [10]) (by kernel_rfl) (by simp) ?_
          refine AllReady.cons rfl (fun K hK => ?_) ?_
          · go_simp
            go_wp2_with (fail)
            refine wpAny_take (i := 11) (v := ?tvu0x8) rfl (by kernel_rfl) (by kernel_rfl) (by kernel_rfl) (fun _ _ _ h => h) (Or.inl ⟨by rfl, ?thu0x8⟩) ?tru0x8
            case thu0x8 => intro w; go_simp; with_reducible rfl
            refine wpAny_ready (rs := [12]) (by kernel_rfl) (by simp) ?_
            refine AllReady.cons rfl (fun K hK => ?_) ?_
            · go_simp
              refine hK _ _ ?_
              clear hK K
              have hS5 := hS.keep hz5 hxr hnr hm1 hmb hbe1
              refine wpAny_of_seq _ 13 _ _ _ (fun j => by rcases j with _ | _ | _ | j <;> simp <;> omega) (by kernel_rfl) ?_
              with_reducible refine gate_builtin (b := .append) (xs := #[.tmp 6, .tmp 17]) rfl ?_
              at_builtin
              refine Kd.R_append kSt (W := w5.drew) (w0 := w5) m rfl (.tmp 6) (.tmp 17) 24 47 (.agg #[(.string ⟨#[]⟩), (.slice none 0 0)]) 40 rfl Try.underlying24 info47r rfl (by decide) (by omega) (.slice A7 acc.length cap7) acc ⟨x, []⟩ [.string x, .slice (some ⟨g5, 0, none⟩) 0 0] (fun _ => True) (fun k => W.heap.size ≤ k) rfl rfl ?aP (fun k hk => ⟨trivial, hfar k hk⟩) ?aF ?aO ?aB ?aS ?aL ?_
              case aP => exact hM
              case aB => exact below_drew (Below.refl _ _)
              case aF => exact (fun _ _ => trivial)
              case aO => exact Kd.R_drew hrow5
              case aS => exact Nat.le_trans hmW hz5.size
              case aL => omega
              intro v3 w3 ho hb hgr hat
              obtain ⟨A3, cap3, e3⟩ := Kd.R_slice ho
              subst e3
              have hw3 : w3.heap[bg]? = some (.cells #[.string nm, dv, .slice A7 acc.length cap7] 26 (0, 0)) := (hb.block bg hm3).trans hg5
              have f1 : w3.cell? ⟨bg, 2, none⟩ = some (.slice A7 acc.length cap7) := by simp [World.cell?, hw3]
              have f2 : w3.frozen? ⟨bg, 2, none⟩ = false := by simp [World.frozen?, hw3]
              go_wp2
              have hS3 := hS5.store hR5 hb ho h0o hm1 hm2 hm3 hb0 hne hnr hbe2 hbe3
              simp only [List.length_append, List.length_singleton] at hS3
              exact ⟨rfl, .tuple #[], results_none rfl _ _ _, rfl, hS3.1, hS3.2.1, hl5, hd5, (hz5.z hn).trans hS3.2.2⟩
            exact AllReady.nil
          exact AllReady.nil
        refine AllReady.cons rfl (fun K hK => ?_) ?_
        · go_simp
          go_wp2_with (fail)
          refine wpAny_ready (rs := [4]) (by kernel_rfl) (by simp) ?_
          refine AllReady.cons rfl (fun K hK => ?_) ?_
          · go_simp
            refine hK _ _ ?_
            clear hK K
            refine wpAny_take (i := 11) (v := ?tvu0x9) rfl (by kernel_rfl) (by kernel_rfl) (by kernel_rfl) (fun _ _ _ h => h) (Or.inl ⟨by rfl, ?thu0x9⟩) ?tru0x9
            case thu0x9 => intro w; go_simp; with_reducible rfl
            refine wpAny_ready (rs := [12]) (by kernel_rfl) (by simp) ?_
            refine AllReady.cons rfl (fun K hK => ?_) ?_
            · go_simp
              refine hK _ _ ?_
              clear hK K
              have hS5 := hS.keep hz5 hxr hnr hm1 hmb hbe1
              refine wpAny_of_seq _ 13 _ _ _ (fun j => by rcases j with _ | _ | _ | j <;> simp <;> omega) (by kernel_rfl) ?_
              with_reducible refine gate_builtin (b := .append) (xs := #[.tmp 6, .tmp 17]) rfl ?_
              at_builtin
              refine Kd.R_append kSt (W := w5.drew) (w0 := w5) m rfl (.tmp 6) (.tmp 17) 24 47 (.agg #[(.string ⟨#[]⟩), (.slice none 0 0)]) 40 rfl Try.underlying24 info47r rfl (by decide) (by omega) (.slice A7 acc.length cap7) acc ⟨x, []⟩ [.string x, .slice (some ⟨g5, 0, none⟩) 0 0] (fun _ => True) (fun k => W.heap.size ≤ k) rfl rfl ?aP (fun k hk => ⟨trivial, hfar k hk⟩) ?aF ?aO ?aB ?aS ?aL ?_
              case aP => exact hM
              case aB => exact below_drew (Below.refl _ _)
              case aF => exact (fun _ _ => trivial)
              case aO => exact Kd.R_drew hrow5
              case aS => exact Nat.le_trans hmW hz5.size
              case aL => omega
              intro v3 w3 ho hb hgr hat
              obtain ⟨A3, cap3, e3⟩ := Kd.R_slice ho
              subst e3
              have hw3 : w3.heap[bg]? = some (.cells #[.string nm, dv, .slice A7 acc.length cap7] 26 (0, 0)) := (hb.block bg hm3).trans hg5
              have f1 : w3.cell? ⟨bg, 2, none⟩ = some (.slice A7 acc.length cap7) := by simp [World.cell?, hw3]
              have f2 : w3.frozen? ⟨bg, 2, none⟩ = false := by simp [World.frozen?, hw3]
              go_wp2
              have hS3 := hS5.store hR5 hb ho h0o hm1 hm2 hm3 hb0 hne hnr hbe2 hbe3
              simp only [List.length_append, List.length_singleton] at hS3
              exact ⟨rfl, .tuple #[], results_none rfl _ _ _, rfl, hS3.1, hS3.2.1, hl5, hd5, (hz5.z hn).trans hS3.2.2⟩
            exact AllReady.nil
          exact AllReady.nil
        exact AllReady.nil
      refine AllReady.cons rfl (fun K hK => ?_) ?_
      · go_simp
        refine hK _ _ ?_
        clear hK K
        refine wpAny_ready (rs := [1, 10]) (by kernel_rfl) (by simp) ?_
        refine AllReady.cons rfl (fun K hK => ?_) ?_
        · go_simp
          refine hK _ _ ?_
          clear hK K
          refine wpAny_ready (rs := [10]) (by kernel_rfl) (by simp) ?_
          refine AllReady.cons rfl (fun K hK => ?_) ?_
          · go_simp
            go_wp2_with (fail)
            refine wpAny_take (i := 11) (v := ?tvu0x10) rfl (by kernel_rfl) (by kernel_rfl) (by kernel_rfl) (fun _ _ _ h => h) (Or.inl ⟨by rfl, ?thu0x10⟩) ?tru0x10
            case thu0x10 => intro w; go_simp; with_reducible rfl
            refine wpAny_ready (rs := [12]) (by kernel_rfl) (by simp) ?_
            refine AllReady.cons rfl (fun K hK => ?_) ?_
            · go_simp
              refine hK _ _ ?_
              clear hK K
              have hS5 := hS.keep hz5 hxr hnr hm1 hmb hbe1
              refine wpAny_of_seq _ 13 _ _ _ (fun j => by rcases j with _ | _ | _ | j <;> simp <;> omega) (by kernel_rfl) ?_
              with_reducible refine gate_builtin (b := .append) (xs := #[.tmp 6, .tmp 17]) rfl ?_
              at_builtin
              refine Kd.R_append kSt (W := w5.drew) (w0 := w5) m rfl (.tmp 6) (.tmp 17) 24 47 (.agg #[(.string ⟨#[]⟩), (.slice none 0 0)]) 40 rfl Try.underlying24 info47r rfl (by decide) (by omega) (.slice A7 acc.length cap7) acc ⟨x, []⟩ [.string x, .slice (some ⟨g5, 0, none⟩) 0 0] (fun _ => True) (fun k => W.heap.size ≤ k) rfl rfl ?aP (fun k hk => ⟨trivial, hfar k hk⟩) ?aF ?aO ?aB ?aS ?aL ?_
              case aP => exact hM
              case aB => exact below_drew (Below.refl _ _)
              case aF => exact (fun _ _ => trivial)
              case aO => exact Kd.R_drew hrow5
              case aS => exact Nat.le_trans hmW hz5.size
              case aL => omega
              intro v3 w3 ho hb hgr hat
              obtain ⟨A3, cap3, e3⟩ := Kd.R_slice ho
              subst e3
              have hw3 : w3.heap[bg]? = some (.cells #[.string nm, dv, .slice A7 acc.length cap7] 26 (0, 0)) := (hb.block bg hm3).trans hg5
              have f1 : w3.cell? ⟨bg, 2, none⟩ = some (.slice A7 acc.length cap7) := by simp [World.cell?, hw3]
              have f2 : w3.frozen? ⟨bg, 2, none⟩ = false := by simp [World.frozen?, hw3]
              go_wp2
              have hS3 := hS5.store hR5 hb ho h0o hm1 hm2 hm3 hb0 hne hnr hbe2 hbe3
              simp only [List.length_append, List.length_singleton] at hS3
              exact ⟨rfl, .tuple #[], results_none rfl _ _ _, rfl, hS3.1, hS3.2.1, hl5, hd5, (hz5.z hn).trans hS3.2.2⟩
            exact AllReady.nil
          exact AllReady.nil
        refine AllReady.cons rfl (fun K hK => ?_) ?_
        · go_simp
          go_wp2_with (fail)
          refine wpAny_take (i := 11) (v := ?tvu0x11) rfl (by kernel_rfl) (by kernel_rfl) (by kernel_rfl) (fun _ _ _ h => h) (Or.inl ⟨by rfl, ?thu0x11⟩) ?tru0x11
          case thu0x11 => intro w; go_simp; with_reducible rfl
          refine wpAny_ready (rs := [1, 12]) (by kernel_rfl) (by simp) ?_
          refine AllReady.cons rfl (fun K hK => ?_) ?_
          · go_simp
            refine hK _ _ ?_
            clear hK K
            refine wpAny_ready (rs := [12]) (by kernel_rfl) (by simp) ?_
            refine AllReady.cons rfl (fun K hK => ?_) ?_
            · go_simp
              refine hK _ _ ?_
              clear hK K
              have hS5 := hS.keep hz5 hxr hnr hm1 hmb hbe1
              refine wpAny_of_seq _ 13 _ _ _ (fun j => by rcases j with _ | _ | _ | j <;> simp <;> omega) (by kernel_rfl) ?_
              with_reducible refine gate_builtin (b := .append) (xs := #[.tmp 6, .tmp 17]) rfl ?_
              at_builtin
              refine Kd.R_append kSt (W := w5.drew) (w0 := w5) m rfl (.tmp 6) (.tmp 17) 24 47 (.agg #[(.string ⟨#[]⟩), (.slice none 0 0)]) 40 rfl Try.underlying24 info47r rfl (by decide) (by omega) (.slice A7 acc.length cap7) acc ⟨x, []⟩ [.string x, .slice (some ⟨g5, 0, none⟩) 0 0] (fun _ => True) (fun k => W.heap.size ≤ k) rfl rfl ?aP (fun k hk => ⟨trivial, hfar k hk⟩) ?aF ?aO ?aB ?aS ?aL ?_
              case aP => exact hM
              case aB => exact below_drew (Below.refl _ _)
              case aF => exact (fun _ _ => trivial)
              case aO => exact Kd.R_drew hrow5
              case aS => exact Nat.le_trans hmW hz5.size
              case aL => omega
              intro v3 w3 ho hb hgr hat
              obtain ⟨A3, cap3, e3⟩ := Kd.R_slice ho
              subst e3
              have hw3 : w3.heap[bg]? = some (.cells #[.string nm, dv, .slice A7 acc.length cap7] 26 (0, 0)) := (hb.block bg hm3).trans hg5
              have f1 : w3.cell? ⟨bg, 2, none⟩ = some (.slice A7 acc.length cap7) := by simp [World.cell?, hw3]
              have f2 : w3.frozen? ⟨bg, 2, none⟩ = false := by simp [World.frozen?, hw3]
              go_wp2
              have hS3 := hS5.store hR5 hb ho h0o hm1 hm2 hm3 hb0 hne hnr hbe2 hbe3
              simp only [List.length_append, List.length_singleton] at hS3
              exact ⟨rfl, .tuple #[], results_none rfl _ _ _, rfl, hS3.1, hS3.2.1, hl5, hd5, (hz5.z hn).trans hS3.2.2⟩
            exact AllReady.nil
          refine AllReady.cons rfl (fun K hK => ?_) ?_
          · go_simp
            refine hK _ _ ?_
            clear hK K
            refine wpAny_ready (rs := [1]) (by kernel_rfl) (by simp) ?_
            refine AllReady.cons rfl (fun K hK => ?_) ?_
            · go_simp
              refine hK _ _ ?_
              clear hK K
              have hS5 := hS.keep hz5 hxr hnr hm1 hmb hbe1
              refine wpAny_of_seq _ 13 _ _ _ (fun j => by rcases j with _ | _ | _ | j <;> simp <;> omega) (by kernel_rfl) ?_
              with_reducible refine gate_builtin (b := .append) (xs := #[.tmp 6, .tmp 17]) rfl ?_
              at_builtin
              refine Kd.R_append kSt (W := w5.drew) (w0 := w5) m rfl (.tmp 6) (.tmp 17) 24 47 (.agg #[(.string ⟨#[]⟩), (.slice none 0 0)]) 40 rfl Try.underlying24 info47r rfl (by decide) (by omega) (.slice A7 acc.length cap7) acc ⟨x, []⟩ [.string x, .slice (some ⟨g5, 0, none⟩) 0 0] (fun _ => True) (fun k => W.heap.size ≤ k) rfl rfl ?aP (fun k hk => ⟨trivial, hfar k hk⟩) ?aF ?aO ?aB ?aS ?aL ?_
              case aP => exact hM
              case aB => exact below_drew (Below.refl _ _)
              case aF => exact (fun _ _ => trivial)
              case aO => exact Kd.R_drew hrow5
              case aS => exact Nat.le_trans hmW hz5.size
              case aL => omega
              intro v3 w3 ho hb hgr hat
              obtain ⟨A3, cap3, e3⟩ := Kd.R_slice ho
              subst e3
              have hw3 : w3.heap[bg]? = some (.cells #[.string nm, dv, .slice A7 acc.length cap7] 26 (0, 0)) := (hb.block bg hm3).trans hg5
              have f1 : w3.cell? ⟨bg, 2, none⟩ = some (.slice A7 acc.length cap7) := by simp [World.cell?, hw3]
              have f2 : w3.frozen? ⟨bg, 2, none⟩ = false := by simp [World.frozen?, hw3]
              go_wp2
              have hS3 := hS5.store hR5 hb ho h0o hm1 hm2 hm3 hb0 hne hnr hbe2 hbe3
              simp only [List.length_append, List.length_singleton] at hS3
              exact ⟨rfl, .tuple #[], results_none rfl _ _ _, rfl, hS3.1, hS3.2.1, hl5, hd5, (hz5.z hn).trans hS3.2.2⟩
            exact AllReady.nil
          exact AllReady.nil
        exact AllReady.nil
      refine AllReady.cons rfl (fun K hK => ?_) ?_
      · go_simp
        go_wp2_with (fail)
        refine wpAny_ready (rs := [1, 4]) (by kernel_rfl) (by simp) ?_
        refine AllReady.cons rfl (fun K hK => ?_) ?_
        · go_simp
          refine hK _ _ ?_
          clear hK K
          refine wpAny_ready (rs := [4]) (by kernel_rfl) (by simp) ?_
          refine AllReady.cons rfl (fun K hK => ?_) ?_
          · go_simp
            refine hK _ _ ?_
            clear hK K
            refine wpAny_take (i := 11) (v := ?tvu0x12) rfl (by kernel_rfl) (by kernel_rfl) (by kernel_rfl) (fun _ _ _ h => h) (Or.inl ⟨by rfl, ?thu0x12⟩) ?tru0x12
            case thu0x12 => intro w; go_simp; with_reducible rfl
            refine wpAny_ready (rs := [12]) (by kernel_rfl) (by simp) ?_
            refine AllReady.cons rfl (fun K hK => ?_) ?_
            · go_simp
              refine hK _ _ ?_
              clear hK K
              have hS5 := hS.keep hz5 hxr hnr hm1 hmb hbe1
              refine wpAny_of_seq _ 13 _ _ _ (fun j => by rcases j with _ | _ | _ | j <;> simp <;> omega) (by kernel_rfl) ?_
              with_reducible refine gate_builtin (b := .append) (xs := #[.tmp 6, .tmp 17]) rfl ?_
              at_builtin
              refine Kd.R_append kSt (W := w5.drew) (w0 := w5) m rfl (.tmp 6) (.tmp 17) 24 47 (.agg #[(.string ⟨#[]⟩), (.slice none 0 0)]) 40 rfl Try.underlying24 info47r rfl (by decide) (by omega) (.slice A7 acc.length cap7) acc ⟨x, []⟩ [.string x, .slice (some ⟨g5, 0, none⟩) 0 0] (fun _ => True) (fun k => W.heap.size ≤ k) rfl rfl ?aP (fun k hk => ⟨trivial, hfar k hk⟩) ?aF ?aO ?aB ?aS ?aL ?_
              case aP => exact hM
              case aB => exact below_drew (Below.refl _ _)
              case aF => exact (fun _ _ => trivial)
              case aO => exact Kd.R_drew hrow5
              case aS => exact Nat.le_trans hmW hz5.size
              case aL => omega
              intro v3 w3 ho hb hgr hat
              obtain ⟨A3, cap3, e3⟩ := Kd.R_slice ho
              subst e3
              have hw3 : w3.heap[bg]? = some (.cells #[.string nm, dv, .slice A7 acc.length cap7] 26 (0, 0)) := (hb.block bg hm3).trans hg5
              have f1 : w3.cell? ⟨bg, 2, none⟩ = some (.slice A7 acc.length cap7) := by simp [World.cell?, hw3]
              have f2 : w3.frozen? ⟨bg, 2, none⟩ = false := by simp [World.frozen?, hw3]
              go_wp2
              have hS3 := hS5.store hR5 hb ho h0o hm1 hm2 hm3 hb0 hne hnr hbe2 hbe3
              simp only [List.length_append, List.length_singleton] at hS3
              exact ⟨rfl, .tuple #[], results_none rfl _ _ _, rfl, hS3.1, hS3.2.1, hl5, hd5, (hz5.z hn).trans hS3.2.2⟩
            exact AllReady.nil
          exact AllReady.nil
        refine AllReady.cons rfl (fun K hK => ?_) ?_
        · go_simp
          refine hK _ _ ?_
          clear hK K
          refine wpAny_take (i := 11) (v := ?tvu0x13) rfl (by kernel_rfl) (by kernel_rfl) (by kernel_rfl) (fun _ _ _ h => h) (Or.inl ⟨by rfl, ?thu0x13⟩) ?tru0x13
          case thu0x13 => intro w; go_simp; with_reducible rfl
          refine wpAny_ready (rs := [1, 12]) (by kernel_rfl) (by simp) ?_
          refine AllReady.cons rfl (fun K hK => ?_) ?_
          · go_simp
            refine hK _ _ ?_
            clear hK K
            refine wpAny_ready (rs := [12]) (by kernel_rfl) (by simp) ?_
            refine AllReady.cons rfl (fun K hK => ?_) ?_
            · go_simp
              refine hK _ _ ?_
              clear hK K
              have hS5 := hS.keep hz5 hxr hnr hm1 hmb hbe1
              refine wpAny_of_seq _ 13 _ _ _ (fun j => by rcases j with _ | _ | _ | j <;> simp <;> omega) (by kernel_rfl) ?_
              with_reducible refine gate_builtin (b := .append) (xs := #[.tmp 6, .tmp 17]) rfl ?_
              at_builtin
              refine Kd.R_append kSt (W := w5.drew) (w0 := w5) m rfl (.tmp 6) (.tmp 17) 24 47 (.agg #[(.string ⟨#[]⟩), (.slice none 0 0)]) 40 rfl Try.underlying24 info47r rfl (by decide) (by omega) (.slice A7 acc.length cap7) acc ⟨x, []⟩ [.string x, .slice (some ⟨g5, 0, none⟩) 0 0] (fun _ => True) (fun k => W.heap.size ≤ k) rfl rfl ?aP (fun k hk => ⟨trivial, hfar k hk⟩) ?aF ?aO ?aB ?aS ?aL ?_
              case aP => exact hM
              case aB => exact below_drew (Below.refl _ _)
              case aF => exact (fun _ _ => trivial)
              case aO => exact Kd.R_drew hrow5
              case aS => exact Nat.le_trans hmW hz5.size
              case aL => omega
              intro v3 w3 ho hb hgr hat
              obtain ⟨A3, cap3, e3⟩ := Kd.R_slice ho
              subst e3
              have hw3 : w3.heap[bg]? = some (.cells #[.string nm, dv, .slice A7 acc.length cap7] 26 (0, 0)) := (hb.block bg hm3).trans hg5
              have f1 : w3.cell? ⟨bg, 2, none⟩ = some (.slice A7 acc.length cap7) := by simp [World.cell?, hw3]
              have f2 : w3.frozen? ⟨bg, 2, none⟩ = false := by simp [World.frozen?, hw3]
              go_wp2
              have hS3 := hS5.store hR5 hb ho h0o hm1 hm2 hm3 hb0 hne hnr hbe2 hbe3
              simp only [List.length_append, List.length_singleton] at hS3
              exact ⟨rfl, .tuple #[], results_none rfl _ _ _, rfl, hS3.1, hS3.2.1, hl5, hd5, (hz5.z hn).trans hS3.2.2⟩
            exact AllReady.nil
          refine AllReady.cons rfl (fun K hK => ?_) ?_
          · go_simp
            refine hK _ _ ?_
            clear hK K
            refine wpAny_ready (rs := [1]) (by kernel_rfl) (by simp) ?_
            refine AllReady.cons rfl (fun K hK => ?_) ?_
            · go_simp
              refine hK _ _ ?_
              clear hK K
              have hS5 := hS.keep hz5 hxr hnr hm1 hmb hbe1
              refine wpAny_of_seq _ 13 _ _ _ (fun j => by rcases j with _ | _ | _ | j <;> simp <;> omega) (by kernel_rfl) ?_
              with_reducible refine gate_builtin (b := .append) (xs := #[.tmp 6, .tmp 17]) rfl ?_
              at_builtin
              refine Kd.R_append kSt (W := w5.drew) (w0 := w5) m rfl (.tmp 6) (.tmp 17) 24 47 (.agg #[(.string ⟨#[]⟩), (.slice none 0 0)]) 40 rfl Try.underlying24 info47r rfl (by decide) (by omega) (.slice A7 acc.length cap7) acc ⟨x, []⟩ [.string x, .slice (some ⟨g5, 0, none⟩) 0 0] (fun _ => True) (fun k => W.heap.size ≤ k) rfl rfl ?aP (fun k hk => ⟨trivial, hfar k hk⟩) ?aF ?aO ?aB ?aS ?aL ?_
              case aP => exact hM
              case aB => exact below_drew (Below.refl _ _)
              case aF => exact (fun _ _ => trivial)
              case aO => exact Kd.R_drew hrow5
              case aS => exact Nat.le_trans hmW hz5.size
              case aL => omega
              intro v3 w3 ho hb hgr hat
              obtain ⟨A3, cap3, e3⟩ := Kd.R_slice ho
              subst e3
              have hw3 : w3.heap[bg]? = some (.cells #[.string nm, dv, .slice A7 acc.length cap7] 26 (0, 0)) := (hb.block bg hm3).trans hg5
              have f1 : w3.cell? ⟨bg, 2, none⟩ = some (.slice A7 acc.length cap7) := by simp [World.cell?, hw3]
              have f2 : w3.frozen? ⟨bg, 2, none⟩ = false := by simp [World.frozen?, hw3]
              go_wp2
              have hS3 := hS5.store hR5 hb ho h0o hm1 hm2 hm3 hb0 hne hnr hbe2 hbe3
              simp only [List.length_append, List.length_singleton] at hS3
              exact ⟨rfl, .tuple #[], results_none rfl _ _ _, rfl, hS3.1, hS3.2.1, hl5, hd5, (hz5.z hn).trans hS3.2.2⟩
            exact AllReady.nil
          exact AllReady.nil
        exact AllReady.nil
      exact AllReady.nil
    · have hM : kSt.M w5.drew m (fun k => W.heap.size ≤ k) ⟨x, xs⟩ [.string x, .slice (some ⟨g5, 1, none⟩) xs.length xs.length] := ⟨[.string x], [.slice (some ⟨g5, 1, none⟩) xs.length xs.length], rfl, rfl, g5, x, cap5, by rw [if_neg (fun h => hxs (List.length_eq_zero_iff.1 h))], hM0⟩
      clear hl HC' hg c2
      refine wp_region_any (by kernel_rfl) ?_
      try (change wpAny _ _ _ _ _ _ _ (World.drew _))
      refine wpAny_take (i := 0) (v := ?tvu1x0) rfl (by kernel_rfl) (by kernel_rfl) (by kernel_rfl) (fun _ _ _ h => h) (Or.inl ⟨by rfl, ?thu1x0⟩) ?tru1x0
      case thu1x0 => intro w; go_simp; with_reducible rfl
      refine wpAny_take (i := 2) (v := ?tvu1x1) rfl (by kernel_rfl) (by kernel_rfl) (by kernel_rfl) (fun _ _ _ h => h) (Or.inl ⟨by rfl, ?thu1x1⟩) ?tru1x1
      case thu1x1 => intro w; go_simp; with_reducible rfl
      refine wpAny_take (i := 3) (v := ?tvu1x2) rfl (by kernel_rfl) (by kernel_rfl) (by kernel_rfl) (fun _ _ _ h => h) (Or.inl ⟨by rfl, ?thu1x2⟩) ?tru1x2
      case thu1x2 => intro w; go_simp; with_reducible rfl
      refine wpAny_take (i := 5) (v := ?tvu1x3) rfl (by kernel_rfl) (by kernel_rfl) (by kernel_rfl) (fun _ _ _ h => h) (Or.inl ⟨by rfl, ?thu1x3⟩) ?tru1x3
      case thu1x3 => intro w; go_simp; with_reducible rfl
      refine wpAny_take (i := 6) (v := ?tvu1x4) rfl (by kernel_rfl) (by kernel_rfl) (by kernel_rfl) (fun _ _ _ h => h) (Or.inl ⟨by rfl, ?thu1x4⟩) ?tru1x4
      case thu1x4 => intro w; go_simp; with_reducible rfl
      refine wpAny_take (i := 7) (v := ?tvu1x5) rfl (by kernel_rfl) (by kernel_rfl) (by kernel_rfl) (fun _ _ _ h => h) (Or.inl ⟨by rfl, ?thu1x5⟩) ?tru1x5
      case thu1x5 => intro w; go_simp; with_reducible rfl
      refine wpAny_take (i := 8) (v := ?tvu1x6) rfl (by kernel_rfl) (by kernel_rfl) (by kernel_rfl) (fun _ _ _ h => h) (Or.inl ⟨by rfl, ?thu1x6⟩) ?tru1x6
      case thu1x6 => intro w; go_simp; with_reducible rfl
      refine wpAny_take (i := 9) (v := ?tvu1x7) rfl (by kernel_rfl) (by kernel_rfl) (by kernel_rfl) (fun _ _ _ h => h) (Or.inl ⟨by rfl, ?thu1x7⟩) ?tru1x7
      case thu1x7 => intro w; go_simp; with_reducible rfl
      refine wpAny_ready (rs := [1, 4, 10]) (by kernel_rfl) (by simp) ?_
      refine AllReady.cons rfl (fun K hK => ?_) ?_
      · go_simp
        refine hK _ _ ?_
        clear hK K
        refine wpAny_ready (rs := [4, 10]) (by kernel_rfl) (by simp) ?_
        refine AllReady.cons rfl (fun K hK => ?_) ?_
        · go_simp
          refine hK _ _ ?_
          clear hK K
          refine wpAny_ready (rs := [10]) (by kernel_rfl) (by simp) ?_
          refine AllReady.cons rfl (fun K hK => ?_) ?_
          · go_simp
            go_wp2_with (fail)
            refine wpAny_take (i := 11) (v := ?tvu1x8) rfl (by kernel_rfl) (by kernel_rfl) (by kernel_rfl) (fun _ _ _ h => h) (Or.inl ⟨by rfl, ?thu1x8⟩) ?tru1x8
            case thu1x8 => intro w; go_simp; with_reducible rfl
            refine wpAny_ready (rs := [12]) (by kernel_rfl) (by simp) ?_
            refine AllReady.cons rfl (fun K hK => ?_) ?_
            · go_simp
              refine hK _ _ ?_
              clear hK K
              have hS5 := hS.keep hz5 hxr hnr hm1 hmb hbe1
              refine wpAny_of_seq _ 13 _ _ _ (fun j => by rcases j with _ | _ | _ | j <;> simp <;> omega) (by kernel_rfl) ?_
              with_reducible refine gate_builtin (b := .append) (xs := #[.tmp 6, .tmp 17]) rfl ?_
              at_builtin
              refine Kd.R_append kSt (W := w5.drew) (w0 := w5) m rfl (.tmp 6) (.tmp 17) 24 47 (.agg #[(.string ⟨#[]⟩), (.slice none 0 0)]) 40 rfl Try.underlying24 info47r rfl (by decide) (by omega) (.slice A7 acc.length cap7) acc ⟨x, xs⟩ [.string x, .slice (some ⟨g5, 1, none⟩) xs.length xs.length] (fun _ => True) (fun k => W.heap.size ≤ k) rfl rfl ?aP (fun k hk => ⟨trivial, hfar k hk⟩) ?aF ?aO ?aB ?aS ?aL ?_
              case aP => exact hM
              case aB => exact below_drew (Below.refl _ _)
              case aF => exact (fun _ _ => trivial)
              case aO => exact Kd.R_drew hrow5
              case aS => exact Nat.le_trans hmW hz5.size
              case aL => omega
              intro v3 w3 ho hb hgr hat
              obtain ⟨A3, cap3, e3⟩ := Kd.R_slice ho
              subst e3
              have hw3 : w3.heap[bg]? = some (.cells #[.string nm, dv, .slice A7 acc.length cap7] 26 (0, 0)) := (hb.block bg hm3).trans hg5
              have f1 : w3.cell? ⟨bg, 2, none⟩ = some (.slice A7 acc.length cap7) := by simp [World.cell?, hw3]
              have f2 : w3.frozen? ⟨bg, 2, none⟩ = false := by simp [World.frozen?, hw3]
              go_wp2
              have hS3 := hS5.store hR5 hb ho h0o hm1 hm2 hm3 hb0 hne hnr hbe2 hbe3
              simp only [List.length_append, List.length_singleton] at hS3
              exact ⟨rfl, .tuple #[], results_none rfl _ _ _, rfl, hS3.1, hS3.2.1, hl5, hd5, (hz5.z hn).trans hS3.2.2⟩
            exact AllReady.nil
          exact AllReady.nil
        refine AllReady.cons rfl (fun K hK => ?_) ?_
        · go_simp
          go_wp2_with (fail)
          refine wpAny_ready (rs := [4]) (by kernel_rfl) (by simp) ?_
          refine AllReady.cons rfl (fun K hK => ?_) ?_
          · go_simp
            refine hK _ _ ?_
            clear hK K
            refine wpAny_take (i := 11) (v := ?tvu1x9) rfl (by kernel_rfl) (by kernel_rfl) (by kernel_rfl) (fun _ _ _ h => h) (Or.inl ⟨by rfl, ?thu1x9⟩) ?tru1x9
            case thu1x9 => intro w; go_simp; with_reducible rfl
            refine wpAny_ready (rs := [12]) (by kernel_rfl) (by simp) ?_
            refine AllReady.cons rfl (fun K hK => ?_) ?_
            · go_simp
              refine hK _ _ ?_
              clear hK K
              have hS5 := hS.keep hz5 hxr hnr hm1 hmb hbe1
              refine wpAny_of_seq _ 13 _ _ _ (fun j => by rcases j with _ | _ | _ | j <;> simp <;> omega) (by kernel_rfl) ?_
              with_reducible refine gate_builtin (b := .append) (xs := #[.tmp 6, .tmp 17]) rfl ?_
              at_builtin
              refine Kd.R_append kSt (W := w5.drew) (w0 := w5) m rfl (.tmp 6) (.tmp 17) 24 47 (.agg #[(.string ⟨#[]⟩), (.slice none 0 0)]) 40 rfl Try.underlying24 info47r rfl (by decide) (by omega) (.slice A7 acc.length cap7) acc ⟨x, xs⟩ [.string x, .slice (some ⟨g5, 1, none⟩) xs.length xs.length] (fun _ => True) (fun k => W.heap.size ≤ k) rfl rfl ?aP (fun k hk => ⟨trivial, hfar k hk⟩) ?aF ?aO ?aB ?aS ?aL ?_
              case aP => exact hM
              case aB => exact below_drew (Below.refl _ _)
              case aF => exact (fun _ _ => trivial)
              case aO => exact Kd.R_drew hrow5
              case aS => exact Nat.le_trans hmW hz5.size
              case aL => omega
              intro v3 w3 ho hb hgr hat
              obtain ⟨A3, cap3, e3⟩ := Kd.R_slice ho
              subst e3
              have hw3 : w3.heap[bg]? = some (.cells #[.string nm, dv, .slice A7 acc.length cap7] 26 (0, 0)) := (hb.block bg hm3).trans hg5
              have f1 : w3.cell? ⟨bg, 2, none⟩ = some (.slice A7 acc.length cap7) := by simp [World.cell?, hw3]
              have f2 : w3.frozen? ⟨bg, 2, none⟩ = false := by simp [World.frozen?, hw3]
              go_wp2
              have hS3 := hS5.store hR5 hb ho h0o hm1 hm2 hm3 hb0 hne hnr hbe2 hbe3
              simp only [List.length_append, List.length_singleton] at hS3
              exact ⟨rfl, .tuple #[], results_none rfl _ _ _, rfl, hS3.1, hS3.2.1, hl5, hd5, (hz5.z hn).trans hS3.2.2⟩
            exact AllReady.nil
          exact AllReady.nil
        exact AllReady.nil
      refine AllReady.cons rfl (fun K hK => ?_) ?_
      · go_simp
        refine hK _ _ ?_
        clear hK K
        refine wpAny_ready (rs := [1, 10]) (by kernel_rfl) (by simp) ?_
        refine AllReady.cons rfl (fun K hK => ?_) ?_
        · go_simp
          refine hK _ _ ?_
          clear hK K
          refine wpAny_ready (rs := [10]) (by kernel_rfl) (by simp) ?_
          refine AllReady.cons rfl (fun K hK => ?_) ?_
          · go_simp
            go_wp2_with (fail)
            refine wpAny_take (i := 11) (v := ?tvu1x10) rfl (by kernel_rfl) (by kernel_rfl) (by kernel_rfl) (fun _ _ _ h => h) (Or.inl ⟨by rfl, ?thu1x10⟩) ?tru1x10
            case thu1x10 => intro w; go_simp; with_reducible rfl
            refine wpAny_ready (rs := [12]) (by kernel_rfl) (by simp) ?_
            refine AllReady.cons rfl (fun K hK => ?_) ?_
            · go_simp
              refine hK _ _ ?_
              clear hK K
              have hS5 := hS.keep hz5 hxr hnr hm1 hmb hbe1
              refine wpAny_of_seq _ 13 _ _ _ (fun j => by rcases j with _ | _ | _ | j <;> simp <;> omega) (by kernel_rfl) ?_
              with_reducible refine gate_builtin (b := .append) (xs := #[.tmp 6, .tmp 17]) rfl ?_
              at_builtin
              refine Kd.R_append kSt (W := w5.drew) (w0 := w5) m rfl (.tmp 6) (.tmp 17) 24 47 (.agg #[(.string ⟨#[]⟩), (.slice none 0 0)]) 40 rfl Try.underlying24 info47r rfl (by decide) (by omega) (.slice A7 acc.length cap7) acc ⟨x, xs⟩ [.string x, .slice (some ⟨g5, 1, none⟩) xs.length xs.length] (fun _ => True) (fun k => W.heap.size ≤ k) rfl rfl ?aP (fun k hk => ⟨trivial, hfar k hk⟩) ?aF ?aO ?aB ?aS ?aL ?_
              case aP => exact hM
              case aB => exact below_drew (Below.refl _ _)
              case aF => exact (fun _ _ => trivial)
              case aO => exact Kd.R_drew hrow5
              case aS => exact Nat.le_trans hmW hz5.size
              case aL => omega
              intro v3 w3 ho hb hgr hat
              obtain ⟨A3, cap3, e3⟩ := Kd.R_slice ho
              subst e3
              have hw3 : w3.heap[bg]? = some (.cells #[.string nm, dv, .slice A7 acc.length cap7] 26 (0, 0)) := (hb.block bg hm3).trans hg5
              have f1 : w3.cell? ⟨bg, 2, none⟩ = some (.slice A7 acc.length cap7) := by simp [World.cell?, hw3]
              have f2 : w3.frozen? ⟨bg, 2, none⟩ = false := by simp [World.frozen?, hw3]
              go_wp2
              have hS3 := hS5.store hR5 hb ho h0o hm1 hm2 hm3 hb0 hne hnr hbe2 hbe3
              simp only [List.length_append, List.length_singleton] at hS3
              exact ⟨rfl, .tuple #[], results_none rfl _ _ _, rfl, hS3.1, hS3.2.1, hl5, hd5, (hz5.z hn).trans hS3.2.2⟩
            exact AllReady.nil
          exact AllReady.nil
        refine AllReady.cons rfl (fun K hK => ?_) ?_
        · go_simp
          go_wp2_with (fail)
          refine wpAny_take (i := 11) (v := ?tvu1x11) rfl (by kernel_rfl) (by kernel_rfl) (by kernel_rfl) (fun _ _ _ h => h) (Or.inl ⟨by rfl, ?thu1x11⟩) ?tru1x11
          case thu1x11 => intro w; go_simp; with_reducible rfl
          refine wpAny_ready (rs := [1, 12]) (by kernel_rfl) (by simp) ?_
          refine AllReady.cons rfl (fun K hK => ?_) ?_
          · go_simp
            refine hK _ _ ?_
            clear hK K
            refine wpAny_ready (rs := [12]) (by kernel_rfl) (by simp) ?_
            refine AllReady.cons rfl (fun K hK => ?_) ?_
            · go_simp
              refine hK _ _ ?_
              clear hK K
              have hS5 := hS.keep hz5 hxr hnr hm1 hmb hbe1
              refine wpAny_of_seq _ 13 _ _ _ (fun j => by rcases j with _ | _ | _ | j <;> simp <;> omega) (by kernel_rfl) ?_
              with_reducible refine gate_builtin (b := .append) (xs := #[.tmp 6, .tmp 17]) rfl ?_
              at_builtin
              refine Kd.R_append kSt (W := w5.drew) (w0 := w5) m rfl (.tmp 6) (.tmp 17) 24 47 (.agg #[(.string ⟨#[]⟩), (.slice none 0 0)]) 40 rfl Try.underlying24 info47r rfl (by decide) (by omega) (.slice A7 acc.length cap7) acc ⟨x, xs⟩ [.string x, .slice (some ⟨g5, 1, none⟩) xs.length xs.length] (fun _ => True) (fun k => W.heap.size ≤ k) rfl rfl ?aP (fun k hk => ⟨trivial, hfar k hk⟩) ?aF ?aO ?aB ?aS ?aL ?_
              case aP => exact hM
              case aB => exact below_drew (Below.refl _ _)
              case aF => exact (fun _ _ => trivial)
              case aO => exact Kd.R_drew hrow5
              case aS => exact Nat.le_trans hmW hz5.size
              case aL => omega
              intro v3 w3 ho hb hgr hat
              obtain ⟨A3, cap3, e3⟩ := Kd.R_slice ho
              subst e3
              have hw3 : w3.heap[bg]? = some (.cells #[.string nm, dv, .slice A7 acc.length cap7] 26 (0, 0)) := (hb.block bg hm3).trans hg5
              have f1 : w3.cell? ⟨bg, 2, none⟩ = some (.slice A7 acc.length cap7) := by simp [World.cell?, hw3]
              have f2 : w3.frozen? ⟨bg, 2, none⟩ = false := by simp [World.frozen?, hw3]
              go_wp2
              have hS3 := hS5.store hR5 hb ho h0o hm1 hm2 hm3 hb0 hne hnr hbe2 hbe3
              simp only [List.length_append, List.length_singleton] at hS3
              exact ⟨rfl, .tuple #[], results_none rfl _ _ _, rfl, hS3.1, hS3.2.1, hl5, hd5, (hz5.z hn).trans hS3.2.2⟩
            exact AllReady.nil
          refine AllReady.cons rfl (fun K hK => ?_) ?_
          · go_simp
            refine hK _ _ ?_
            clear hK K
            refine wpAny_ready (rs := [1]) (by kernel_rfl) (by simp) ?_
            refine AllReady.cons rfl (fun K hK => ?_) ?_
            · go_simp
              refine hK _ _ ?_
              clear hK K
              have hS5 := hS.keep hz5 hxr hnr hm1 hmb hbe1
              refine wpAny_of_seq _ 13 _ _ _ (fun j => by rcases j with _ | _ | _ | j <;> simp <;> omega) (by kernel_rfl) ?_
              with_reducible refine gate_builtin (b := .append) (xs := #[.tmp 6, .tmp 17]) rfl ?_
              at_builtin
              refine Kd.R_append kSt (W := w5.drew) (w0 := w5) m rfl (.tmp 6) (.tmp 17) 24 47 (.agg #[(.string ⟨#[]⟩), (.slice none 0 0)]) 40 rfl Try.underlying24 info47r rfl (by decide) (by omega) (.slice A7 acc.length cap7) acc ⟨x, xs⟩ [.string x, .slice (some ⟨g5, 1, none⟩) xs.length xs.length] (fun _ => True) (fun k => W.heap.size ≤ k) rfl rfl ?aP (fun k hk => ⟨trivial, hfar k hk⟩) ?aF ?aO ?aB ?aS ?aL ?_
              case aP => exact hM
              case aB => exact below_drew (Below.refl _ _)
              case aF => exact (fun _ _ => trivial)
              case aO => exact Kd.R_drew hrow5
              case aS => exact Nat.le_trans hmW hz5.size
              case aL => omega
              intro v3 w3 ho hb hgr hat
              obtain ⟨A3, cap3, e3⟩ := Kd.R_slice ho
              subst e3
              have hw3 : w3.heap[bg]? = some (.cells #[.string nm, dv, .slice A7 acc.length cap7] 26 (0, 0)) := (hb.block bg hm3).trans hg5
              have f1 : w3.cell? ⟨bg, 2, none⟩ = some (.slice A7 acc.length cap7) := by simp [World.cell?, hw3]
              have f2 : w3.frozen? ⟨bg, 2, none⟩ = false := by simp [World.frozen?, hw3]
              go_wp2
              have hS3 := hS5.store hR5 hb ho h0o hm1 hm2 hm3 hb0 hne hnr hbe2 hbe3
              simp only [List.length_append, List.length_singleton] at hS3
              exact ⟨rfl, .tuple #[], results_none rfl _ _ _, rfl, hS3.1, hS3.2.1, hl5, hd5, (hz5.z hn).trans hS3.2.2⟩
            exact AllReady.nil
          exact AllReady.nil
        exact AllReady.nil
      refine AllReady.cons rfl (fun K hK => ?_) ?_
      · go_simp
        go_wp2_with (fail)
        refine wpAny_ready (rs := [1, 4]) (by kernel_rfl) (by simp) ?_
        refine AllReady.cons rfl (fun K hK => ?_) ?_
        · go_simp
          refine hK _ _ ?_
          clear hK K
          refine wpAny_ready (rs := [4]) (by kernel_rfl) (by simp) ?_
          refine AllReady.cons rfl (fun K hK => ?_) ?_
          · go_simp
            refine hK _ _ ?_
            clear hK K
            refine wpAny_take (i := 11) (v := ?tvu1x12) rfl (by kernel_rfl) (by kernel_rfl) (by kernel_rfl) (fun _ _ _ h => h) (Or.inl ⟨by rfl, ?thu1x12⟩) ?tru1x12
            case thu1x12 => intro w; go_simp; with_reducible rfl
            refine wpAny_ready (rs := [12]) (by kernel_rfl) (by simp) ?_
            refine AllReady.cons rfl (fun K hK => ?_) ?_
            · go_simp
              refine hK _ _ ?_
              clear hK K
              have hS5 := hS.keep hz5 hxr hnr hm1 hmb hbe1
              refine wpAny_of_seq _ 13 _ _ _ (fun j => by rcases j with _ | _ | _ | j <;> simp <;> omega) (by kernel_rfl) ?_
              with_reducible refine gate_builtin (b := .append) (xs := #[.tmp 6, .tmp 17]) rfl ?_
              at_builtin
              refine Kd.R_append kSt (W := w5.drew) (w0 := w5) m rfl (.tmp 6) (.tmp 17) 24 47 (.agg #[(.string ⟨#[]⟩), (.slice none 0 0)]) 40 rfl Try.underlying24 info47r rfl (by decide) (by omega) (.slice A7 acc.length cap7) acc ⟨x, xs⟩ [.string x, .slice (some ⟨g5, 1, none⟩) xs.length xs.length] (fun _ => True) (fun k => W.heap.size ≤ k) rfl rfl ?aP (fun k hk => ⟨trivial, hfar k hk⟩) ?aF ?aO ?aB ?aS ?aL ?_
              case aP => exact hM
              case aB => exact below_drew (Below.refl _ _)
              case aF => exact (fun _ _ => trivial)
              case aO => exact Kd.R_drew hrow5
              case aS => exact Nat.le_trans hmW hz5.size
              case aL => omega
              intro v3 w3 ho hb hgr hat
              obtain ⟨A3, cap3, e3⟩ := Kd.R_slice ho
              subst e3
              have hw3 : w3.heap[bg]? = some (.cells #[.string nm, dv, .slice A7 acc.length cap7] 26 (0, 0)) := (hb.block bg hm3).trans hg5
              have f1 : w3.cell? ⟨bg, 2, none⟩ = some (.slice A7 acc.length cap7) := by simp [World.cell?, hw3]
              have f2 : w3.frozen? ⟨bg, 2, none⟩ = false := by simp [World.frozen?, hw3]
              go_wp2
              have hS3 := hS5.store hR5 hb ho h0o hm1 hm2 hm3 hb0 hne hnr hbe2 hbe3
              simp only [List.length_append, List.length_singleton] at hS3
              exact ⟨rfl, .tuple #[], results_none rfl _ _ _, rfl, hS3.1, hS3.2.1, hl5, hd5, (hz5.z hn).trans hS3.2.2⟩
            exact AllReady.nil
          exact AllReady.nil
        refine AllReady.cons rfl (fun K hK => ?_) ?_
        · go_simp
          refine hK _ _ ?_
          clear hK K
          refine wpAny_take (i := 11) (v := ?tvu1x13) rfl (by kernel_rfl) (by kernel_rfl) (by kernel_rfl) (fun _ _ _ h => h) (Or.inl ⟨by rfl, ?thu1x13⟩) ?tru1x13
          case thu1x13 => intro w; go_simp; with_reducible rfl
          refine wpAny_ready (rs := [1, 12]) (by kernel_rfl) (by simp) ?_
          refine AllReady.cons rfl (fun K hK => ?_) ?_
          · go_simp
            refine hK _ _ ?_
            clear hK K
            refine wpAny_ready (rs := [12]) (by kernel_rfl) (by simp) ?_
            refine AllReady.cons rfl (fun K hK => ?_) ?_
            · go_simp
              refine hK _ _ ?_
              clear hK K
              have hS5 := hS.keep hz5 hxr hnr hm1 hmb hbe1
              refine wpAny_of_seq _ 13 _ _ _ (fun j => by rcases j with _ | _ | _ | j <;> simp <;> omega) (by kernel_rfl) ?_
              with_reducible refine gate_builtin (b := .append) (xs := #[.tmp 6, .tmp 17]) rfl ?_
              at_builtin
              refine Kd.R_append kSt (W := w5.drew) (w0 := w5) m rfl (.tmp 6) (.tmp 17) 24 47 (.agg #[(.string ⟨#[]⟩), (.slice none 0 0)]) 40 rfl Try.underlying24 info47r rfl (by decide) (by omega) (.slice A7 acc.length cap7) acc ⟨x, xs⟩ [.string x, .slice (some ⟨g5, 1, none⟩) xs.length xs.length] (fun _ => True) (fun k => W.heap.size ≤ k) rfl rfl ?aP (fun k hk => ⟨trivial, hfar k hk⟩) ?aF ?aO ?aB ?aS ?aL ?_
              case aP => exact hM
              case aB => exact below_drew (Below.refl _ _)
              case aF => exact (fun _ _ => trivial)
              case aO => exact Kd.R_drew hrow5
              case aS => exact Nat.le_trans hmW hz5.size
              case aL => omega
              intro v3 w3 ho hb hgr hat
              obtain ⟨A3, cap3, e3⟩ := Kd.R_slice ho
              subst e3
              have hw3 : w3.heap[bg]? = some (.cells #[.string nm, dv, .slice A7 acc.length cap7] 26 (0, 0)) := (hb.block bg hm3).trans hg5
              have f1 : w3.cell? ⟨bg, 2, none⟩ = some (.slice A7 acc.length cap7) := by simp [World.cell?, hw3]
              have f2 : w3.frozen? ⟨bg, 2, none⟩ = false := by simp [World.frozen?, hw3]
              go_wp2
              have hS3 := hS5.store hR5 hb ho h0o hm1 hm2 hm3 hb0 hne hnr hbe2 hbe3
              simp only [List.length_append, List.length_singleton] at hS3
              exact ⟨rfl, .tuple #[], results_none rfl _ _ _, rfl, hS3.1, hS3.2.1, hl5, hd5, (hz5.z hn).trans hS3.2.2⟩
            exact AllReady.nil
          refine AllReady.cons rfl (fun K hK => ?_) ?_
          · go_simp
            refine hK _ _ ?_
            clear hK K
            refine wpAny_ready (rs := [1]) (by kernel_rfl) (by simp) ?_
            refine AllReady.cons rfl (fun K hK => ?_) ?_
            · go_simp
              refine hK _ _ ?_
              clear hK K
              have hS5 := hS.keep hz5 hxr hnr hm1 hmb hbe1
              refine wpAny_of_seq _ 13 _ _ _ (fun j => by rcases j with _ | _ | _ | j <;> simp <;> omega) (by kernel_rfl) ?_
              with_reducible refine gate_builtin (b := .append) (xs := #[.tmp 6, .tmp 17]) rfl ?_
              at_builtin
              refine Kd.R_append kSt (W := w5.drew) (w0 := w5) m rfl (.tmp 6) (.tmp 17) 24 47 (.agg #[(.string ⟨#[]⟩), (.slice none 0 0)]) 40 rfl Try.underlying24 info47r rfl (by decide) (by omega) (.slice A7 acc.length cap7) acc ⟨x, xs⟩ [.string x, .slice (some ⟨g5, 1, none⟩) xs.length xs.length] (fun _ => True) (fun k => W.heap.size ≤ k) rfl rfl ?aP (fun k hk => ⟨trivial, hfar k hk⟩) ?aF ?aO ?aB ?aS ?aL ?_
              case aP => exact hM
              case aB => exact below_drew (Below.refl _ _)
              case aF => exact (fun _ _ => trivial)
              case aO => exact Kd.R_drew hrow5
              case aS => exact Nat.le_trans hmW hz5.size
              case aL => omega
              intro v3 w3 ho hb hgr hat
              obtain ⟨A3, cap3, e3⟩ := Kd.R_slice ho
              subst e3
              have hw3 : w3.heap[bg]? = some (.cells #[.string nm, dv, .slice A7 acc.length cap7] 26 (0, 0)) := (hb.block bg hm3).trans hg5
              have f1 : w3.cell? ⟨bg, 2, none⟩ = some (.slice A7 acc.length cap7) := by simp [World.cell?, hw3]
              have f2 : w3.frozen? ⟨bg, 2, none⟩ = false := by simp [World.frozen?, hw3]
              go_wp2
              have hS3 := hS5.store hR5 hb ho h0o hm1 hm2 hm3 hb0 hne hnr hbe2 hbe3
              simp only [List.length_append, List.length_singleton] at hS3
              exact ⟨rfl, .tuple #[], results_none rfl _ _ _, rfl, hS3.1, hS3.2.1, hl5, hd5, (hz5.z hn).trans hS3.2.2⟩
            exact AllReady.nil
          exact AllReady.nil
        exact AllReady.nil
      exact AllReady.nil
end Go.Proofs.Ytdkkgeibifpgiaa.Rc
