/- The recipe's reader: strings, a list of texts. -/
import Derived.Test.YtdkkgeibifpgiaaRcStr
import Derived.Test.YtdkkgeibifpgiaaRcList
import Derived.Test.YtdkkgeibifpgiaaRowS
import Derived.Deep.RegionWith
import Derived.StillTail
namespace Go.Proofs.Ytdkkgeibifpgiaa.Rc
open Go.RowKit Go.Lib Go.Proofs.YtdkkgeibifpgiaaW.PrintWords Go.Proofs.YtdkkgeibifpgiaaW.PrintLast Go.Proofs.YtdkkgeibifpgiaaW.PrintMore Go.Proofs.Ytdkkgeibifpgiaa.Bytes Go.Proofs.Ytdkkgeibifpgiaa.Q
set_option linter.unusedVariables false
set_option linter.unusedSimpArgs false

theorem strBody_prog : ∀ (n : Nat) (s : List UInt8), s.length ≤ n → ∀ x r, strBody s = .ok x r → r.length < s.length
  | _, [], _, x, r, h => by cases h
  | 0, y :: s, hn, x, r, h => by simp at hn
  | n + 1, y :: s, hn, x, r, h => by
    simp only [List.length_cons] at hn
    rw [strBody_cons] at h
    split at h
    · cases h; simp
    · split at h
      · cases h
      · split at h
        · cases s with
          | nil => cases h
          | cons z s' =>
            simp only at h
            split at h
            · cases h
            · cases hb : strBody s' with
              | bad l => rw [hb] at h; cases h
              | ok x2 r2 =>
                rw [hb] at h
                cases h
                have := strBody_prog n s' (by simp at hn; omega) _ _ hb
                simp
                omega
        · cases hb : strBody s with
          | bad l => rw [hb] at h; cases h
          | ok x2 r2 =>
            rw [hb] at h
            cases h
            have := strBody_prog n s (by omega) _ _ hb
            simp
            omega
/-- A text between quotes, as a string. -/
def strB (s : List UInt8) : Res ByteArray := (strL s).map (fun l => (⟨l.toArray⟩ : ByteArray))
theorem strB_prog : ∀ s x r, strB s = .ok x r → r.length < s.length := by
  intro s x r h
  unfold strB strL at h
  cases hw : wordL [34] s with
  | bad l => rw [hw] at h; cases h
  | ok u r0 =>
    rw [hw] at h
    have hs := wordL_len _ _ _ hw
    cases hb : strBody r0 with
    | bad l => simp only [Res.bind, hb] at h; cases h
    | ok x2 r2 =>
      simp only [Res.bind, hb] at h
      cases h
      have := strBody_prog _ r0 (Nat.le_refl _) _ _ hb
      rw [hs]
      simp
      omega
/-- The closure's variables: the reader's own (bx), the list so far (bo); the list's row lies at m or behind. -/
structure GotS (m rb bx bo : Nat) (xs : List ByteArray) (W : World) : Prop where
  r : Boxed W bx 48 (.pointer (some ⟨rb, 0, none⟩))
  out : ∃ v, Boxed W bo 23 v ∧ Kd.R Kd.string 9 W m (fun _ => True) v xs
theorem GotS.keep {m rb bx bo : Nat} {xs : List ByteArray} {A B : World} (h : GotS m rb bx bo xs A) (k : Rf rb A B) (h1 : bx ≠ rb) (h2 : bo ≠ rb) (h3 : rb < m) : GotS m rb bx bo xs B := by
  obtain ⟨v, hb, hr⟩ := h.out
  refine ⟨(k.block bx h.r.lt h1).trans h.r, v, (k.block bo hb.lt h2).trans hb, ?_⟩
  exact Kd.R_mono (Kd.R_move (Kd.R_bound hr) (fun q hq => k.block q hq.2.2.1 (by have := hq.2.1; omega))) (fun _ _ => trivial)
/-- Behind the append and the store. -/
theorem GotS.store {n0 m rb bx bo p : Nat} {T : ByteArray} {xs ys : List ByteArray} {W2 W1 : World} {v v1 : Value} (hS : GotS m rb bx bo xs W2) (hv : Boxed W2 bo 23 v) (hR : RdAt W2 rb T p) (hb : Below m W2 W1) (hr : Kd.R Kd.string 9 W1 m (fun _ => True) v1 ys)
    (h0o : n0 ≤ bo) (hm1 : rb < m) (hm2 : bx < m) (hm3 : bo < m) (hne : bx ≠ bo) (hnr : bo ≠ rb) :
    GotS m rb bx bo ys (W1.setCell ⟨bo, 0, none⟩ v1) ∧ RdAt (W1.setCell ⟨bo, 0, none⟩ v1) rb T p ∧ Rz n0 rb (fun _ => True) W2 (W1.setCell ⟨bo, 0, none⟩ v1) := by
  have hv2 : Boxed W1 bo 23 v := (hb.block bo hm3).trans hv
  refine ⟨⟨?_, v1, hv2.set v1, ?_⟩, ?_, ?_⟩
  · exact (Below.heap_setCell _ _ _ bx hne).trans ((hb.block bx hm2).trans hS.r)
  · exact Kd.R_mono (Kd.R_far (Kd.R_bound hr) (fun k hk => by have := hk.2.1; show k ≠ bo; omega) v1) (fun _ _ => trivial)
  · exact (Below.heap_setCell _ _ _ rb (Ne.symm hnr)).trans ((hb.block rb hm1).trans hR)
  · refine Rz.trans (B := W1) ⟨hb.os, hb.tape, hb.output, hb.size, fun k hk _ => hb.block k (by omega), fun _ => trivial⟩ ⟨rfl, rfl, rfl, (KeepsWalks.setCell W1 _ v1).size, fun k hk _ => Below.heap_setCell _ _ _ k (by show k ≠ bo; omega), fun _ => trivial⟩
set_option maxRecDepth 100000 in
set_option maxHeartbeats 4000000 in
theorem one_calls (n0 m rb bx bo : Nat) (T : ByteArray) (hT : T.size ≤ 1099511627776) (h0o : n0 ≤ bo) (hm1 : rb < m) (hm2 : bx < m) (hm3 : bo < m) (hne : bx ≠ bo) (hxr : bx ≠ rb) (hnr : bo ≠ rb) (acc : List ByteArray) (p : Nat) (W : World) (hS : GotS m rb bx bo acc W) (hR : RdAt W rb T p) (hp : p ≤ T.size) (hap : acc.length ≤ p) (hn : n0 ≤ W.heap.size) (hmW : m ≤ W.heap.size) :
    Calls Try.prog 38 #[.pointer (some ⟨bo, 0, none⟩), .pointer (some ⟨bx, 0, none⟩)] W fun e W' => AfterL n0 rb (fun _ => True) T (fun x W2 => GotS m rb bx bo (acc ++ [x]) W2) W (strB ((bs T).drop p)) e W' := by
  have hmx : Try.prog.follows .mixedOrders = true := by kernel_rfl
  obtain ⟨v, hbo, hrow⟩ := hS.out
  obtain ⟨A0, cap0, e0⟩ := Kd.R_slice hrow
  have c1 := hbo.cell
  rw [e0] at c1
  have c2 := hS.r.cell
  have kd : Rf rb W W.drew := Rf.of_below (below_drew (Below.refl _ _))
  unfold strB
  cases hs : strL ((bs T).drop p) with
  | bad l =>
    go_enter Try.func38, Try.ntmps38
    go_wp2
    refine wp_region_any (by kernel_rfl) ?_
    try (change wpAny _ _ _ _ _ _ _ (World.drew _))
    refine wpAny_ready (rs := [0, 1]) (by kernel_rfl) (by simp) ?_
    refine AllReady.cons rfl (fun K hK => ?_) ?_
    · go_simp
      refine hK _ _ ?_
      clear hK K
      refine wpAny_ready (rs := [1]) (by kernel_rfl) (by simp) ?_
      refine AllReady.cons rfl (fun K hK => ?_) ?_
      · go_simp
        refine hK _ _ ?_
        clear hK K
        refine wpAny_ready (rs := [2]) (by kernel_rfl) (by simp) ?_
        refine AllReady.cons rfl (fun K hK => ?_) ?_
        · go_simp
          go_wp2_with (go_at_call 18; refine (str_calls rb T p _ (hR.below (below_drew (Below.refl _ _))) hp (by omega)).mono ?_; intro e w2 hA; rw [hs] at hA; obtain ⟨g, rfl, hA2⟩ := hA)
          exact ⟨rfl, ((show Broke rb _ (T.size - l) _ w2 from ⟨g, rfl, hA2⟩).after kd).z hn⟩
        exact AllReady.nil
      exact AllReady.nil
    refine AllReady.cons rfl (fun K hK => ?_) ?_
    · go_simp
      refine hK _ _ ?_
      clear hK K
      refine wpAny_ready (rs := [0, 2]) (by kernel_rfl) (by simp) ?_
      refine AllReady.cons rfl (fun K hK => ?_) ?_
      · go_simp
        refine hK _ _ ?_
        clear hK K
        refine wpAny_ready (rs := [2]) (by kernel_rfl) (by simp) ?_
        refine AllReady.cons rfl (fun K hK => ?_) ?_
        · go_simp
          go_wp2_with (go_at_call 18; refine (str_calls rb T p _ (hR.below (below_drew (Below.refl _ _))) hp (by omega)).mono ?_; intro e w2 hA; rw [hs] at hA; obtain ⟨g, rfl, hA2⟩ := hA)
          exact ⟨rfl, ((show Broke rb _ (T.size - l) _ w2 from ⟨g, rfl, hA2⟩).after kd).z hn⟩
        exact AllReady.nil
      refine AllReady.cons rfl (fun K hK => ?_) ?_
      · go_simp
        go_wp2_with (go_at_call 18; refine (str_calls rb T p _ (hR.below (below_drew (Below.refl _ _))) hp (by omega)).mono ?_; intro e w2 hA; rw [hs] at hA; obtain ⟨g, rfl, hA2⟩ := hA)
        exact ⟨rfl, ((show Broke rb _ (T.size - l) _ w2 from ⟨g, rfl, hA2⟩).after kd).z hn⟩
      exact AllReady.nil
    exact AllReady.nil
  | ok l rest =>
    go_enter Try.func38, Try.ntmps38
    go_wp2
    refine wp_region_any (by kernel_rfl) ?_
    try (change wpAny _ _ _ _ _ _ _ (World.drew _))
    refine wpAny_ready (rs := [0, 1]) (by kernel_rfl) (by simp) ?_
    refine AllReady.cons rfl (fun K hK => ?_) ?_
    · go_simp
      refine hK _ _ ?_
      clear hK K
      refine wpAny_ready (rs := [1]) (by kernel_rfl) (by simp) ?_
      refine AllReady.cons rfl (fun K hK => ?_) ?_
      · go_simp
        refine hK _ _ ?_
        clear hK K
        refine wpAny_ready (rs := [2]) (by kernel_rfl) (by simp) ?_
        refine AllReady.cons rfl (fun K hK => ?_) ?_
        · go_simp
          go_wp2_with (go_at_call 18; refine (str_calls rb T p _ (hR.below (below_drew (Below.refl _ _))) hp (by omega)).mono ?_; intro e w2 hA; rw [hs] at hA; obtain ⟨rfl, hR2, hl2, hd2, hf2⟩ := hA; have hf3 := kd.trans hf2; have hbo2 : Boxed w2 bo 23 v := (hf3.block bo hbo.lt hnr).trans hbo; have c1b := hbo2.cell; rw [e0] at c1b; have c1c : ∀ o, (w2.alloc o).cell? ⟨bo, 0, none⟩ = some (.slice A0 acc.length cap0) := fun o => by rw [(hbo2.alloc o).cell, e0])
          have hS2 := hS.keep hf3 hxr hnr hm1
          have hrow2 : Kd.R Kd.string 9 w2 m (fun _ => True) v acc := by
            obtain ⟨v', hb', hr'⟩ := hS2.out
            have : v' = v := by simpa [Boxed, hbo2] using hb'.symm.trans hbo2
            exact this ▸ hr'
          refine wpAny_of_seq _ 3 _ _ _ (fun j => by rcases j with _ | _ | _ | j <;> simp <;> omega) (by kernel_rfl) ?_
          go_wp2_with ((with_reducible refine gate_builtin (b := .append) (xs := #[.tmp 2, .tmp 5]) rfl ?_); at_builtin; refine Kd.R_append Kd.string (w0 := w2) m rfl (.tmp 2) (.tmp 5) 23 9 (.string ⟨#[]⟩) 16 rfl Try.underlying23 info9 rfl (by decide) (by omega) (.slice A0 acc.length cap0) acc (⟨l.toArray⟩ : ByteArray) [.string (⟨l.toArray⟩ : ByteArray)] (fun _ => True) (fun _ => False) rfl rfl ?aP (fun _ hk => hk.elim) ?aF ?aO ?aB ?aS ?aL ?_; (case aP => exact rfl); (case aB => exact Below.refl _ _); (case aF => exact (fun _ _ => trivial)); (case aO => exact e0 ▸ hrow2); (case aS => exact Nat.le_trans hmW hf3.size); (case aL => omega); intro v3 w3 ho hb hg hat; obtain ⟨A3, cap3, e3⟩ := Kd.R_slice ho; subst e3; have hb3 := Boxed.cell (show Boxed w3 bo 23 v from (hb.block bo hm3).trans hbo2); have hb4 := Boxed.frozen (show Boxed w3 bo 23 v from (hb.block bo hm3).trans hbo2))
          have hS3 := hS2.store hbo2 hR2 hb ho h0o hm1 hm2 hm3 hne hnr
          simp only [List.length_append, List.length_singleton] at hS3
          exact ⟨rfl, .tuple #[], results_none rfl _ _ _, rfl, hS3.1, hS3.2.1, hl2, hd2, (hf3.z hn).trans hS3.2.2⟩
        exact AllReady.nil
      exact AllReady.nil
    refine AllReady.cons rfl (fun K hK => ?_) ?_
    · go_simp
      refine hK _ _ ?_
      clear hK K
      refine wpAny_ready (rs := [0, 2]) (by kernel_rfl) (by simp) ?_
      refine AllReady.cons rfl (fun K hK => ?_) ?_
      · go_simp
        refine hK _ _ ?_
        clear hK K
        refine wpAny_ready (rs := [2]) (by kernel_rfl) (by simp) ?_
        refine AllReady.cons rfl (fun K hK => ?_) ?_
        · go_simp
          go_wp2_with (go_at_call 18; refine (str_calls rb T p _ (hR.below (below_drew (Below.refl _ _))) hp (by omega)).mono ?_; intro e w2 hA; rw [hs] at hA; obtain ⟨rfl, hR2, hl2, hd2, hf2⟩ := hA; have hf3 := kd.trans hf2; have hbo2 : Boxed w2 bo 23 v := (hf3.block bo hbo.lt hnr).trans hbo; have c1b := hbo2.cell; rw [e0] at c1b; have c1c : ∀ o, (w2.alloc o).cell? ⟨bo, 0, none⟩ = some (.slice A0 acc.length cap0) := fun o => by rw [(hbo2.alloc o).cell, e0])
          have hS2 := hS.keep hf3 hxr hnr hm1
          have hrow2 : Kd.R Kd.string 9 w2 m (fun _ => True) v acc := by
            obtain ⟨v', hb', hr'⟩ := hS2.out
            have : v' = v := by simpa [Boxed, hbo2] using hb'.symm.trans hbo2
            exact this ▸ hr'
          refine wpAny_of_seq _ 3 _ _ _ (fun j => by rcases j with _ | _ | _ | j <;> simp <;> omega) (by kernel_rfl) ?_
          go_wp2_with ((with_reducible refine gate_builtin (b := .append) (xs := #[.tmp 2, .tmp 5]) rfl ?_); at_builtin; refine Kd.R_append Kd.string (w0 := w2) m rfl (.tmp 2) (.tmp 5) 23 9 (.string ⟨#[]⟩) 16 rfl Try.underlying23 info9 rfl (by decide) (by omega) (.slice A0 acc.length cap0) acc (⟨l.toArray⟩ : ByteArray) [.string (⟨l.toArray⟩ : ByteArray)] (fun _ => True) (fun _ => False) rfl rfl ?aP (fun _ hk => hk.elim) ?aF ?aO ?aB ?aS ?aL ?_; (case aP => exact rfl); (case aB => exact Below.refl _ _); (case aF => exact (fun _ _ => trivial)); (case aO => exact e0 ▸ hrow2); (case aS => exact Nat.le_trans hmW hf3.size); (case aL => omega); intro v3 w3 ho hb hg hat; obtain ⟨A3, cap3, e3⟩ := Kd.R_slice ho; subst e3; have hb3 := Boxed.cell (show Boxed w3 bo 23 v from (hb.block bo hm3).trans hbo2); have hb4 := Boxed.frozen (show Boxed w3 bo 23 v from (hb.block bo hm3).trans hbo2))
          have hS3 := hS2.store hbo2 hR2 hb ho h0o hm1 hm2 hm3 hne hnr
          simp only [List.length_append, List.length_singleton] at hS3
          exact ⟨rfl, .tuple #[], results_none rfl _ _ _, rfl, hS3.1, hS3.2.1, hl2, hd2, (hf3.z hn).trans hS3.2.2⟩
        exact AllReady.nil
      refine AllReady.cons rfl (fun K hK => ?_) ?_
      · go_simp
        go_wp2_with (go_at_call 18; refine (str_calls rb T p _ (hR.below (below_drew (Below.refl _ _))) hp (by omega)).mono ?_; intro e w2 hA; rw [hs] at hA; obtain ⟨rfl, hR2, hl2, hd2, hf2⟩ := hA; have hf3 := kd.trans hf2; have hbo2 : Boxed w2 bo 23 v := (hf3.block bo hbo.lt hnr).trans hbo; have c1b := hbo2.cell; rw [e0] at c1b; have c1c : ∀ o, (w2.alloc o).cell? ⟨bo, 0, none⟩ = some (.slice A0 acc.length cap0) := fun o => by rw [(hbo2.alloc o).cell, e0])
        refine wpAny_ready (rs := [0, 3]) (by kernel_rfl) (by simp) ?_
        refine AllReady.cons rfl (fun K hK => ?_) ?_
        · go_simp
          refine hK _ _ ?_
          clear hK K
          have hS2 := hS.keep hf3 hxr hnr hm1
          have hrow2 : Kd.R Kd.string 9 w2 m (fun _ => True) v acc := by
            obtain ⟨v', hb', hr'⟩ := hS2.out
            have : v' = v := by simpa [Boxed, hbo2] using hb'.symm.trans hbo2
            exact this ▸ hr'
          refine wpAny_of_seq _ 3 _ _ _ (fun j => by rcases j with _ | _ | _ | j <;> simp <;> omega) (by kernel_rfl) ?_
          go_wp2_with ((with_reducible refine gate_builtin (b := .append) (xs := #[.tmp 2, .tmp 5]) rfl ?_); at_builtin; refine Kd.R_append Kd.string (w0 := w2) m rfl (.tmp 2) (.tmp 5) 23 9 (.string ⟨#[]⟩) 16 rfl Try.underlying23 info9 rfl (by decide) (by omega) (.slice A0 acc.length cap0) acc (⟨l.toArray⟩ : ByteArray) [.string (⟨l.toArray⟩ : ByteArray)] (fun _ => True) (fun _ => False) rfl rfl ?aP (fun _ hk => hk.elim) ?aF ?aO ?aB ?aS ?aL ?_; (case aP => exact rfl); (case aB => exact Below.refl _ _); (case aF => exact (fun _ _ => trivial)); (case aO => exact e0 ▸ hrow2); (case aS => exact Nat.le_trans hmW hf3.size); (case aL => omega); intro v3 w3 ho hb hg hat; obtain ⟨A3, cap3, e3⟩ := Kd.R_slice ho; subst e3; have hb3 := Boxed.cell (show Boxed w3 bo 23 v from (hb.block bo hm3).trans hbo2); have hb4 := Boxed.frozen (show Boxed w3 bo 23 v from (hb.block bo hm3).trans hbo2))
          have hS3 := hS2.store hbo2 hR2 hb ho h0o hm1 hm2 hm3 hne hnr
          simp only [List.length_append, List.length_singleton] at hS3
          exact ⟨rfl, .tuple #[], results_none rfl _ _ _, rfl, hS3.1, hS3.2.1, hl2, hd2, (hf3.z hn).trans hS3.2.2⟩
        refine AllReady.cons rfl (fun K hK => ?_) ?_
        · go_simp
          refine hK _ _ ?_
          clear hK K
          refine wpAny_ready (rs := [0]) (by kernel_rfl) (by simp) ?_
          refine AllReady.cons rfl (fun K hK => ?_) ?_
          · go_simp
            refine hK _ _ ?_
            clear hK K
            have hS2 := hS.keep hf3 hxr hnr hm1
            have hrow2 : Kd.R Kd.string 9 w2 m (fun _ => True) v acc := by
              obtain ⟨v', hb', hr'⟩ := hS2.out
              have : v' = v := by simpa [Boxed, hbo2] using hb'.symm.trans hbo2
              exact this ▸ hr'
            refine wpAny_of_seq _ 4 _ _ _ (fun j => by rcases j with _ | _ | j <;> simp <;> omega) (by kernel_rfl) ?_
            go_wp2_with ((with_reducible refine gate_builtin (b := .append) (xs := #[.tmp 2, .tmp 5]) rfl ?_); at_builtin; refine Kd.R_append Kd.string (w0 := w2) m rfl (.tmp 2) (.tmp 5) 23 9 (.string ⟨#[]⟩) 16 rfl Try.underlying23 info9 rfl (by decide) (by omega) (.slice A0 acc.length cap0) acc (⟨l.toArray⟩ : ByteArray) [.string (⟨l.toArray⟩ : ByteArray)] (fun _ => True) (fun _ => False) rfl rfl ?aP (fun _ hk => hk.elim) ?aF ?aO ?aB ?aS ?aL ?_; (case aP => exact rfl); (case aB => exact Below.refl _ _); (case aF => exact (fun _ _ => trivial)); (case aO => exact e0 ▸ hrow2); (case aS => exact Nat.le_trans hmW hf3.size); (case aL => omega); intro v3 w3 ho hb hg hat; obtain ⟨A3, cap3, e3⟩ := Kd.R_slice ho; subst e3; have hb3 := Boxed.cell (show Boxed w3 bo 23 v from (hb.block bo hm3).trans hbo2); have hb4 := Boxed.frozen (show Boxed w3 bo 23 v from (hb.block bo hm3).trans hbo2))
            have hS3 := hS2.store hbo2 hR2 hb ho h0o hm1 hm2 hm3 hne hnr
            simp only [List.length_append, List.length_singleton] at hS3
            exact ⟨rfl, .tuple #[], results_none rfl _ _ _, rfl, hS3.1, hS3.2.1, hl2, hd2, (hf3.z hn).trans hS3.2.2⟩
          exact AllReady.nil
        exact AllReady.nil
      exact AllReady.nil
    exact AllReady.nil
/-- What strings leaves. -/
def AfterV (rb : Nat) (T : ByteArray) (W : World) (r : Res (List ByteArray)) (e : Ending) (W' : World) : Prop :=
  match r with
  | .ok xs rest => ∃ v, e = .returned v ∧ Kd.R Kd.string 9 W' W.heap.size (fun _ => True) v xs ∧ RdAt W' rb T (T.size - rest.length) ∧ rest.length ≤ T.size ∧ (bs T).drop (T.size - rest.length) = rest ∧ Rf rb W W'
  | .bad l => Broke rb W (T.size - l) e W'
theorem Rz.f {rb : Nat} {A B : World} (h : Rz A.heap.size rb (fun _ => True) A B) : Rf rb A B := ⟨h.os, h.tape, h.output, h.size, h.block⟩
theorem BrokeZ.f {rb p : Nat} {W W' : World} {e : Ending} (h : BrokeZ W.heap.size rb (fun _ => True) W p e W') : Broke rb W p e W' := by
  obtain ⟨g, h1, h2, h3, h4⟩ := h
  exact ⟨g, h1, h2, h3, h4.f⟩
set_option maxRecDepth 100000 in
set_option maxHeartbeats 4000000 in
theorem strs_calls (rb : Nat) (T : ByteArray) (hT : T.size ≤ 1099511627776) (o c : UInt8) (least : Nat) (hle : least ≤ 1) (a : Nat) (w : World) (hR : RdAt w rb T a) (ha : a ≤ T.size) :
    Calls Try.prog 19 #[.pointer (some ⟨rb, 0, none⟩), .string (⟨#[o]⟩ : ByteArray), .string (⟨#[c]⟩ : ByteArray), .int .i64 (least : Int)] w fun e w' =>
      AfterV rb T w ((wordL [o] ((bs T).drop a)).bind fun _ r => listL strB c (decide (least = 0)) r) e w' := by
  have hrb := hR.lt
  have hb1 : Boxed ((w.alloc (.cells #[.pointer (some ⟨rb, 0, none⟩)] 48)).alloc (.cells #[.slice none 0 0] 23)) (w.heap.size + 1) 23 (.slice none 0 0) := by
    have e : (w.alloc (.cells #[.pointer (some ⟨rb, 0, none⟩)] 48)).heap.size = w.heap.size + 1 := Array.size_push _
    have := Boxed.new (w.alloc (.cells #[.pointer (some ⟨rb, 0, none⟩)] 48)) 23 (.slice none 0 0)
    rw [e] at this
    exact this
  have start : GotS (w.heap.size + 1 + 1) rb w.heap.size (w.heap.size + 1) [] ((w.alloc (.cells #[.pointer (some ⟨rb, 0, none⟩)] 48)).alloc (.cells #[.slice none 0 0] 23)) :=
    ⟨(Boxed.new w 48 _).alloc _, _, hb1, Kd.R_nil _ _ _ _ _⟩
  have hn0 : w.heap.size ≤ ((w.alloc (.cells #[.pointer (some ⟨rb, 0, none⟩)] 48)).alloc (.cells #[.slice none 0 0] 23)).heap.size := Nat.le_trans (Nat.le_succ _) (Nat.le_of_lt hb1.lt)
  have kz : Rz w.heap.size rb (fun _ => True) w ((w.alloc (.cells #[.pointer (some ⟨rb, 0, none⟩)] 48)).alloc (.cells #[.slice none 0 0] 23)) := Rf.z (Rf.of_below (((Below.refl _ w).alloc (Nat.le_refl _) _).alloc (Nat.le_of_lt (Boxed.new w 48 (.pointer (some ⟨rb, 0, none⟩))).lt) _)) (Nat.le_refl _)
  have HC := (listS_calls strB strB_prog (fun xs W => GotS (w.heap.size + 1 + 1) rb w.heap.size (w.heap.size + 1) xs W) w.heap.size rb (fun _ => True) T (by omega) (.pointer (some ⟨w.heap.size + 1, 0, none⟩), .pointer (some ⟨w.heap.size, 0, none⟩)) (fun acc A B h k => h.keep k (by omega) (by omega) (by omega)) (fun acc p W hS hR2 hp hap hn => one_calls w.heap.size (w.heap.size + 1 + 1) rb w.heap.size (w.heap.size + 1) T hT (by omega) (by omega) (by omega) (by omega) (by omega) (by omega) (by omega) acc p W hS hR2 hp hap hn (by have := hS.out.choose_spec.1.lt; omega)) o c least hle a _ (((hR.below ((Below.refl _ w).alloc (Nat.le_refl _) _)).below ((Below.refl _ _).alloc (Nat.le_refl _) _))) ha start hn0)
  cases hl : ((wordL [o] ((bs T).drop a)).bind fun _ r => listL strB c (decide (least = 0)) r) with
  | bad l =>
    rw [hl] at HC
    go_enter Try.func19, Try.ntmps19
    go_wp2_with (go_at_call 20; refine HC.mono ?_; intro e w5 hA; have hA3 := BrokeZ.f (BrokeZ.after hA kz); obtain ⟨g, rfl, hA2⟩ := hA)
    exact ⟨rfl, hA3⟩
  | ok xs rest =>
    rw [hl] at HC
    go_enter Try.func19, Try.ntmps19
    go_wp2_with (go_at_call 20; refine HC.mono ?_; intro e w5 hA; obtain ⟨rfl, hS5, hR5, hl5, hd5, hz5⟩ := hA; obtain ⟨v5, hv5, hr5⟩ := hS5.out; obtain ⟨A5, cap5, e5⟩ := Kd.R_slice hr5; subst e5; have c5 := hv5.cell)
    exact ⟨rfl, _, results_tmp rfl _ _ _, _, rfl, Kd.R_lower hr5 (by omega), hR5, hl5, hd5, (kz.trans hz5).f⟩
end Go.Proofs.Ytdkkgeibifpgiaa.Rc
