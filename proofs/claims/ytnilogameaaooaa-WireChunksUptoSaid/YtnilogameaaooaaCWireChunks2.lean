/- Texts of this claim, put together: ExtSplit, Q4, Ev, RefInt, ExtRefText, ExtRepeat, ExtWireText, Q26, Q2, Q37, FeedApp, ExtFedIn. -/
import Derived.Test.YtnilogameaaooaaCWireChunks1
import Derived.Test.YtnilogameaaooaaWMore
import Derived.WalkMore
import Derived.Test.YtnilogameaaooaaShelf
/- wire.Split, walked by hand. -/
namespace Go.Proofs.Ytnilogameaaooaa.Q
open Go.RowKit Go.Proofs.Ytnilogameaaooaa.Rdr Go.Proofs.Ytnilogameaaooaa.Tail Go.Proofs.YtnilogameaaooaaW.PrintWords Go.Proofs.YtnilogameaaooaaW.PrintLast Go.Proofs.YtnilogameaaooaaW.PrintMore Go.Proofs.Ytnilogameaaooaa.Bytes
set_option linter.unusedVariables false
set_option linter.unusedSimpArgs false

def split (text plan : ByteArray) (most : Int) : Ps × List S55 := (close (feed (newM plan (m0 most)) (numsOf text)).1, (feed (newM plan (m0 most)) (numsOf text)).2)
def wire_Split.f (a0 : ByteArray) (a1 : ByteArray) (a2 : Int) : Option (List (S55) × Int × Int) :=
  if a0.size ≤ 1099511627776 ∧ a1.size ≤ 1099511627776 ∧ a2 ≤ 9223372036854775807 then
    (if (split a0 a1 a2).1.code = 0 then some ((split a0 a1 a2).2, 0, 0) else some ([], (split a0 a1 a2).1.code, (split a0 a1 a2).1.place))
  else none
theorem numsOf_range (s : ByteArray) : ∀ x ∈ numsOf s, 0 ≤ x ∧ x < 256 := by
  intro x hx
  simp only [numsOf, List.mem_map] at hx
  obtain ⟨c, _, rfl⟩ := hx
  have := c.toNat_lt
  omega
theorem bad1_none : ∀ (l : List UInt8) (i : Nat), bad1 l i = none → ∀ c ∈ l, c = 105 ∨ c = 116
  | [], _, _, c, hc => by cases hc
  | d :: l, i, h, c, hc => by
    simp only [bad1] at h
    split at h
    · rename_i hd
      rcases List.mem_cons.1 hc with e | e
      · rw [e]; exact hd
      · exact bad1_none l (i + 1) h c e
    · cases h
theorem newM_ok (plan : ByteArray) (m : Int) (hp : plan.size ≤ 140737488355328) (h0 : 0 ≤ m) (h1 : m ≤ 9223372036854775807) : ((newM plan m).stopped = true ∨ Wf (newM plan m)) ∧ (newM plan m).text = [] ∧ (newM plan m).taken = 0 := by
  cases hb : bad1 (bs plan) 0 with
  | some i =>
    rw [newM_some hb]
    exact ⟨.inl rfl, rfl, rfl⟩
  | none =>
    rw [newM_none hb]
    refine ⟨.inr ⟨⟨h0, h1⟩, Int.le_refl _, Int.le_refl _, hp, ⟨Int.le_refl _, by show (0 : Int) ≤ (plan.size : Int); omega⟩, by show (1 : Int) ≤ 8; omega, ?_, .inl ⟨rfl, by show (8 : Int) ≤ 8; omega, Int.le_refl _, by show (0 : Int) < 256 ^ (8 - 8 : Int).toNat; decide⟩⟩, rfl, rfl⟩
    intro _ k hk
    have hk : k < plan.size := hk
    have hm : plan[k]'hk ∈ bs plan := by
      have hl : k < (bs plan).length := by rw [← size_bs]; exact hk
      have e : plan[k]'hk = (bs plan)[k] := rfl
      rw [e]; exact List.getElem_mem hl
    rcases bad1_none _ _ hb _ hm with e | e
    · exact .inl ((bt_is plan k hk 105).2 e)
    · exact .inr ((bt_is plan k hk 116).2 e)
theorem out_set {W : World} {base g i : Nat} {v u : Value} {its : List S55} {cs : Array Value} {e : Nat} (h : Kd.R k55 55 W base (fun _ => True) v its) (hg : W.heap[g]? = some (.cells cs e (0, 0))) (he : e ≠ 55) :
    Kd.R k55 55 (W.setCell ⟨g, i, none⟩ u) base (fun _ => True) v its := by
  refine Kd.R_mono (Kd.R_move (Kd.R_bound h) ?_) (fun _ _ => trivial)
  rintro k ⟨_, _, hk, q, hq, cells, hc⟩
  have hq' : q = 55 := by
    rcases List.mem_cons.1 hq with e | e
    · exact e
    · exact absurd e (by simp [k55, Kd.iso, Kd.pair, Kd.int, Kd.bool, Kd.string, Kd.scalar])
  subst hq'
  refine Below.heap_setCell _ _ _ _ ?_
  rintro rfl
  rw [hc] at hg
  simp at hg
  exact he hg.2.symm
theorem OwnT.slice {w : World} {base : Nat} {e : TypeId} {v : Value} {xs : List Int} (h : OwnT w base e v xs) : ∃ g c, v = .slice (some ⟨g, 0, none⟩) xs.length c ∧ base ≤ g ∧ g < w.heap.size ∧ xs.length ≤ c ∧ ReadsInt w .u8 (some ⟨g, 0, none⟩) xs.length xs := by
  obtain ⟨A, c, e1, hr⟩ := h.reads
  obtain ⟨g, cap, cur, fz, rfl, hb, hg, _, hn, _⟩ := h
  injection e1 with e1 e2 e3
  subst e1
  exact ⟨g, cap, rfl, hb, (Array.getElem?_eq_some_iff.1 hg).1, hn, hr⟩
theorem set1 {w1 : World} {g : Nat} {a0 a1 x0 : Value} {t : TypeId} (h : w1.heap[g]? = some (.cells #[a0, a1] t (0, 0))) :
    (w1.setCell ⟨g, 0, none⟩ x0).heap[g]? = some (.cells #[x0, a1] t (0, 0)) := by
  simp [World.setCell, Array.getElem?_modify, h]
theorem fault_kept {W W' : World} {ok : Nat → Prop} {b g : Nat} {cs : Array Value} (h : Rdr.Frame ok b W W') (hg : W.heap[g]? = some (.cells cs 31 (0, 0))) (hne : g ≠ b) : W'.heap[g]? = some (.cells cs 31 (0, 0)) :=
  (h.block g (Array.getElem?_eq_some_iff.1 hg).1 hne (.inr (by
    rintro ⟨c2, h2⟩
    rw [hg] at h2
    simp at h2))).trans hg
theorem frame_below {W W' : World} {ok : Nat → Prop} {b B : Nat} (h : Rdr.Frame ok b W W') (hB : B ≤ W.heap.size) (hb : B ≤ b) (hok : ∀ k, ok k → B ≤ k) : Below B W W' :=
  ⟨h.os, h.tape, h.output, h.size, fun k hk => h.block k (by omega) (by omega) (.inl (fun q => by have := hok k q; omega))⟩
set_option maxHeartbeats 8000000 in
set_option maxRecDepth 100000 in
theorem wire_Split.calls (a0 : ByteArray) (a1 : ByteArray) (a2 : Int) (r1 : List (S55)) (r2 : Int) (r3 : Int) (w : World) (h : wire_Split.f a0 a1 a2 = some (r1, r2, r3)) :
    Calls Try.prog 19 #[.string a0, .string a1, .int .i64 a2] w fun e w' => ∃ v0_ : Value, e = .returned (.tuple #[v0_, .agg #[.int .i64 r2, .int .i64 r3]]) ∧ Kd.R k55 55 w' w.heap.size (fun _ => True) v0_ r1 ∧ Below w.heap.size w w' := by
  unfold wire_Split.f at h
  by_cases hsz : a0.size ≤ 1099511627776 ∧ a1.size ≤ 1099511627776 ∧ a2 ≤ 9223372036854775807
  case neg => rw [if_neg hsz] at h; exact absurd h (by simp)
  rw [if_pos hsz] at h
  obtain ⟨s0, s1, s2⟩ := hsz
  have hm0 : 0 ≤ m0 a2 ∧ m0 a2 ≤ 9223372036854775807 := by unfold m0; split <;> omega
  obtain ⟨hwf, htx, htk⟩ := newM_ok a1 (m0 a2) (by omega) hm0.1 hm0.2
  have HWF := Aside0.mk hwf
  have HTX := Aside0.mk htx
  have HTK := Aside0.mk htk
  clear hwf htx htk hm0
  by_cases hcode : (split a0 a1 a2).1.code = 0
  · rw [if_pos hcode] at h
    simp only [Option.some.injEq, Prod.mk.injEq] at h
    obtain ⟨rfl, rfl, rfl⟩ := h
    have HC := Aside0.mk (show (close (feed (newM a1 (m0 a2)) (numsOf a0)).1).code = 0 from hcode)
    clear hcode
    go_enter Try.func19, Try.ntmps19
    go_wp2_with (first | (go_at_call 27; refine (new_calls a1 a2 _ (by omega)).mono ?_; rintro e w2 ⟨rfl, hA, hB⟩; rw [size_alloc] at hA hB ⊢; have HA := Aside0.mk hA; have HB := Aside0.mk hB; clear hA hB) | ((with_reducible refine gate_dst (N := 16) rfl ?_); refine T_conv (w0 := w2) w2.heap.size 5 rfl (N := 16) rfl 9 48 _ rfl a0 rfl Try.underlying9 Try.underlying48 Try.underlying5 (by simp only [maxLen]; omega) (Below.refl _ _) (Nat.le_refl _) ?_; intro vc w3 HO hb3; obtain ⟨gp, cp, rfl, hg1, hg2, hg3, hrd⟩ := OwnT.slice HO; have hl2 := HA.out.lt; have hl3 := hb3.size; have hb2 := HB.out; have hrep : Rep (newM a1 (m0 a2)) w3 (w.heap.size + 1) w.heap.size (fun k => w.heap.size + 2 ≤ k ∧ k ≠ gp) := ⟨.slice none 0 0, (hb3.block _ hl2).trans HA.out, by rw [HTX.out]; exact Kd.R_nil _ _ _ _ _⟩; have hflt : w3.heap[w.heap.size]? = some (.cells #[.int .i64 0, .int .i64 0] 31 (0, 0)) := (hb3.block _ (by omega)).trans ((hb2.block _ (by omega)).trans (heap_alloc_new w _)); have hbel : Below w.heap.size w w3 := (((Below.refl _ w).alloc (Nat.le_refl _) _).trans (hb2.mono (by omega))).trans (hb3.mono (by omega)); have HRD := Aside0.mk hrd; have HREP := Aside0.mk hrep; have HFLT := Aside0.mk hflt; have HBEL := Aside0.mk hbel; clear hrd hrep hflt hbel hb2 hb3 HO HA HB) | (go_at_call 28; refine (feed_calls (newM a1 (m0 a2)) w3 (w.heap.size + 1) w.heap.size (fun k => w.heap.size + 2 ≤ k ∧ k ≠ gp) HREP.out HWF.out (by omega) (fun k hk => ⟨by omega, by omega⟩) (by omega) _ _ _ (numsOf a0) HRD.out hg3 (fun ad had => by injection had with had; subst had; exact ⟨by show gp ≠ _; omega, hg2, fun q => q.2 rfl⟩) (numsOf_range a0) (by rw [HTK.out, numsOf_len]; omega) (by rw [HTK.out]; exact Int.le_refl _)).mono ?_; rintro e w4 ⟨vf, rfl, hOut, hRep4, hF4⟩; have HR4 := Aside0.mk hRep4; have HO4 := Aside0.mk hOut; have HF4 := Aside0.mk hF4; have HFLT4 := Aside0.mk (fault_kept hF4 HFLT.out (by omega)); have hs4 := hF4.size; clear hRep4 hOut hF4) | (go_at_call 29; refine (close_ps (feed (newM a1 (m0 a2)) (numsOf a0)).1 w4 (w.heap.size + 1) w.heap.size (fun k => w.heap.size + 2 ≤ k ∧ k ≠ gp) HR4.out (by omega)).mono ?_; rintro e w5 ⟨rfl, hRep5, hF5⟩; rw [HC.out]; have hg5 := fault_kept hF5 HFLT4.out (by omega); have hs5 := hF5.size; have hl5 := (Array.getElem?_eq_some_iff.1 hg5).1; have hn5 : (w.heap.size = w5.heap.size) = False := eq_false (by omega); have z0 := cell3 hg5 0; have z1 := cell3 hg5 1; have y0 := fro3 hg5 0; have y1 := fro3 hg5 1; have HG5 := Aside0.mk hg5; have HO5 := Aside0.mk (by obtain ⟨vx, hAx, _⟩ := HR4.out; exact hF5.out hAx HO4.out); have HBL5 := Aside0.mk (((HBEL.out.trans (frame_below HF4.out (by omega) (by omega) (fun k hk => by omega)))).trans (frame_below hF5 (by omega) (by omega) (fun k hk => by omega))); clear hRep5 hF5 hg5))
    refine bodyPost_ret (results_tc rfl _ _ w.heap.size 31 _ (0, 0) _ rfl ((Below.heap_alloc _ _ _ (by simpa [World.setCell] using hl5)).trans (set2 HG5.out)) Try.underlying31 rfl rfl) rfl ⟨vf, rfl, ?_, ?_⟩
    · exact Kd.R_alloc (out_set (out_set (Kd.R_lower HO5.out (by omega)) HG5.out (by decide)) (set1 HG5.out) (by decide)) _
    · exact ((HBL5.out.setCell (Nat.le_refl _) _).setCell (Nat.le_refl _) _).alloc (by have : w.heap.size ≤ w5.heap.size := Nat.le_of_lt hl5; simpa [World.setCell] using this) _
  · rw [if_neg hcode] at h
    simp only [Option.some.injEq, Prod.mk.injEq] at h
    obtain ⟨rfl, rfl, rfl⟩ := h
    have HC := Aside0.mk (show (close (feed (newM a1 (m0 a2)) (numsOf a0)).1) = (split a0 a1 a2).1 from rfl)
    have hcb : ((split a0 a1 a2).1.code != 0) = true := bne_iff_ne.2 hcode
    clear hcode
    generalize (split a0 a1 a2).1 = p5 at HC hcb ⊢
    go_enter Try.func19, Try.ntmps19
    go_wp2_with (first | (go_at_call 27; refine (new_calls a1 a2 _ (by omega)).mono ?_; rintro e w2 ⟨rfl, hA, hB⟩; rw [size_alloc] at hA hB ⊢; have HA := Aside0.mk hA; have HB := Aside0.mk hB; clear hA hB) | ((with_reducible refine gate_dst (N := 16) rfl ?_); refine T_conv (w0 := w2) w2.heap.size 5 rfl (N := 16) rfl 9 48 _ rfl a0 rfl Try.underlying9 Try.underlying48 Try.underlying5 (by simp only [maxLen]; omega) (Below.refl _ _) (Nat.le_refl _) ?_; intro vc w3 HO hb3; obtain ⟨gp, cp, rfl, hg1, hg2, hg3, hrd⟩ := OwnT.slice HO; have hl2 := HA.out.lt; have hl3 := hb3.size; have hb2 := HB.out; have hrep : Rep (newM a1 (m0 a2)) w3 (w.heap.size + 1) w.heap.size (fun k => w.heap.size + 2 ≤ k ∧ k ≠ gp) := ⟨.slice none 0 0, (hb3.block _ hl2).trans HA.out, by rw [HTX.out]; exact Kd.R_nil _ _ _ _ _⟩; have hflt : w3.heap[w.heap.size]? = some (.cells #[.int .i64 0, .int .i64 0] 31 (0, 0)) := (hb3.block _ (by omega)).trans ((hb2.block _ (by omega)).trans (heap_alloc_new w _)); have hbel : Below w.heap.size w w3 := (((Below.refl _ w).alloc (Nat.le_refl _) _).trans (hb2.mono (by omega))).trans (hb3.mono (by omega)); have HRD := Aside0.mk hrd; have HREP := Aside0.mk hrep; have HFLT := Aside0.mk hflt; have HBEL := Aside0.mk hbel; clear hrd hrep hflt hbel hb2 hb3 HO HA HB) | (go_at_call 28; refine (feed_calls (newM a1 (m0 a2)) w3 (w.heap.size + 1) w.heap.size (fun k => w.heap.size + 2 ≤ k ∧ k ≠ gp) HREP.out HWF.out (by omega) (fun k hk => ⟨by omega, by omega⟩) (by omega) _ _ _ (numsOf a0) HRD.out hg3 (fun ad had => by injection had with had; subst had; exact ⟨by show gp ≠ _; omega, hg2, fun q => q.2 rfl⟩) (numsOf_range a0) (by rw [HTK.out, numsOf_len]; omega) (by rw [HTK.out]; exact Int.le_refl _)).mono ?_; rintro e w4 ⟨vf, rfl, hOut, hRep4, hF4⟩; have HR4 := Aside0.mk hRep4; have HO4 := Aside0.mk hOut; have HF4 := Aside0.mk hF4; have HFLT4 := Aside0.mk (fault_kept hF4 HFLT.out (by omega)); have hs4 := hF4.size; clear hRep4 hOut hF4) | (go_at_call 29; refine (close_ps (feed (newM a1 (m0 a2)) (numsOf a0)).1 w4 (w.heap.size + 1) w.heap.size (fun k => w.heap.size + 2 ≤ k ∧ k ≠ gp) HR4.out (by omega)).mono ?_; rintro e w5 ⟨rfl, hRep5, hF5⟩; rw [HC.out]; have hg5 := fault_kept hF5 HFLT4.out (by omega); have hs5 := hF5.size; have hl5 := (Array.getElem?_eq_some_iff.1 hg5).1; have hn5 : (w.heap.size = w5.heap.size) = False := eq_false (by omega); have z0 := cell3 hg5 0; have z1 := cell3 hg5 1; have y0 := fro3 hg5 0; have y1 := fro3 hg5 1; have HG5 := Aside0.mk hg5; have HO5 := Aside0.mk (by obtain ⟨vx, hAx, _⟩ := HR4.out; exact hF5.out hAx HO4.out); have HBL5 := Aside0.mk (((HBEL.out.trans (frame_below HF4.out (by omega) (by omega) (fun k hk => by omega)))).trans (frame_below hF5 (by omega) (by omega) (fun k hk => by omega))); clear hRep5 hF5 hg5))
    have hl6 := hl5
    have HA6 : (w5.alloc (.cells #[.int .i64 p5.code, .int .i64 p5.place] 31)).heap[w5.heap.size]? = some (.cells #[.int .i64 p5.code, .int .i64 p5.place] 31 (0, 0)) := heap_alloc_new w5 _
    have HB6 : (w5.alloc (.cells #[.int .i64 p5.code, .int .i64 p5.place] 31)).heap[w.heap.size]? = some (.cells #[.int .i64 0, .int .i64 0] 31 (0, 0)) := (Below.heap_alloc _ _ _ hl5).trans HG5.out
    have HC6 : Below w.heap.size w (w5.alloc (.cells #[.int .i64 p5.code, .int .i64 p5.place] 31)) := HBL5.out.alloc (Nat.le_of_lt hl5) _
    generalize w5.alloc (.cells #[.int .i64 p5.code, .int .i64 p5.place] 31) = w6 at HA6 HB6 HC6 ⊢
    clear z0 z1 y0 y1
    refine wp_region_still_tail 2 (by kernel_rfl) (by kernel_rfl) ?_
    change wpStill _ _ (World.drew w6) (fun a' => wpList _ _ _ _ a' (World.drew w6)) _ _
    have HA7 : w6.drew.heap[w5.heap.size]? = some (.cells #[.int .i64 p5.code, .int .i64 p5.place] 31 (0, 0)) := HA6
    have HB7 : w6.drew.heap[w.heap.size]? = some (.cells #[.int .i64 0, .int .i64 0] 31 (0, 0)) := HB6
    have HC7 : Below w.heap.size w w6.drew := HC6.drew
    clear HA6 HB6 HC6
    generalize World.drew w6 = w7 at HA7 HB7 HC7 ⊢
    have x0 := cell3 HA7 0
    have x1 := cell3 HA7 1
    have z0 := cell3 HB7 0
    have z1 := cell3 HB7 1
    have y0 := fro3 HB7 0
    have y1 := fro3 HB7 1
    replace HA7 := Aside0.mk HA7
    replace HB7 := Aside0.mk HB7
    simp only [List.take_succ_cons, List.take_zero, List.drop_succ_cons, List.drop_zero]
    repeat still_step
    refine wpStill_nil ?_
    change wpList _ _ _ _ _ w7
    go_wp2
    refine bodyPost_ret (results_tc rfl _ _ w.heap.size 31 _ (0, 0) _ rfl (set2 HB7.out) Try.underlying31 rfl rfl) rfl ⟨_, rfl, Kd.R_nil _ _ _ _ _, ?_⟩
    exact (HC7.setCell (Nat.le_refl _) _).setCell (Nat.le_refl _) _
end Go.Proofs.Ytnilogameaaooaa.Q
/- By a program of this session's: a plain Lean function for a Go function, and its contract. -/
namespace Go.Proofs.Ytnilogameaaooaa.Q
open Go.RowKit Go.Proofs.YtnilogameaaooaaW.PrintWords Go.Proofs.YtnilogameaaooaaW.PrintLast Go.Proofs.YtnilogameaaooaaW.PrintMore
attribute [local go_sem] max2_int min2_int max_two min_two max_three min_three max_four min_four Go.Proofs.Ytnilogameaaooaa.Ord.str_leq Go.Proofs.Ytnilogameaaooaa.Ord.str_gtr Go.Proofs.Ytnilogameaaooaa.Ord.str_geq   -- for this text's walks alone
set_option linter.unusedVariables false
set_option linter.unusedSimpArgs false

/-! ### depotref03_Int: function 14 -/
def depotref03_Int.l0 : Nat → Int → List Int → Int → Option (ByteArray)
  | 0, _, _, _ => none
  | k + 1, x0, x3, x4 => if x4 < 8 then (if 0 ≤ x4 then (if x4 < (x3.length : Int) then (depotref03_Int.l0 k (IntKind.u64.wrap (Int.tdiv x0 256)) (x3.set (x4 : Int).toNat ((Int.tmod x0 256) % 256)) (wrap64 (x4 + 1))) else (none)) else (none)) else (some (strOfNums x3))
def depotref03_Int.f (k : Nat) (a0 : Int) : Option (ByteArray) := if 8 ≤ 281474976710656 then (depotref03_Int.l0 k a0 (List.replicate 8 0) 0) else (none)
theorem depotref03_Int.mono_l : ∀ k, (∀ y0 y1 y2, LeO (depotref03_Int.l0 k y0 y1 y2) (depotref03_Int.l0 (k + 1) y0 y1 y2))
  | 0 => fun _ _ _ r h => by simp [depotref03_Int.l0] at h
  | k + 1 => by
    have ih0 := depotref03_Int.mono_l k
    · intro y0 y1 y2
      unfold depotref03_Int.l0
      repeat' first
      | (with_reducible exact ih0 _ _ _)
      | (with_reducible exact LeO.refl _)
      | (with_reducible exact LeO.none _)
      | (with_reducible refine LeO.ite ?_ ?_)
      | (with_reducible refine LeO.bind ?_ (fun _ => ?_))
      | exact ih0 _ _ _
      | exact LeO.none _
      | refine LeO.ite ?_ ?_
      | refine LeO.bind ?_ (fun _ => ?_)
theorem depotref03_Int.mono : ∀ a0 k, LeO (depotref03_Int.f k a0) (depotref03_Int.f (k + 1) a0) := by
  intro a0 k
  have ih0 := depotref03_Int.mono_l k
  unfold depotref03_Int.f
  repeat' first
      | (with_reducible exact ih0 _ _ _)
      | (with_reducible exact LeO.refl _)
      | (with_reducible exact LeO.none _)
      | (with_reducible refine LeO.ite ?_ ?_)
      | (with_reducible refine LeO.bind ?_ (fun _ => ?_))
      | exact ih0 _ _ _
      | exact LeO.none _
      | refine LeO.ite ?_ ?_
      | refine LeO.bind ?_ (fun _ => ?_)
set_option maxHeartbeats 8000000 in
set_option maxRecDepth 100000 in
theorem depotref03_Int.calls (k : Nat) (a0 : Int) (r : ByteArray) (w : World) (h : depotref03_Int.f k a0 = some r) :
    Calls Try.prog 14 #[.int .u64 a0] w fun e w' => e = .returned (.string r) ∧ Below w.heap.size w w' := by
  have HB := Aside0.mk (Below.refl w.heap.size w)
  have H : (if 8 ≤ 281474976710656 then (depotref03_Int.l0 k a0 (List.replicate 8 0) 0) else (none)) = some r := h
  clear h
  by_cases c2 : 8 ≤ 281474976710656
  · rw [if_pos c2] at H
    have c2b0 := eq_true c2
    have c2b1 : decide (8 ≤ 281474976710656) = true := decide_eq_true c2
    clear c2
    obtain ⟨y101, hy101⟩ : ∃ y_ : List Int, y_ = (List.replicate 8 0) := ⟨_, rfl⟩
    replace H : (depotref03_Int.l0 k a0 y101 0) = some r := by first | (rw [hy101]; with_reducible exact H) | (have H2_ := (Option.bind_some _ _).symm.trans H; rw [hy101]; with_reducible exact H2_) | (have H2_ := (Option.bind_some _ _).symm.trans H; with_reducible exact H2_) | with_reducible exact H | (rw [hy101]; exact H) | exact H
    have Ny101 := Aside0.mk hy101
    clear hy101
    have H' := Aside0.mk H
    clear H
    go_enter Try.func14, Try.ntmps14
    go_wp2_with (first | ((with_reducible refine gate_dst (N := 5) rfl ?_); refine Kd.R_make (Kd.int .u8) _ 5 rfl (N := 5) rfl 48 _ _ rfl 8 rfl rfl Try.underlying48 (.int .u8 0) 1 info5 rfl (by decide) (by omega) 0 (ok := fun _ => True) (okp := fun _ => True) rfl (fun _ hk => hk) trivial (by omega) (by omega) (Below.refl _ _) (Nat.le_refl _) ?_; intro v102 w3 ho4 hb hg_ hnew_; clear hg_ hnew_; (first | rw [← Ny101.out] at ho4 | (simp only [Int.reduceToNat] at ho4; rw [← Ny101.out] at ho4)); have n0_ := Aside0.mk (Kd.R_lower ho4 (below_size (by repeat (first | (with_reducible first | exact HB.out | apply below_alloc | apply pw_below_drewN | apply below_drew1) | exact HB.out)))); have n1_ := Aside0.mk (below_step (by repeat (first | (with_reducible first | exact HB.out | apply below_alloc | apply pw_below_drewN | apply below_drew1) | exact HB.out)) hb); clear HB; have HO103 := n0_; have HB := n1_; clear n0_ n1_; clear hb ho4))
    go_loopg [0, 4] k (fun kq v0 v4 w' => ∃ (x0_1 : Int) (x3_1 : List Int) (x4_1 : Int), v0 = .int .u64 x0_1 ∧ v4 = .int .i64 x4_1 ∧ Aside0 (depotref03_Int.l0 kq x0_1 x3_1 x4_1 = some r) ∧ Aside0 (kq ≤ k) ∧ Aside0 (Kd.R (Kd.int .u8) 5 w' w.heap.size (fun _ => True) v102 x3_1) ∧ Aside0 (Below w.heap.size w w'))
    case atStart => exact ⟨(a0), (y101), (0), (by first | rfl | (simp; done) | (simp [*]; done)), (by first | rfl | (simp; done) | (simp [*]; done)), H', ⟨Nat.le_refl _⟩, ⟨by (with_reducible repeat (first | apply Kd.R_alloc | apply Kd.R_drewN | apply Kd.R_drew)); exact HO103.out⟩, ⟨by repeat (first | (with_reducible first | exact HB.out | apply below_alloc | apply pw_below_drewN | apply below_drew1) | exact HB.out)⟩⟩
    case round =>
      clear H'
      try clear c1
      try clear c2
      try clear c2b0
      try clear c2b1
      try clear p2
      obtain ⟨x0_1, x3_1, x4_1, rfl, rfl, HA, HK1, HO_3, HB⟩ := hrel
      cases gk with
      | zero => exact absurd HA.out (by simp [depotref03_Int.l0])
      | succ k1 =>
        have H := HA.out
        clear HA
        simp only [depotref03_Int.l0] at H
        by_cases c5 : x4_1 < 8
        · rw [if_pos c5] at H
          have c5b0 : decide (x4_1 < 8) = true := decide_eq_true c5
          clear c5
          by_cases c6 : 0 ≤ x4_1
          · rw [if_pos c6] at H
            have c6b0 : decide (0 ≤ x4_1) = true := decide_eq_true c6
            clear c6
            by_cases c7 : x4_1 < (x3_1.length : Int)
            · rw [if_pos c7] at H
              have c7b0 : decide (x4_1 < (x3_1.length : Int)) = true := decide_eq_true c7
              clear c7
              obtain ⟨y104, hy104⟩ : ∃ y_ : List Int, y_ = (x3_1.set (x4_1 : Int).toNat ((Int.tmod x0_1 256) % 256)) := ⟨_, rfl⟩
              replace H : (depotref03_Int.l0 k1 (IntKind.u64.wrap (Int.tdiv x0_1 256)) y104 (wrap64 (x4_1 + 1))) = some r := by first | (rw [hy104]; with_reducible exact H) | (have H2_ := (Option.bind_some _ _).symm.trans H; rw [hy104]; with_reducible exact H2_) | (have H2_ := (Option.bind_some _ _).symm.trans H; with_reducible exact H2_) | with_reducible exact H | (rw [hy104]; exact H) | exact H
              have Ny104 := Aside0.mk hy104
              clear hy104
              have H' := Aside0.mk H
              clear H
              have p8 : 0 ≤ (x4_1 : Int) := of_decide_eq_true (by first | (with_reducible assumption) | assumption)
              have q8 : (x4_1 : Int) < ((x3_1.length : Int) : Int) := of_decide_eq_true (by first | (with_reducible assumption) | assumption)
              obtain ⟨go8, co8, eo8, gb8, gl8, cl8, HG8⟩ := Kd.R_form HO_3.out (by omega)
              (first | cases eo8 | (injection eo8 with ea_ en_ ec_; (first | subst ea_ | (injection ea_ with ea_; subst ea_)); subst ec_; clear en_))
              have GB8 := Aside0.mk gb8
              have GG8 := Aside0.mk HG8
              clear gb8 gl8 HG8
              obtain ⟨hx8_0, hf8_0⟩ := Kd.R_celln 0 HO_3.out (x4_1 : Int) p8 q8
              replace p8 := eq_true p8
              replace q8 := eq_true q8
              have HP9 := Kd.R_putg HO_3.out (x4_1 : Int) ((Int.tmod x0_1 256) % 256)
              go_wp2_with (first | ((with_reducible refine gate_store (t := 5) (p := 15) rfl ?_); refine store_event (t := 5) (p := 15) (v := ?vo_w10) (w1 := (wr.setCell ⟨go8, (x4_1 : Int).toNat, none⟩ (.int .u8 ((Int.tmod x0_1 256) % 256)))) ?hg ?ho ?hn ?hr ?_; (case ho => rfl); (case hg => rfl); (case hn => rfl); (case hr => first | (go_simp; done) | (go_simp; rfl)); intro w10 hw; have hg : wr.grownBy w10 (some go8) := (by rw [hw]; exact HP9.2); have hp_ : Kd.R (Kd.int .u8) 5 w10 w.heap.size (fun _ => True) (.slice (some ⟨go8, 0, none⟩) x3_1.length co8) y104 := (by rw [hw, Ny104.out]; exact HP9.1); clear HP9; have n0_ := Aside0.mk (hp_); have n1_ := Aside0.mk ((by rw [hw]; exact below_set (HB.out) GB8.out : Below w.heap.size w w10)); clear HO_3; clear HB; have HO_3 := n0_; have HB := n1_; clear n0_ n1_; clear hg hw hp_))
              go_roundg k1
              case measure => have := HK1.out; omega
              case rel => exact ⟨(IntKind.u64.wrap (Int.tdiv x0_1 256)), (y104), (wrap64 (x4_1 + 1)), (by first | rfl | (simp; done) | (simp [*]; done)), (by first | rfl | (simp; done) | (simp [*]; done)), H', ⟨by have := HK1.out; omega⟩, ⟨by (with_reducible repeat (first | apply Kd.R_alloc | apply Kd.R_drewN | apply Kd.R_drew)); exact HO_3.out⟩, ⟨by repeat (first | (with_reducible first | exact HB.out | apply below_alloc | apply pw_below_drewN | apply below_drew1) | exact HB.out)⟩⟩
            · rw [if_neg c7] at H
              exact absurd H (by simp)
          · rw [if_neg c6] at H
            exact absurd H (by simp)
        · rw [if_neg c5] at H
          have c5b0 : decide (x4_1 < 8) = false := decide_eq_false c5
          clear c5
          obtain rfl := Option.some.inj H
          have hcv11 := own_string (P := Try.prog) Try.underlying48 Try.underlying5 Try.underlying9 (Kd.own_of_R HO_3.out)
          go_wp2
          go_ret
          exact ⟨by first | rfl | (simp [errW_none, errW_some] <;> rfl) | (simp [*, errW_none, errW_some] <;> rfl), by repeat (first | (with_reducible first | exact HB.out | apply below_alloc | apply pw_below_drewN | apply below_drew1) | exact HB.out)⟩
  · rw [if_neg c2] at H
    exact absurd H (by simp)

end Go.Proofs.Ytnilogameaaooaa.Q
/- Rounds: small steps of 'from some number of rounds on'. -/
set_option linter.unusedVariables false
set_option linter.unusedSimpArgs false
namespace Go.Proofs.Ytnilogameaaooaa.Evs
open Go.RowKit Go.Proofs.YtnilogameaaooaaW.PrintWords Go.Proofs.YtnilogameaaooaaW.PrintLast Go.Proofs.YtnilogameaaooaaW.PrintMore Go.Proofs.Ytnilogameaaooaa.Bytes

variable {α β : Type}
theorem pos {c : Prop} [Decidable c] {g f : Nat → Option α} {r : α} (h : c) (k : Ev g r) : Ev (fun n => if c then g n else f n) r := by
  obtain ⟨K, k⟩ := k
  exact ⟨K, fun n hn => by simp only [if_pos h]; exact k n hn⟩
theorem neg {c : Prop} [Decidable c] {g f : Nat → Option α} {r : α} (h : ¬ c) (k : Ev f r) : Ev (fun n => if c then g n else f n) r := by
  obtain ⟨K, k⟩ := k
  exact ⟨K, fun n hn => by simp only [if_neg h]; exact k n hn⟩
/-- A callee without rounds. -/
theorem call {x : Option β} {y : β} {f : Nat → β → Option α} {r : α} (h : x = some y) (k : Ev (fun n => f n y) r) : Ev (fun n => x.bind (f n)) r := by
  subst h
  exact k
theorem succ {g : Nat → Option α} {r : α} (k : Ev (fun n => g (n + 1)) r) : Ev g r := Ev.step (fun _ => rfl) k
theorem same {g : Nat → Option α} {r r' : α} (h : r = r') (k : Ev g r') : Ev g r := by rw [h]; exact k
theorem now {x : Option α} {r : α} (h : x = some r) : Ev (fun _ => x) r := ⟨0, fun _ _ => h⟩
theorem getD_of (l : List UInt8) (i : Nat) (h : i < l.length) : l.getD i 0 = l[i] := by rw [List.getD_eq_getElem?_getD, List.getElem?_eq_getElem h]; rfl
theorem bt_lt (s : ByteArray) (i : Nat) (h : i < (bs s).length) : bt s (i : Int) = (((bs s)[i]).toNat : Int) := by rw [bt_bs, Int.toNat_natCast, getD_of _ _ h]
theorem wr (i : Nat) (h : i < 9223372036854775807) : wrap64 ((i : Int) + 1) = ((i + 1 : Nat) : Int) := by rw [w64 (by omega) (by omega)]; omega
theorem wl (i : Nat) (h1 : 1 ≤ i) (h : i ≤ 9223372036854775807) : wrap64 ((i : Int) - 1) = ((i - 1 : Nat) : Int) := by rw [w64 (by omega) (by omega)]; omega
theorem rd_nat (xs : List ByteArray) (i : Nat) : rdOf ByteArray.empty xs (i : Int) = xs.getD i ByteArray.empty := by simp [rdOf]
theorem byte_is {c : UInt8} {n : Nat} (h : n < 256) : ((c.toNat : Int) = (n : Int)) ↔ c = UInt8.ofNat n := by
  rw [← UInt8.toNat_inj, UInt8.toNat_ofNat', Nat.mod_eq_of_lt h]
  omega
theorem back (c : UInt8) : ((c.toNat : Int)).toNat.toUInt8 = c := by simp
theorem ba_ext {a b : ByteArray} (h : bs a = bs b) : a = b := bs_inj h
end Go.Proofs.Ytnilogameaaooaa.Evs
/- depotref03.Int tells the eight bytes, the lowest first. -/
set_option linter.unusedVariables false
set_option linter.unusedSimpArgs false
namespace Go.Proofs.Ytnilogameaaooaa.Pure
open Go.RowKit Go.Proofs.Ytnilogameaaooaa.Q Go.Proofs.YtnilogameaaooaaW.PrintWords Go.Proofs.YtnilogameaaooaaW.PrintLast Go.Proofs.YtnilogameaaooaaW.PrintMore Go.Proofs.Ytnilogameaaooaa.Bytes Go.Proofs.Ytnilogameaaooaa.Evs

theorem pow_step (n : Int) (i : Nat) : n / 2 ^ (8 * i) / 256 = n / 2 ^ (8 * (i + 1)) := by
  rw [Int.ediv_ediv_of_nonneg (by exact Int.pow_nonneg (by omega))]
  congr 1
  rw [show 8 * (i + 1) = 8 * i + 8 by omega, Int.pow_add]
  rfl
theorem pow_bound (n : Int) (i : Nat) (h0 : 0 ≤ n) (h1 : n < 18446744073709551616) : 0 ≤ n / 2 ^ (8 * i) ∧ n / 2 ^ (8 * i) < 18446744073709551616 := by
  have hp : (0 : Int) < 2 ^ (8 * i) := Int.pow_pos (by omega)
  refine ⟨Int.ediv_nonneg h0 (Int.le_of_lt hp), Int.lt_of_le_of_lt (Int.ediv_le_self _ h0) h1⟩
theorem refInt_step (n : Int) (h0 : 0 ≤ n) (h1 : n < 18446744073709551616) : ∀ (d i : Nat), i + d = 8 → Ev (fun k => depotref03_Int.l0 k (n / 2 ^ (8 * i)) (row8 n i) (i : Int)) (strOfNums (le8 n)) := by
  intro d
  induction d with
  | zero =>
    intro i hi
    obtain rfl : i = 8 := by omega
    apply succ
    simp only [depotref03_Int.l0]
    refine neg (by omega) (now ?_)
    rw [row8_all]
  | succ d ih =>
    intro i hi
    have ih := ih (i + 1) (by omega)
    obtain ⟨b0, b1⟩ := pow_bound n i h0 h1
    apply succ
    simp only [depotref03_Int.l0]
    refine pos (by omega) (pos (by omega) (pos (by rw [row8_len]; omega) ?_))
    have e1 : IntKind.u64.wrap (Int.tdiv (n / 2 ^ (8 * i)) 256) = n / 2 ^ (8 * (i + 1)) := by
      rw [Int.tdiv_eq_ediv_of_nonneg b0, pow_step]
      obtain ⟨c0, c1⟩ := pow_bound n (i + 1) h0 h1
      exact Int.emod_eq_of_lt c0 c1
    have e2 : Int.tmod (n / 2 ^ (8 * i)) 256 % 256 = n / 2 ^ (8 * i) % 256 := by
      rw [Int.tmod_eq_emod_of_nonneg b0]
      omega
    rw [e1, e2, Int.toNat_natCast, row8_set n i (by omega), wr i (by omega)]
    exact ih
theorem refInt (n : Int) (h0 : 0 ≤ n) (h1 : n < 18446744073709551616) : Ev (fun k => depotref03_Int.f k n) (strOfNums (le8 n)) := by
  have h := refInt_step n h0 h1 8 0 rfl
  simp only [depotref03_Int.f]
  refine pos (by omega) ?_
  have e1 : n / 2 ^ (8 * 0) = n := by simp
  have e2 : row8 n 0 = List.replicate 8 0 := rfl
  rw [e1, e2] at h
  exact h
end Go.Proofs.Ytnilogameaaooaa.Pure
/- depotref03.Text, walked by hand: it goes on in the row of a conversion. -/
namespace Go.Proofs.Ytnilogameaaooaa.Q
open Go.RowKit Go.Proofs.YtnilogameaaooaaW.PrintWords Go.Proofs.YtnilogameaaooaaW.PrintLast Go.Proofs.YtnilogameaaooaaW.PrintMore Go.Proofs.Ytnilogameaaooaa.Bytes Go.Proofs.Ytnilogameaaooaa.Tail
set_option linter.unusedVariables false
set_option linter.unusedSimpArgs false

/-- How many noughts go behind n bytes. -/
def padOf (n : Nat) : Nat := (8 - n % 8) % 8
/-- The bytes of a framed text. -/
def frame8 (s : ByteArray) : List Int := le8 (s.size : Int) ++ (numsOf s ++ List.replicate (padOf s.size) 0)
def depotref03_Text.f (a0 : ByteArray) : Option (ByteArray) := if a0.size ≤ 140737488351232 then some (strOfNums (frame8 a0)) else none
/-- The first i bytes behind the length. -/
def upTo (s : ByteArray) (i : Nat) : List Int := le8 (s.size : Int) ++ (numsOf s ++ List.replicate (padOf s.size) 0).take i
theorem upTo_len (s : ByteArray) (i : Nat) (h : i ≤ s.size + padOf s.size) : (upTo s i).length = 8 + i := by
  simp only [upTo, List.length_append, List.length_take, numsOf_len, List.length_replicate]
  have : (le8 (s.size : Int)).length = 8 := by simp [le8]
  omega
theorem upTo_all (s : ByteArray) : upTo s (s.size + padOf s.size) = frame8 s := by
  unfold upTo frame8
  rw [List.take_of_length_le (by simp [numsOf_len])]
theorem upTo_byte (s : ByteArray) (i : Nat) (h : i < s.size) : upTo s i ++ [((s[i]'h).toNat : Int)] = upTo s (i + 1) := by
  unfold upTo
  rw [List.append_assoc]
  congr 1
  rw [List.take_add_one, List.getElem?_append_left (by rw [numsOf_len]; exact h)]
  congr 1
  simp only [numsOf, List.getElem?_map, Array.getElem?_toList]
  rw [Array.getElem?_eq_getElem (show i < s.data.size from h)]
  rfl
theorem upTo_zero (s : ByteArray) (i : Nat) (h : s.size ≤ i) (h2 : i < s.size + padOf s.size) : upTo s i ++ [0] = upTo s (i + 1) := by
  unfold upTo
  rw [List.append_assoc]
  congr 1
  rw [List.take_add_one, List.getElem?_append_right (by rw [numsOf_len]; exact h), numsOf_len, List.getElem?_replicate, if_pos (by omega)]
  rfl
theorem numsOf_str (s : List Int) (h : ∀ x ∈ s, 0 ≤ x ∧ x < 256) : numsOf (strOfNums s) = s := by
  induction s with
  | nil => rfl
  | cons x s ih =>
    have hx := h x List.mem_cons_self
    have ih := ih fun y hy => h y (List.mem_cons_of_mem _ hy)
    simp only [numsOf, strOfNums, List.map_cons, List.map_map] at ih ⊢
    rw [ih]
    congr 1
    rw [UInt8.toNat_ofNat', Nat.mod_eq_of_lt (by omega)]
    omega
theorem le8_range (n : Int) : ∀ x ∈ le8 n, 0 ≤ x ∧ x < 256 := by
  intro x hx
  simp only [le8, List.mem_map] at hx
  obtain ⟨j, _, rfl⟩ := hx
  omega
set_option maxHeartbeats 8000000 in
set_option maxRecDepth 100000 in
theorem depotref03_Text.calls (a0 : ByteArray) (r : ByteArray) (w : World) (h : depotref03_Text.f a0 = some r) :
    Calls Try.prog 16 #[.string a0] w fun e w' => e = .returned (.string r) ∧ Below w.heap.size w w' := by
  unfold depotref03_Text.f at h
  by_cases hsz : a0.size ≤ 140737488351232
  case neg => rw [if_neg hsz] at h; exact absurd h (by simp)
  rw [if_pos hsz] at h
  have HR := Aside0.mk (Option.some.inj h)
  clear h
  obtain ⟨K, hK⟩ := Pure.refInt (a0.size : Int) (by omega) (by omega)
  have HI := Aside0.mk (hK K (Nat.le_refl _))
  clear hK
  have hwrap : IntKind.u64.wrap (a0.size : Int) = (a0.size : Int) := by
    have : IntKind.u64.wrap (a0.size : Int) = (a0.size : Int) % 18446744073709551616 := rfl
    omega
  go_enter Try.func16, Try.ntmps16
  have hsm : (strOfNums (le8 (a0.size : Int))).size = 8 := rfl
  go_wp2_with (first | (go_at_call 14; refine (depotref03_Int.calls K _ _ _ HI.out).mono ?_; rintro e w1 ⟨rfl, hb1⟩) | ((with_reducible refine gate_dst (N := 9) rfl ?_); refine T_conv (w0 := w) w.heap.size 5 rfl (N := 9) rfl 9 48 _ rfl _ rfl Try.underlying9 Try.underlying48 Try.underlying5 (by rw [hsm]; decide) hb1 hb1.size ?_; intro v3 w2 HO hb2))
  replace HO : OwnT w2 w.heap.size 5 v3 (upTo a0 0) := by
    have e : numsOf (strOfNums (le8 (a0.size : Int))) = upTo a0 0 := by rw [numsOf_str _ (le8_range _)]; simp [upTo]
    rw [e] at HO; exact HO
  have HO := Aside0.mk HO
  have HB := Aside0.mk hb2
  have hN : (a0.size + padOf a0.size) % 8 = 0 ∧ padOf a0.size < 8 := by unfold padOf; omega
  clear hb1 hb2 hwrap hsm
  obtain ⟨N, hNe⟩ : ∃ N, a0.size + padOf a0.size = N := ⟨_, rfl⟩
  go_loopg [3, 4] N (fun g v3 v4 wx => ∃ i : Nat, i + g = N ∧ v4 = .int .i64 (i : Int) ∧ Aside0 (OwnT wx w.heap.size 5 v3 (upTo a0 i)) ∧ Aside0 (Below w.heap.size w wx))
  case atStart => exact ⟨0, by omega, rfl, ⟨HO.out⟩, ⟨HB.out⟩⟩
  case round =>
    obtain ⟨i, hig, rfl, HO, HB⟩ := hrel
    cases gk with
    | zero =>
      obtain rfl : i = N := by omega
      have d1 : decide ((i : Int) < (a0.size : Int)) = false := decide_eq_false (by omega)
      have d2 : (((i : Int) % 8 : Int) != 0) = false := by
        have : (i : Int) % 8 = 0 := by omega
        rw [this]; rfl
      have hcv := OwnT.string (P := Try.prog) Try.underlying48 Try.underlying5 Try.underlying9 HO.out
      go_wp2
      go_ret
      exact ⟨by rw [← HR.out, ← upTo_all, hNe]; rfl, HB.out⟩
    | succ g =>
      by_cases hc : i < a0.size
      · have d1 : decide ((i : Int) < (a0.size : Int)) = true := decide_eq_true (by omega)
        have HU := Aside0.mk (upTo_byte a0 i hc)
        have hlen := upTo_len a0 i (by omega)
        go_wp2_with (first | ((with_reducible refine gate_builtin (b := .append) (xs := #[.tmp 25, .tmp 29]) rfl ?_); at_builtin; refine T_append (w0 := w) w.heap.size 5 rfl (.tmp 25) (.tmp 29) 48 rfl Try.underlying48 info5 _ _ _ rfl _ _ rfl (cell_lit _ _ _) (HO.out.alloc _) (below_alloc HB.out _) (below_alloc HB.out _).size (by omega) ?_; intro v1 w1 HO1 hb1))
        rw [HU.out] at HO1
        go_roundg g
        case measure => omega
        case rel => exact ⟨i + 1, by omega, by go_num, ⟨HO1⟩, ⟨hb1⟩⟩
      · have d1 : decide ((i : Int) < (a0.size : Int)) = false := decide_eq_false (by omega)
        have d2 : (((i : Int) % 8 : Int) != 0) = true := by
          have : (i : Int) % 8 ≠ 0 := by omega
          simpa using this
        have HU := Aside0.mk (upTo_zero a0 i (by omega) (by omega))
        have hlen := upTo_len a0 i (by omega)
        go_wp2_with (first | ((with_reducible refine gate_builtin (b := .append) (xs := #[.tmp 31, .tmp 32]) rfl ?_); at_builtin; refine T_append (w0 := w) w.heap.size 5 rfl (.tmp 31) (.tmp 32) 48 rfl Try.underlying48 info5 _ _ _ rfl _ _ rfl (cell_lit _ _ _) (HO.out.alloc _) (below_alloc HB.out _) (below_alloc HB.out _).size (by omega) ?_; intro v1 w1 HO1 hb1))
        rw [HU.out] at HO1
        go_roundg g
        case measure => omega
        case rel => exact ⟨i + 1, by omega, by go_num, ⟨HO1⟩, ⟨hb1⟩⟩
end Go.Proofs.Ytnilogameaaooaa.Q
/- strings.Repeat by the library's own contract. -/
namespace Go.Proofs.Ytnilogameaaooaa.Q
open Go.RowKit Go.Proofs.YtnilogameaaooaaW.PrintWords Go.Proofs.YtnilogameaaooaaW.PrintLast Go.Proofs.YtnilogameaaooaaW.PrintMore Go.Proofs.Ytnilogameaaooaa.Bytes
set_option linter.unusedVariables false
set_option linter.unusedSimpArgs false

def strings_Repeat.f (a0 : ByteArray) (a1 : Int) : Option (ByteArray) := if 0 ≤ a1 ∧ a1 ≤ 9223372036854775807 ∧ a0.size * a1.toNat ≤ 140737488355328 then some ⟨(Lib.repeatL a0.data.toList a1.toNat).toArray⟩ else none
theorem strings_Repeat.calls (a0 : ByteArray) (a1 : Int) (r : ByteArray) (w : World) (h : strings_Repeat.f a0 a1 = some r) :
    Calls Try.prog 33 #[.string a0, .int .i64 a1] w fun e w' => e = .returned (.string r) ∧ Below w.heap.size w w' := by
  unfold strings_Repeat.f at h
  split at h
  case isFalse => exact absurd h (by simp)
  case isTrue hc =>
    obtain rfl := Option.some.inj h
    obtain ⟨n, rfl⟩ := Int.eq_ofNat_of_zero_le hc.1
    refine (Try.strings_Repeat a0 n w (by omega) (by simpa using hc.2.2)).mono ?_
    rintro e w' ⟨rfl, hb⟩
    exact ⟨by simp, hb⟩
end Go.Proofs.Ytnilogameaaooaa.Q
/- wire.Text: its bytes are the document's. -/
namespace Go.Proofs.Ytnilogameaaooaa.Q
open Go.RowKit Go.Proofs.YtnilogameaaooaaW.PrintWords Go.Proofs.YtnilogameaaooaaW.PrintLast Go.Proofs.YtnilogameaaooaaW.PrintMore Go.Proofs.Ytnilogameaaooaa.Bytes Go.Proofs.Ytnilogameaaooaa.Tail
set_option linter.unusedVariables false
set_option linter.unusedSimpArgs false

theorem u64_nat (n : Nat) (h : n < 18446744073709551616) : IntKind.u64.wrap (n : Int) = (n : Int) := by
  have : IntKind.u64.wrap (n : Int) = (n : Int) % 18446744073709551616 := rfl
  omega
theorem bs_strOfNums (l : List Int) : bs (strOfNums l) = l.map fun n => UInt8.ofNat n.toNat := by simp [bs, strOfNums]
theorem bs_numsOf (s : ByteArray) : (numsOf s).map (fun n => UInt8.ofNat n.toNat) = bs s := by
  simp [numsOf, bs, Function.comp_def]
theorem text_size (s : ByteArray) : (strOfNums (frame8 s)).size = 8 + (s.size + padOf s.size) := by
  rw [size_bs, bs_strOfNums, List.length_map, frame8, List.length_append, List.length_append, numsOf_len, List.length_replicate]
  rfl
theorem mk_size (l : List UInt8) : (⟨l.toArray⟩ : ByteArray).size = l.length := rfl
theorem repeatL_one (x : UInt8) : ∀ c, Lib.repeatL [x] c = List.replicate c x
  | 0 => rfl
  | c + 1 => by simp [Lib.repeatL, repeatL_one x c, List.replicate_succ]
def wire_Text.f (a0 : ByteArray) : Option (ByteArray) := if a0.size ≤ 140737488351232 then some (strOfNums (frame8 a0)) else none
set_option maxHeartbeats 1000000 in
set_option maxRecDepth 100000 in
theorem wire_Text.calls (a0 : ByteArray) (r : ByteArray) (w : World) (h : wire_Text.f a0 = some r) :
    Calls Try.prog 15 #[.string a0] w fun e w' => e = .returned (.string r) ∧ Below w.heap.size w w' := by
  unfold wire_Text.f at h
  by_cases hsz : a0.size ≤ 140737488351232
  case neg => rw [if_neg hsz] at h; exact absurd h (by simp)
  rw [if_pos hsz] at h
  have HR := Aside0.mk (Option.some.inj h)
  clear h
  have hp : padOf a0.size < 8 := by unfold padOf; omega
  have he : -((a0.size : Int) % 8) % 8 = ((padOf a0.size : Nat) : Int) := by unfold padOf; omega
  have s8 : (strOfNums (le8 (a0.size : Int))).size = 8 := rfl
  have h1 : (⟨#[0]⟩ : ByteArray).size = 1 := rfl
  have HF : strOfNums (frame8 a0) = strOfNums (le8 (a0.size : Int)) ++ a0 ++ (⟨(Lib.repeatL [0] (padOf a0.size)).toArray⟩ : ByteArray) := by
    apply bs_inj
    rw [bs_append, bs_append, bs_strOfNums, bs_strOfNums, frame8, List.map_append, List.map_append, bs_numsOf, List.append_assoc, repeatL_one]
    congr 2
    rw [bs_mk]
    simp
  have sZ : (⟨(Lib.repeatL [0] (padOf a0.size)).toArray⟩ : ByteArray).size = padOf a0.size := by rw [mk_size, repeatL_one, List.length_replicate]
  have HI := Aside0.mk (show wire_Int.f (a0.size : Int) = some (strOfNums (le8 (a0.size : Int))) from rfl)
  have HP := Aside0.mk (show strings_Repeat.f (⟨#[0]⟩ : ByteArray) (-((a0.size : Int) % 8) % 8) = some ⟨(Lib.repeatL [0] (padOf a0.size)).toArray⟩ by
    unfold strings_Repeat.f
    rw [he, if_pos ⟨by omega, by omega, by rw [h1]; omega⟩, Int.toNat_natCast])
  generalize strOfNums (le8 (a0.size : Int)) = X at s8 HF HI
  generalize (⟨(Lib.repeatL [0] (padOf a0.size)).toArray⟩ : ByteArray) = Z at sZ HF HP
  rw [HF] at HR
  have c1 : X.size + a0.size ≤ 9223372036854775807 := by omega
  have c2 : (X ++ a0).size + Z.size ≤ 9223372036854775807 := by rw [ByteArray.size_append]; omega
  have c1b := eq_true c1
  have c1d : decide (X.size + a0.size ≤ 9223372036854775807) = true := decide_eq_true c1
  have c2b := eq_true c2
  have c2d : decide ((X ++ a0).size + Z.size ≤ 9223372036854775807) = true := decide_eq_true c2
  clear he HF s8 sZ h1 hp
  go_enter Try.func15, Try.ntmps15
  go_wp2_with (first | (go_at_call 13; refine (wire_Int.calls _ _ _ HI.out).mono ?_; rintro e w1 ⟨rfl, hb1⟩) | (go_at_call 33; refine (strings_Repeat.calls _ _ _ _ HP.out).mono ?_; rintro e w2 ⟨rfl, hb2⟩))
  go_ret
  exact ⟨by rw [← HR.out]; rfl, below_step hb1 hb2⟩
end Go.Proofs.Ytnilogameaaooaa.Q
/- By a program of this session's: a plain Lean function for a Go function, and its contract. -/
namespace Go.Proofs.Ytnilogameaaooaa.Q
open Go.RowKit Go.Proofs.YtnilogameaaooaaW.PrintWords Go.Proofs.YtnilogameaaooaaW.PrintLast Go.Proofs.YtnilogameaaooaaW.PrintMore
attribute [local go_sem] max2_int min2_int max_two min_two max_three min_three max_four min_four Go.Proofs.Ytnilogameaaooaa.Ord.str_leq Go.Proofs.Ytnilogameaaooaa.Ord.str_gtr Go.Proofs.Ytnilogameaaooaa.Ord.str_geq   -- for this text's walks alone
set_option linter.unusedVariables false
set_option linter.unusedSimpArgs false

/-! ### depotlaw03_awake: function 18 -/
def depotlaw03_awake.j0 : Nat → Bool → Option (Bool)
  | 0, _ => none
  | k + 1, x8 => if x8 = true then (some false) else ((wire_Int.f 7).bind fun t124 => ((wire_Text.f (⟨#[97]⟩ : ByteArray)).bind fun t125 => (if t124.size + t125.size ≤ 9223372036854775807 then ((wire_Split.f (t124 ++ t125) (⟨#[105, 116]⟩ : ByteArray) 1).bind fun bt126 => (if bt126.2.1 = 0 then (if (bt126.1.length : Int) = 2 then (if 0 < (bt126.1.length : Int) then (if (rd_T55 bt126.1 0).f0 = true then (if ((rd_T55 bt126.1 0).f1) = 7 then (if 1 < (bt126.1.length : Int) then (some (((rd_T55 bt126.1 1).f2).toList == ([97] : List UInt8))) else (none)) else (some false)) else (some false)) else (none)) else (some false)) else (some false))) else (none))))
def depotlaw03_awake.f (k : Nat)  : Option (Bool) := (wire_Text.f (⟨#[97]⟩ : ByteArray)).bind fun t122 => (if t122.toList = ([1, 0, 0, 0, 0, 0, 0, 0, 97, 0, 0, 0, 0, 0, 0, 0] : List UInt8) then ((wire_Int.f 258).bind fun t123 => (depotlaw03_awake.j0 k (t123.toList != ([2, 1, 0, 0, 0, 0, 0, 0] : List UInt8)))) else (depotlaw03_awake.j0 k true))
theorem depotlaw03_awake.mono_l : ∀ k, (∀ y0, LeO (depotlaw03_awake.j0 k y0) (depotlaw03_awake.j0 (k + 1) y0))
  | 0 => fun _ r h => by simp [depotlaw03_awake.j0] at h
  | k + 1 => by
    have ih0 := depotlaw03_awake.mono_l k
    · intro y0
      unfold depotlaw03_awake.j0
      repeat' first
      | (with_reducible exact ih0 _)
      | (with_reducible exact LeO.refl _)
      | (with_reducible exact LeO.none _)
      | (with_reducible refine LeO.ite ?_ ?_)
      | (with_reducible refine LeO.bind ?_ (fun _ => ?_))
      | exact ih0 _
      | exact LeO.none _
      | refine LeO.ite ?_ ?_
      | refine LeO.bind ?_ (fun _ => ?_)
theorem depotlaw03_awake.mono : ∀ k, LeO (depotlaw03_awake.f k ) (depotlaw03_awake.f (k + 1) ) := by
  intro  k
  have ih0 := depotlaw03_awake.mono_l k
  unfold depotlaw03_awake.f
  repeat' first
      | (with_reducible exact ih0 _)
      | (with_reducible exact LeO.refl _)
      | (with_reducible exact LeO.none _)
      | (with_reducible refine LeO.ite ?_ ?_)
      | (with_reducible refine LeO.bind ?_ (fun _ => ?_))
      | exact ih0 _
      | exact LeO.none _
      | refine LeO.ite ?_ ?_
      | refine LeO.bind ?_ (fun _ => ?_)
set_option maxHeartbeats 8000000 in
set_option maxRecDepth 100000 in
theorem depotlaw03_awake.calls (k : Nat)  (r : Bool) (w : World) (h : depotlaw03_awake.f k  = some r) :
    Calls Try.prog 18 #[] w fun e w' => e = .returned (.bool r) ∧ Below w.heap.size w w' := by
  have hu31 := Try.underlying31
  have HB := Aside0.mk (Below.refl w.heap.size w)
  have H : ((wire_Text.f (⟨#[97]⟩ : ByteArray)).bind fun t122 => (if t122.toList = ([1, 0, 0, 0, 0, 0, 0, 0, 97, 0, 0, 0, 0, 0, 0, 0] : List UInt8) then ((wire_Int.f 258).bind fun t123 => (depotlaw03_awake.j0 k (t123.toList != ([2, 1, 0, 0, 0, 0, 0, 0] : List UInt8)))) else (depotlaw03_awake.j0 k true))) = some r := h
  clear h
  have HC1 := Aside0.mk H
  clear H
  go_enter Try.func18, Try.ntmps18
  go_upto_region 1 with (fail)
  go_cut [8] (fun v8 wc => ∃ (kq : Nat) (x8_0 : Bool), v8 = .bool x8_0 ∧ Aside0 (depotlaw03_awake.j0 kq x8_0 = some r) ∧ Aside0 (kq ≤ k) ∧ Aside0 (Below w.heap.size w wc))
  case first =>
    have H := HC1.out
    clear HC1
    replace H := Option.bind_eq_some_iff.mp H
    obtain ⟨t122, A20, H⟩ := H
    replace H : (if t122.toList = ([1, 0, 0, 0, 0, 0, 0, 0, 97, 0, 0, 0, 0, 0, 0, 0] : List UInt8) then ((wire_Int.f 258).bind fun t123 => (depotlaw03_awake.j0 k (t123.toList != ([2, 1, 0, 0, 0, 0, 0, 0] : List UInt8)))) else (depotlaw03_awake.j0 k true)) = some r := H
    have A2 := Aside0.mk A20
    clear A20
    by_cases c3 : t122.toList = ([1, 0, 0, 0, 0, 0, 0, 0, 97, 0, 0, 0, 0, 0, 0, 0] : List UInt8)
    · rw [if_pos c3] at H
      have c3b0 : (t122.toList == ([1, 0, 0, 0, 0, 0, 0, 0, 97, 0, 0, 0, 0, 0, 0, 0] : List UInt8)) = true := beq_iff_eq.mpr c3
      have c3b1 : (t122.toList != ([1, 0, 0, 0, 0, 0, 0, 0, 97, 0, 0, 0, 0, 0, 0, 0] : List UInt8)) = false := bne_eq_false_iff_eq.mpr c3
      clear c3
      (first | rw [c3b0] | (simp only [i64_w, i32_w]; rw [c3b0]) | skip)
      replace H := Option.bind_eq_some_iff.mp H
      obtain ⟨t123, A40, H⟩ := H
      replace H : (depotlaw03_awake.j0 k (t123.toList != ([2, 1, 0, 0, 0, 0, 0, 0] : List UInt8))) = some r := H
      have A4 := Aside0.mk A40
      clear A40
      have H' := Aside0.mk H
      clear H
      go_wp2_with (first | ((with_reducible refine gate_callee (f := 15) rfl ?_); refine goesL_ (some 3) rfl rfl Try.func15 (by kernel_rfl) rfl #[.string (⟨#[97]⟩ : ByteArray)] rfl (by (try simp only [List.map_toArray, List.map_cons, List.map_nil]); first | done | rfl | (simp only [List.length_drop, List.length_take]; rfl)) ?_; (with_reducible refine (wire_Text.calls (⟨#[97]⟩ : ByteArray) t122 _ A2.out).mono ?_); rintro e w5 ⟨rfl, hb⟩; refine ⟨_, rfl, ?_⟩; have n0_ := Aside0.mk (below_step (by repeat (first | (with_reducible first | exact HB.out | apply below_alloc | apply pw_below_drewN | apply below_drew1) | exact HB.out)) hb); clear HB; have HB := n0_; clear n0_; (try clear hb); (try clear hb2); (try clear hk); (try clear hi)) | (go_at_call 13; (with_reducible refine (wire_Int.calls 258 t123 _ A4.out).mono ?_); rintro e w6 ⟨rfl, hb⟩; have n0_ := Aside0.mk (below_step (by repeat (first | (with_reducible first | exact HB.out | apply below_alloc | apply pw_below_drewN | apply below_drew1) | exact HB.out)) hb); clear HB; have HB := n0_; clear n0_; (try clear hb); (try clear hb2); (try clear hk); (try clear hi)))
      go_meet
      case rel => exact ⟨_, ((t123.toList != ([2, 1, 0, 0, 0, 0, 0, 0] : List UInt8))), (by first | rfl | (simp; done) | (simp [*]; done)), H', ⟨by first | omega | exact Nat.le_refl _⟩, ⟨by repeat (first | (with_reducible first | exact HB.out | apply below_alloc | apply pw_below_drewN | apply below_drew1) | exact HB.out)⟩⟩
    · rw [if_neg c3] at H
      have c3b0 : (t122.toList == ([1, 0, 0, 0, 0, 0, 0, 0, 97, 0, 0, 0, 0, 0, 0, 0] : List UInt8)) = false := beq_eq_false_iff_ne.mpr c3
      have c3b1 : (t122.toList != ([1, 0, 0, 0, 0, 0, 0, 0, 97, 0, 0, 0, 0, 0, 0, 0] : List UInt8)) = true := bne_iff_ne.mpr c3
      (first | rw [c3b0] | (simp only [i64_w, i32_w]; rw [c3b0]) | skip)
      have H' := Aside0.mk H
      clear H
      go_wp2_with (first | ((with_reducible refine gate_callee (f := 15) rfl ?_); refine goesL_ (some 3) rfl rfl Try.func15 (by kernel_rfl) rfl #[.string (⟨#[97]⟩ : ByteArray)] rfl (by (try simp only [List.map_toArray, List.map_cons, List.map_nil]); first | done | rfl | (simp only [List.length_drop, List.length_take]; rfl)) ?_; (with_reducible refine (wire_Text.calls (⟨#[97]⟩ : ByteArray) t122 _ A2.out).mono ?_); rintro e w7 ⟨rfl, hb⟩; refine ⟨_, rfl, ?_⟩; have n0_ := Aside0.mk (below_step (by repeat (first | (with_reducible first | exact HB.out | apply below_alloc | apply pw_below_drewN | apply below_drew1) | exact HB.out)) hb); clear HB; have HB := n0_; clear n0_; (try clear hb); (try clear hb2); (try clear hk); (try clear hi)))
      go_meet
      case rel => exact ⟨_, (true), (by first | rfl | (simp; done) | (simp [*]; done)), H', ⟨by first | omega | exact Nat.le_refl _⟩, ⟨by repeat (first | (with_reducible first | exact HB.out | apply below_alloc | apply pw_below_drewN | apply below_drew1) | exact HB.out)⟩⟩
  case rest =>
    clear HC1
    try clear c1
    try clear p2
    try clear c3
    try clear c3b0
    try clear c3b1
    obtain ⟨kq, x8_0, rfl, HA, HJ0, HB⟩ := hcut
    cases kq with
    | zero => exact absurd HA.out (by simp [depotlaw03_awake.j0])
    | succ kj0 =>
      have H := HA.out
      clear HA
      simp only [depotlaw03_awake.j0] at H
      by_cases c8 : x8_0 = true
      · subst c8
        have H1 : (some false) = some r := by rw [if_pos rfl] at H; exact H
        clear H
        have H := H1
        clear H1
        obtain rfl := Option.some.inj H
        go_wp2
        go_ret
        exact ⟨by first | rfl | (simp [errW_none, errW_some] <;> rfl) | (simp [*, errW_none, errW_some] <;> rfl), by repeat (first | (with_reducible first | exact HB.out | apply below_alloc | apply pw_below_drewN | apply below_drew1) | exact HB.out)⟩
      · replace c8 := Bool.eq_false_iff.mpr c8
        subst c8
        have H1 : ((wire_Int.f 7).bind fun t124 => ((wire_Text.f (⟨#[97]⟩ : ByteArray)).bind fun t125 => (if t124.size + t125.size ≤ 9223372036854775807 then ((wire_Split.f (t124 ++ t125) (⟨#[105, 116]⟩ : ByteArray) 1).bind fun bt126 => (if bt126.2.1 = 0 then (if (bt126.1.length : Int) = 2 then (if 0 < (bt126.1.length : Int) then (if (rd_T55 bt126.1 0).f0 = true then (if ((rd_T55 bt126.1 0).f1) = 7 then (if 1 < (bt126.1.length : Int) then (some (((rd_T55 bt126.1 1).f2).toList == ([97] : List UInt8))) else (none)) else (some false)) else (some false)) else (none)) else (some false)) else (some false))) else (none)))) = some r := by rw [if_neg (show ¬ (false = true) by decide)] at H; exact H
        clear H
        have H := H1
        clear H1
        replace H := Option.bind_eq_some_iff.mp H
        obtain ⟨t124, A90, H⟩ := H
        replace H : ((wire_Text.f (⟨#[97]⟩ : ByteArray)).bind fun t125 => (if t124.size + t125.size ≤ 9223372036854775807 then ((wire_Split.f (t124 ++ t125) (⟨#[105, 116]⟩ : ByteArray) 1).bind fun bt126 => (if bt126.2.1 = 0 then (if (bt126.1.length : Int) = 2 then (if 0 < (bt126.1.length : Int) then (if (rd_T55 bt126.1 0).f0 = true then (if ((rd_T55 bt126.1 0).f1) = 7 then (if 1 < (bt126.1.length : Int) then (some (((rd_T55 bt126.1 1).f2).toList == ([97] : List UInt8))) else (none)) else (some false)) else (some false)) else (none)) else (some false)) else (some false))) else (none))) = some r := H
        have A9 := Aside0.mk A90
        clear A90
        replace H := Option.bind_eq_some_iff.mp H
        obtain ⟨t125, A100, H⟩ := H
        replace H : (if t124.size + t125.size ≤ 9223372036854775807 then ((wire_Split.f (t124 ++ t125) (⟨#[105, 116]⟩ : ByteArray) 1).bind fun bt126 => (if bt126.2.1 = 0 then (if (bt126.1.length : Int) = 2 then (if 0 < (bt126.1.length : Int) then (if (rd_T55 bt126.1 0).f0 = true then (if ((rd_T55 bt126.1 0).f1) = 7 then (if 1 < (bt126.1.length : Int) then (some (((rd_T55 bt126.1 1).f2).toList == ([97] : List UInt8))) else (none)) else (some false)) else (some false)) else (none)) else (some false)) else (some false))) else (none)) = some r := H
        have A10 := Aside0.mk A100
        clear A100
        by_cases c11 : t124.size + t125.size ≤ 9223372036854775807
        · rw [if_pos c11] at H
          have c11b0 := eq_true c11
          have c11b1 : decide (t124.size + t125.size ≤ 9223372036854775807) = true := decide_eq_true c11
          try have c11b2 : (9223372036854775807 < t124.size + t125.size) = False := eq_false (Nat.not_lt.2 c11)
          replace H := Option.bind_eq_some_iff.mp H
          obtain ⟨⟨t126, t129, t130⟩, A120, H⟩ := H
          replace H : (if t129 = 0 then (if (t126.length : Int) = 2 then (if 0 < (t126.length : Int) then (if (rd_T55 t126 0).f0 = true then (if ((rd_T55 t126 0).f1) = 7 then (if 1 < (t126.length : Int) then (some (((rd_T55 t126 1).f2).toList == ([97] : List UInt8))) else (none)) else (some false)) else (some false)) else (none)) else (some false)) else (some false)) = some r := H
          have A12 := Aside0.mk A120
          clear A120
          by_cases c13 : t129 = 0
          · rw [if_pos c13] at H
            have c13b0 : (t129 == 0) = true := beq_iff_eq.mpr c13
            have c13b1 : (t129 != 0) = false := bne_eq_false_iff_eq.mpr c13
            clear c13
            by_cases c14 : (t126.length : Int) = 2
            · rw [if_pos c14] at H
              have c14b0 : ((t126.length : Int) == 2) = true := beq_iff_eq.mpr c14
              have c14b1 : ((t126.length : Int) != 2) = false := bne_eq_false_iff_eq.mpr c14
              clear c14
              by_cases c15 : 0 < (t126.length : Int)
              · rw [if_pos c15] at H
                have c15b0 : decide (0 < (t126.length : Int)) = true := decide_eq_true c15
                have c15b1 : decide (0 < t126.length) = true := decide_eq_true (by omega)
                clear c15
                obtain ⟨bq16, hbq16⟩ : ∃ b_ : Bool, b_ = ((rd_T55 t126 0).f0) := ⟨_, rfl⟩
                replace H : (if bq16 = true then (if ((rd_T55 t126 0).f1) = 7 then (if 1 < (t126.length : Int) then (some (((rd_T55 t126 1).f2).toList == ([97] : List UInt8))) else (none)) else (some false)) else (some false)) = some r := by rw [← hbq16] at H; exact H
                have Nbq16 := Aside0.mk hbq16
                clear hbq16
                by_cases c17 : bq16 = true
                · subst c17
                  have H1 : (if ((rd_T55 t126 0).f1) = 7 then (if 1 < (t126.length : Int) then (some (((rd_T55 t126 1).f2).toList == ([97] : List UInt8))) else (none)) else (some false)) = some r := by rw [if_pos rfl] at H; exact H
                  clear H
                  have H := H1
                  clear H1
                  by_cases c18 : ((rd_T55 t126 0).f1) = 7
                  · rw [if_pos c18] at H
                    have c18b0 : (((rd_T55 t126 0).f1) == 7) = true := beq_iff_eq.mpr c18
                    have c18b1 : (((rd_T55 t126 0).f1) != 7) = false := bne_eq_false_iff_eq.mpr c18
                    clear c18
                    by_cases c19 : 1 < (t126.length : Int)
                    · rw [if_pos c19] at H
                      have c19b0 : decide (1 < (t126.length : Int)) = true := decide_eq_true c19
                      have c19b1 : decide (1 < t126.length) = true := decide_eq_true (by omega)
                      clear c19
                      obtain rfl := Option.some.inj H
                      go_wp2_with (first | ((with_reducible refine gate_callee (f := 13) rfl ?_); refine goesL_ (some 10) rfl rfl Try.func13 (by kernel_rfl) rfl #[.int .u64 7] rfl (by (try simp only [List.map_toArray, List.map_cons, List.map_nil]); first | done | rfl | (simp only [List.length_drop, List.length_take]; rfl)) ?_; (with_reducible refine (wire_Int.calls 7 t124 _ A9.out).mono ?_); rintro e w20 ⟨rfl, hb⟩; refine ⟨_, rfl, ?_⟩; have n0_ := Aside0.mk (below_step (by repeat (first | (with_reducible first | exact HB.out | apply below_alloc | apply pw_below_drewN | apply below_drew1) | exact HB.out)) hb); clear HB; have HB := n0_; clear n0_; (try clear hb); (try clear hb2); (try clear hk); (try clear hi)) | ((with_reducible refine gate_callee (f := 15) rfl ?_); refine goesL_ (some 11) rfl rfl Try.func15 (by kernel_rfl) rfl #[.string (⟨#[97]⟩ : ByteArray)] rfl (by (try simp only [List.map_toArray, List.map_cons, List.map_nil]); first | done | rfl | (simp only [List.length_drop, List.length_take]; rfl)) ?_; (with_reducible refine (wire_Text.calls (⟨#[97]⟩ : ByteArray) t125 _ A10.out).mono ?_); rintro e w21 ⟨rfl, hb⟩; refine ⟨_, rfl, ?_⟩; have n0_ := Aside0.mk (below_step (by repeat (first | (with_reducible first | exact HB.out | apply below_alloc | apply pw_below_drewN | apply below_drew1) | exact HB.out)) hb); clear HB; have HB := n0_; clear n0_; (try clear hb); (try clear hb2); (try clear hk); (try clear hi)) | ((with_reducible refine gate_callee (f := 19) rfl ?_); refine goesL_ (some 13) rfl rfl Try.func19 (by kernel_rfl) rfl #[.string (t124 ++ t125), .string (⟨#[105, 116]⟩ : ByteArray), .int .i64 1] rfl (by (try simp only [List.map_toArray, List.map_cons, List.map_nil]); first | done | rfl | (simp only [List.length_drop, List.length_take]; rfl)) ?_; (with_reducible refine (wire_Split.calls (t124 ++ t125) (⟨#[105, 116]⟩ : ByteArray) 1 t126 t129 t130 _ A12.out).mono ?_); rintro e w22 ⟨v127, rfl, ho0, hb⟩; refine ⟨_, rfl, ?_⟩; have n0_ := Aside0.mk (Kd.R_lower ho0 (below_size (by repeat (first | (with_reducible first | exact HB.out | apply below_alloc | apply pw_below_drewN | apply below_drew1) | exact HB.out)))); have n1_ := Aside0.mk (below_step (by repeat (first | (with_reducible first | exact HB.out | apply below_alloc | apply pw_below_drewN | apply below_drew1) | exact HB.out)) hb); clear HB; have HO128 := n0_; have HB := n1_; clear n0_ n1_; (try clear hb); (try clear hb2); (try clear hk); (try clear hi); (try clear ho0)) | ((with_reducible refine gate_dst (N := 2) rfl ?_); (try (refine gate_guard (by rfl) ?_; dsimp only)); refine box_event ?hg (N := 2) ?hd (cs := #[.int .i64 0, .int .i64 0]) (t := 31) ?hr ?_; (case hd => rfl); (case hg => rfl); (case hr => first | (go_simp; done) | (go_simp; rfl)); intro gb131 hg w23 hbox hb; have n0_ := Aside0.mk (Kd.R_below (by (with_reducible repeat (first | apply Kd.R_alloc | apply Kd.R_drewN | apply Kd.R_drew)); exact HO128.out) hb); have n1_ := Aside0.mk (below_step (by repeat (first | (with_reducible first | exact HB.out | apply below_alloc | apply pw_below_drewN | apply below_drew1) | exact HB.out)) hb); have n2_ := Aside0.mk (hbox); have n3_ := Aside0.mk ((by rw [hg]; exact (below_size (by repeat (first | (with_reducible first | exact HB.out | apply below_alloc | apply pw_below_drewN | apply below_drew1) | exact HB.out))) : w.heap.size ≤ gb131)); have n4_ := Aside0.mk ((by rw [hg]; exact (below_size (by repeat (first | (with_reducible first | exact HB.out | apply below_alloc | apply pw_below_drewN | apply below_drew1) | exact HB.out))) : w.heap.size ≤ gb131)); clear HO128; clear HB; have HO128 := n0_; have HB := n1_; have BK131 := n2_; have GW131 := n3_; have GE131 := n4_; clear n0_ n1_ n2_ n3_ n4_; clear hb hbox hg; have hcz24_0 : w23.cell? ⟨gb131, 0, none⟩ = some (.int .i64 0) := (blk_cell BK131.out 0).trans rfl; have hcz24_1 : w23.cell? ⟨gb131, 1, none⟩ = some (.int .i64 0) := (blk_cell BK131.out 1).trans rfl; have hfz24_0 := blk_frozen BK131.out 0; have hfz24_1 := blk_frozen BK131.out 1; obtain ⟨Ao25, co25, eo25⟩ := Kd.R_slice HO128.out; subst eo25; have p132 : 0 ≤ (0 : Int) := (by omega); have q132 : 0 < (t126.length : Int) := of_decide_eq_true (by first | (with_reducible assumption) | assumption); obtain ⟨ad132, e132, hx132_0, hx132_1, hx132_2⟩ := at_T55 (Kd.R_reads' HO128.out).2.2 0 p132 q132; (try rw [← Nbq16.out] at hx132_0); cases e132; have qi132 : (0 < t126.length) = True := eq_true (by omega); (try rw [show ((0 : Int)).toNat = 0 from rfl] at hx132_0); (try rw [show 0 * 3 = 0 from rfl] at hx132_0); (try rw [Addr.add_zero'] at hx132_0); (try rw [show ((0 : Int)).toNat = 0 from rfl] at hx132_1); (try rw [show 0 * 3 = 0 from rfl] at hx132_1); (try rw [Addr.add_zero'] at hx132_1); (try rw [show ((0 : Int)).toNat = 0 from rfl] at hx132_2); (try rw [show 0 * 3 = 0 from rfl] at hx132_2); (try rw [Addr.add_zero'] at hx132_2); have hn132_0 : ad132.block ≠ gb131 := Kd.own_blk (Kd.R_ne HO128.out BK131.out (by decide)); have hn132_1 : ad132.block ≠ gb131 := Kd.own_blk (Kd.R_ne HO128.out BK131.out (by decide)); replace hx132_0 := (cell_far (p := ⟨gb131, 0, none⟩) (by first | (rw [add_block]; exact hn132_0) | (show (Addr.add _ _).block ≠ _; rw [add_block]; exact hn132_0) | exact hn132_0) (.int .i64 t129)).trans hx132_0; replace hx132_1 := (cell_far (p := ⟨gb131, 0, none⟩) (by first | (rw [add_block]; exact hn132_0) | (show (Addr.add _ _).block ≠ _; rw [add_block]; exact hn132_0) | exact hn132_0) (.int .i64 t129)).trans hx132_1; replace hx132_2 := (cell_far (p := ⟨gb131, 0, none⟩) (by first | (rw [add_block]; exact hn132_0) | (show (Addr.add _ _).block ≠ _; rw [add_block]; exact hn132_0) | exact hn132_0) (.int .i64 t129)).trans hx132_2; replace hx132_0 := (cell_far (p := ⟨gb131, 1, none⟩) (by first | (rw [add_block]; exact hn132_1) | (show (Addr.add _ _).block ≠ _; rw [add_block]; exact hn132_1) | exact hn132_1) (.int .i64 t130)).trans hx132_0; replace hx132_1 := (cell_far (p := ⟨gb131, 1, none⟩) (by first | (rw [add_block]; exact hn132_1) | (show (Addr.add _ _).block ≠ _; rw [add_block]; exact hn132_1) | exact hn132_1) (.int .i64 t130)).trans hx132_1; replace hx132_2 := (cell_far (p := ⟨gb131, 1, none⟩) (by first | (rw [add_block]; exact hn132_1) | (show (Addr.add _ _).block ≠ _; rw [add_block]; exact hn132_1) | exact hn132_1) (.int .i64 t130)).trans hx132_2; clear hn132_0; clear hn132_1; replace p132 := eq_true p132; replace q132 := eq_true q132; have p133 : 0 ≤ (0 : Int) := (by omega); have q133 : 0 < (t126.length : Int) := of_decide_eq_true (by first | (with_reducible assumption) | assumption); obtain ⟨ad133, e133, hx133_0, hx133_1, hx133_2⟩ := at_T55 (Kd.R_reads' HO128.out).2.2 0 p133 q133; (try rw [← Nbq16.out] at hx133_0); obtain rfl : ad132 = ad133 := (by injection e133); have qi133 : (0 < t126.length) = True := eq_true (by omega); (try rw [show ((0 : Int)).toNat = 0 from rfl] at hx133_0); (try rw [show 0 * 3 = 0 from rfl] at hx133_0); (try rw [Addr.add_zero'] at hx133_0); (try rw [show ((0 : Int)).toNat = 0 from rfl] at hx133_1); (try rw [show 0 * 3 = 0 from rfl] at hx133_1); (try rw [Addr.add_zero'] at hx133_1); (try rw [show ((0 : Int)).toNat = 0 from rfl] at hx133_2); (try rw [show 0 * 3 = 0 from rfl] at hx133_2); (try rw [Addr.add_zero'] at hx133_2); have hn133_0 : ad132.block ≠ gb131 := Kd.own_blk (Kd.R_ne HO128.out BK131.out (by decide)); have hn133_1 : ad132.block ≠ gb131 := Kd.own_blk (Kd.R_ne HO128.out BK131.out (by decide)); replace hx133_0 := (cell_far (p := ⟨gb131, 0, none⟩) (by first | (rw [add_block]; exact hn133_0) | (show (Addr.add _ _).block ≠ _; rw [add_block]; exact hn133_0) | exact hn133_0) (.int .i64 t129)).trans hx133_0; replace hx133_1 := (cell_far (p := ⟨gb131, 0, none⟩) (by first | (rw [add_block]; exact hn133_0) | (show (Addr.add _ _).block ≠ _; rw [add_block]; exact hn133_0) | exact hn133_0) (.int .i64 t129)).trans hx133_1; replace hx133_2 := (cell_far (p := ⟨gb131, 0, none⟩) (by first | (rw [add_block]; exact hn133_0) | (show (Addr.add _ _).block ≠ _; rw [add_block]; exact hn133_0) | exact hn133_0) (.int .i64 t129)).trans hx133_2; replace hx133_0 := (cell_far (p := ⟨gb131, 1, none⟩) (by first | (rw [add_block]; exact hn133_1) | (show (Addr.add _ _).block ≠ _; rw [add_block]; exact hn133_1) | exact hn133_1) (.int .i64 t130)).trans hx133_0; replace hx133_1 := (cell_far (p := ⟨gb131, 1, none⟩) (by first | (rw [add_block]; exact hn133_1) | (show (Addr.add _ _).block ≠ _; rw [add_block]; exact hn133_1) | exact hn133_1) (.int .i64 t130)).trans hx133_1; replace hx133_2 := (cell_far (p := ⟨gb131, 1, none⟩) (by first | (rw [add_block]; exact hn133_1) | (show (Addr.add _ _).block ≠ _; rw [add_block]; exact hn133_1) | exact hn133_1) (.int .i64 t130)).trans hx133_2; clear hn133_0; clear hn133_1; replace p133 := eq_true p133; replace q133 := eq_true q133; have p134 : 0 ≤ (1 : Int) := (by omega); have q134 : 1 < (t126.length : Int) := of_decide_eq_true (by first | (with_reducible assumption) | assumption); obtain ⟨ad134, e134, hx134_0, hx134_1, hx134_2⟩ := at_T55 (Kd.R_reads' HO128.out).2.2 1 p134 q134; (try rw [← Nbq16.out] at hx134_0); obtain rfl : ad132 = ad134 := (by injection e134); (try simp only [show (1 : Int).toNat = 1 from rfl, Nat.reduceMul, Nat.reduceEqDiff, Go.Addr.add, ↓reduceIte] at hx134_0); (try simp only [show (1 : Int).toNat = 1 from rfl, Nat.reduceMul, Nat.reduceEqDiff, Go.Addr.add, ↓reduceIte] at hx134_1); (try simp only [show (1 : Int).toNat = 1 from rfl, Nat.reduceMul, Nat.reduceEqDiff, Go.Addr.add, ↓reduceIte] at hx134_2); have qi134 : (1 < t126.length) = True := eq_true (by omega); (try rw [show ((1 : Int)).toNat = 1 from rfl] at hx134_0); (try rw [show 1 * 3 = 3 from rfl] at hx134_0); (try rw [show ((1 : Int)).toNat = 1 from rfl] at hx134_1); (try rw [show 1 * 3 = 3 from rfl] at hx134_1); (try rw [show ((1 : Int)).toNat = 1 from rfl] at hx134_2); (try rw [show 1 * 3 = 3 from rfl] at hx134_2); have hn134_0 : ad132.block ≠ gb131 := Kd.own_blk (Kd.R_ne HO128.out BK131.out (by decide)); have hn134_1 : ad132.block ≠ gb131 := Kd.own_blk (Kd.R_ne HO128.out BK131.out (by decide)); replace hx134_0 := (cell_far (p := ⟨gb131, 0, none⟩) (by first | (rw [add_block]; exact hn134_0) | (show (Addr.add _ _).block ≠ _; rw [add_block]; exact hn134_0) | exact hn134_0) (.int .i64 t129)).trans hx134_0; replace hx134_1 := (cell_far (p := ⟨gb131, 0, none⟩) (by first | (rw [add_block]; exact hn134_0) | (show (Addr.add _ _).block ≠ _; rw [add_block]; exact hn134_0) | exact hn134_0) (.int .i64 t129)).trans hx134_1; replace hx134_2 := (cell_far (p := ⟨gb131, 0, none⟩) (by first | (rw [add_block]; exact hn134_0) | (show (Addr.add _ _).block ≠ _; rw [add_block]; exact hn134_0) | exact hn134_0) (.int .i64 t129)).trans hx134_2; replace hx134_0 := (cell_far (p := ⟨gb131, 1, none⟩) (by first | (rw [add_block]; exact hn134_1) | (show (Addr.add _ _).block ≠ _; rw [add_block]; exact hn134_1) | exact hn134_1) (.int .i64 t130)).trans hx134_0; replace hx134_1 := (cell_far (p := ⟨gb131, 1, none⟩) (by first | (rw [add_block]; exact hn134_1) | (show (Addr.add _ _).block ≠ _; rw [add_block]; exact hn134_1) | exact hn134_1) (.int .i64 t130)).trans hx134_1; replace hx134_2 := (cell_far (p := ⟨gb131, 1, none⟩) (by first | (rw [add_block]; exact hn134_1) | (show (Addr.add _ _).block ≠ _; rw [add_block]; exact hn134_1) | exact hn134_1) (.int .i64 t130)).trans hx134_2; clear hn134_0; clear hn134_1; replace p134 := eq_true p134; replace q134 := eq_true q134))
                      go_ret
                      exact ⟨by first | rfl | (simp [errW_none, errW_some] <;> rfl) | (simp [*, errW_none, errW_some] <;> rfl), by repeat (first | (with_reducible first | exact HB.out | apply below_alloc | apply pw_below_drewN | apply below_drew1 | refine below_set ?_ GE131.out) | exact HB.out)⟩
                    · rw [if_neg c19] at H
                      exact absurd H (by simp)
                  · rw [if_neg c18] at H
                    have c18b0 : (((rd_T55 t126 0).f1) == 7) = false := beq_eq_false_iff_ne.mpr c18
                    have c18b1 : (((rd_T55 t126 0).f1) != 7) = true := bne_iff_ne.mpr c18
                    obtain rfl := Option.some.inj H
                    go_wp2_with (first | ((with_reducible refine gate_callee (f := 13) rfl ?_); refine goesL_ (some 10) rfl rfl Try.func13 (by kernel_rfl) rfl #[.int .u64 7] rfl (by (try simp only [List.map_toArray, List.map_cons, List.map_nil]); first | done | rfl | (simp only [List.length_drop, List.length_take]; rfl)) ?_; (with_reducible refine (wire_Int.calls 7 t124 _ A9.out).mono ?_); rintro e w26 ⟨rfl, hb⟩; refine ⟨_, rfl, ?_⟩; have n0_ := Aside0.mk (below_step (by repeat (first | (with_reducible first | exact HB.out | apply below_alloc | apply pw_below_drewN | apply below_drew1) | exact HB.out)) hb); clear HB; have HB := n0_; clear n0_; (try clear hb); (try clear hb2); (try clear hk); (try clear hi)) | ((with_reducible refine gate_callee (f := 15) rfl ?_); refine goesL_ (some 11) rfl rfl Try.func15 (by kernel_rfl) rfl #[.string (⟨#[97]⟩ : ByteArray)] rfl (by (try simp only [List.map_toArray, List.map_cons, List.map_nil]); first | done | rfl | (simp only [List.length_drop, List.length_take]; rfl)) ?_; (with_reducible refine (wire_Text.calls (⟨#[97]⟩ : ByteArray) t125 _ A10.out).mono ?_); rintro e w27 ⟨rfl, hb⟩; refine ⟨_, rfl, ?_⟩; have n0_ := Aside0.mk (below_step (by repeat (first | (with_reducible first | exact HB.out | apply below_alloc | apply pw_below_drewN | apply below_drew1) | exact HB.out)) hb); clear HB; have HB := n0_; clear n0_; (try clear hb); (try clear hb2); (try clear hk); (try clear hi)) | ((with_reducible refine gate_callee (f := 19) rfl ?_); refine goesL_ (some 13) rfl rfl Try.func19 (by kernel_rfl) rfl #[.string (t124 ++ t125), .string (⟨#[105, 116]⟩ : ByteArray), .int .i64 1] rfl (by (try simp only [List.map_toArray, List.map_cons, List.map_nil]); first | done | rfl | (simp only [List.length_drop, List.length_take]; rfl)) ?_; (with_reducible refine (wire_Split.calls (t124 ++ t125) (⟨#[105, 116]⟩ : ByteArray) 1 t126 t129 t130 _ A12.out).mono ?_); rintro e w28 ⟨v127, rfl, ho0, hb⟩; refine ⟨_, rfl, ?_⟩; have n0_ := Aside0.mk (Kd.R_lower ho0 (below_size (by repeat (first | (with_reducible first | exact HB.out | apply below_alloc | apply pw_below_drewN | apply below_drew1) | exact HB.out)))); have n1_ := Aside0.mk (below_step (by repeat (first | (with_reducible first | exact HB.out | apply below_alloc | apply pw_below_drewN | apply below_drew1) | exact HB.out)) hb); clear HB; have HO128 := n0_; have HB := n1_; clear n0_ n1_; (try clear hb); (try clear hb2); (try clear hk); (try clear hi); (try clear ho0)) | ((with_reducible refine gate_dst (N := 2) rfl ?_); (try (refine gate_guard (by rfl) ?_; dsimp only)); refine box_event ?hg (N := 2) ?hd (cs := #[.int .i64 0, .int .i64 0]) (t := 31) ?hr ?_; (case hd => rfl); (case hg => rfl); (case hr => first | (go_simp; done) | (go_simp; rfl)); intro gb131 hg w29 hbox hb; have n0_ := Aside0.mk (Kd.R_below (by (with_reducible repeat (first | apply Kd.R_alloc | apply Kd.R_drewN | apply Kd.R_drew)); exact HO128.out) hb); have n1_ := Aside0.mk (below_step (by repeat (first | (with_reducible first | exact HB.out | apply below_alloc | apply pw_below_drewN | apply below_drew1) | exact HB.out)) hb); have n2_ := Aside0.mk (hbox); have n3_ := Aside0.mk ((by rw [hg]; exact (below_size (by repeat (first | (with_reducible first | exact HB.out | apply below_alloc | apply pw_below_drewN | apply below_drew1) | exact HB.out))) : w.heap.size ≤ gb131)); have n4_ := Aside0.mk ((by rw [hg]; exact (below_size (by repeat (first | (with_reducible first | exact HB.out | apply below_alloc | apply pw_below_drewN | apply below_drew1) | exact HB.out))) : w.heap.size ≤ gb131)); clear HO128; clear HB; have HO128 := n0_; have HB := n1_; have BK131 := n2_; have GW131 := n3_; have GE131 := n4_; clear n0_ n1_ n2_ n3_ n4_; clear hb hbox hg; have hcz30_0 : w29.cell? ⟨gb131, 0, none⟩ = some (.int .i64 0) := (blk_cell BK131.out 0).trans rfl; have hcz30_1 : w29.cell? ⟨gb131, 1, none⟩ = some (.int .i64 0) := (blk_cell BK131.out 1).trans rfl; have hfz30_0 := blk_frozen BK131.out 0; have hfz30_1 := blk_frozen BK131.out 1; obtain ⟨Ao31, co31, eo31⟩ := Kd.R_slice HO128.out; subst eo31; have p132 : 0 ≤ (0 : Int) := (by omega); have q132 : 0 < (t126.length : Int) := of_decide_eq_true (by first | (with_reducible assumption) | assumption); obtain ⟨ad132, e132, hx132_0, hx132_1, hx132_2⟩ := at_T55 (Kd.R_reads' HO128.out).2.2 0 p132 q132; (try rw [← Nbq16.out] at hx132_0); cases e132; have qi132 : (0 < t126.length) = True := eq_true (by omega); (try rw [show ((0 : Int)).toNat = 0 from rfl] at hx132_0); (try rw [show 0 * 3 = 0 from rfl] at hx132_0); (try rw [Addr.add_zero'] at hx132_0); (try rw [show ((0 : Int)).toNat = 0 from rfl] at hx132_1); (try rw [show 0 * 3 = 0 from rfl] at hx132_1); (try rw [Addr.add_zero'] at hx132_1); (try rw [show ((0 : Int)).toNat = 0 from rfl] at hx132_2); (try rw [show 0 * 3 = 0 from rfl] at hx132_2); (try rw [Addr.add_zero'] at hx132_2); have hn132_0 : ad132.block ≠ gb131 := Kd.own_blk (Kd.R_ne HO128.out BK131.out (by decide)); have hn132_1 : ad132.block ≠ gb131 := Kd.own_blk (Kd.R_ne HO128.out BK131.out (by decide)); replace hx132_0 := (cell_far (p := ⟨gb131, 0, none⟩) (by first | (rw [add_block]; exact hn132_0) | (show (Addr.add _ _).block ≠ _; rw [add_block]; exact hn132_0) | exact hn132_0) (.int .i64 t129)).trans hx132_0; replace hx132_1 := (cell_far (p := ⟨gb131, 0, none⟩) (by first | (rw [add_block]; exact hn132_0) | (show (Addr.add _ _).block ≠ _; rw [add_block]; exact hn132_0) | exact hn132_0) (.int .i64 t129)).trans hx132_1; replace hx132_2 := (cell_far (p := ⟨gb131, 0, none⟩) (by first | (rw [add_block]; exact hn132_0) | (show (Addr.add _ _).block ≠ _; rw [add_block]; exact hn132_0) | exact hn132_0) (.int .i64 t129)).trans hx132_2; replace hx132_0 := (cell_far (p := ⟨gb131, 1, none⟩) (by first | (rw [add_block]; exact hn132_1) | (show (Addr.add _ _).block ≠ _; rw [add_block]; exact hn132_1) | exact hn132_1) (.int .i64 t130)).trans hx132_0; replace hx132_1 := (cell_far (p := ⟨gb131, 1, none⟩) (by first | (rw [add_block]; exact hn132_1) | (show (Addr.add _ _).block ≠ _; rw [add_block]; exact hn132_1) | exact hn132_1) (.int .i64 t130)).trans hx132_1; replace hx132_2 := (cell_far (p := ⟨gb131, 1, none⟩) (by first | (rw [add_block]; exact hn132_1) | (show (Addr.add _ _).block ≠ _; rw [add_block]; exact hn132_1) | exact hn132_1) (.int .i64 t130)).trans hx132_2; clear hn132_0; clear hn132_1; replace p132 := eq_true p132; replace q132 := eq_true q132; have p133 : 0 ≤ (0 : Int) := (by omega); have q133 : 0 < (t126.length : Int) := of_decide_eq_true (by first | (with_reducible assumption) | assumption); obtain ⟨ad133, e133, hx133_0, hx133_1, hx133_2⟩ := at_T55 (Kd.R_reads' HO128.out).2.2 0 p133 q133; (try rw [← Nbq16.out] at hx133_0); obtain rfl : ad132 = ad133 := (by injection e133); have qi133 : (0 < t126.length) = True := eq_true (by omega); (try rw [show ((0 : Int)).toNat = 0 from rfl] at hx133_0); (try rw [show 0 * 3 = 0 from rfl] at hx133_0); (try rw [Addr.add_zero'] at hx133_0); (try rw [show ((0 : Int)).toNat = 0 from rfl] at hx133_1); (try rw [show 0 * 3 = 0 from rfl] at hx133_1); (try rw [Addr.add_zero'] at hx133_1); (try rw [show ((0 : Int)).toNat = 0 from rfl] at hx133_2); (try rw [show 0 * 3 = 0 from rfl] at hx133_2); (try rw [Addr.add_zero'] at hx133_2); have hn133_0 : ad132.block ≠ gb131 := Kd.own_blk (Kd.R_ne HO128.out BK131.out (by decide)); have hn133_1 : ad132.block ≠ gb131 := Kd.own_blk (Kd.R_ne HO128.out BK131.out (by decide)); replace hx133_0 := (cell_far (p := ⟨gb131, 0, none⟩) (by first | (rw [add_block]; exact hn133_0) | (show (Addr.add _ _).block ≠ _; rw [add_block]; exact hn133_0) | exact hn133_0) (.int .i64 t129)).trans hx133_0; replace hx133_1 := (cell_far (p := ⟨gb131, 0, none⟩) (by first | (rw [add_block]; exact hn133_0) | (show (Addr.add _ _).block ≠ _; rw [add_block]; exact hn133_0) | exact hn133_0) (.int .i64 t129)).trans hx133_1; replace hx133_2 := (cell_far (p := ⟨gb131, 0, none⟩) (by first | (rw [add_block]; exact hn133_0) | (show (Addr.add _ _).block ≠ _; rw [add_block]; exact hn133_0) | exact hn133_0) (.int .i64 t129)).trans hx133_2; replace hx133_0 := (cell_far (p := ⟨gb131, 1, none⟩) (by first | (rw [add_block]; exact hn133_1) | (show (Addr.add _ _).block ≠ _; rw [add_block]; exact hn133_1) | exact hn133_1) (.int .i64 t130)).trans hx133_0; replace hx133_1 := (cell_far (p := ⟨gb131, 1, none⟩) (by first | (rw [add_block]; exact hn133_1) | (show (Addr.add _ _).block ≠ _; rw [add_block]; exact hn133_1) | exact hn133_1) (.int .i64 t130)).trans hx133_1; replace hx133_2 := (cell_far (p := ⟨gb131, 1, none⟩) (by first | (rw [add_block]; exact hn133_1) | (show (Addr.add _ _).block ≠ _; rw [add_block]; exact hn133_1) | exact hn133_1) (.int .i64 t130)).trans hx133_2; clear hn133_0; clear hn133_1; replace p133 := eq_true p133; replace q133 := eq_true q133))
                    go_ret
                    exact ⟨by first | rfl | (simp [errW_none, errW_some] <;> rfl) | (simp [*, errW_none, errW_some] <;> rfl), by repeat (first | (with_reducible first | exact HB.out | apply below_alloc | apply pw_below_drewN | apply below_drew1 | refine below_set ?_ GE131.out) | exact HB.out)⟩
                · replace c17 := Bool.eq_false_iff.mpr c17
                  subst c17
                  have H1 : (some false) = some r := by rw [if_neg (show ¬ (false = true) by decide)] at H; exact H
                  clear H
                  have H := H1
                  clear H1
                  obtain rfl := Option.some.inj H
                  go_wp2_with (first | ((with_reducible refine gate_callee (f := 13) rfl ?_); refine goesL_ (some 10) rfl rfl Try.func13 (by kernel_rfl) rfl #[.int .u64 7] rfl (by (try simp only [List.map_toArray, List.map_cons, List.map_nil]); first | done | rfl | (simp only [List.length_drop, List.length_take]; rfl)) ?_; (with_reducible refine (wire_Int.calls 7 t124 _ A9.out).mono ?_); rintro e w32 ⟨rfl, hb⟩; refine ⟨_, rfl, ?_⟩; have n0_ := Aside0.mk (below_step (by repeat (first | (with_reducible first | exact HB.out | apply below_alloc | apply pw_below_drewN | apply below_drew1) | exact HB.out)) hb); clear HB; have HB := n0_; clear n0_; (try clear hb); (try clear hb2); (try clear hk); (try clear hi)) | ((with_reducible refine gate_callee (f := 15) rfl ?_); refine goesL_ (some 11) rfl rfl Try.func15 (by kernel_rfl) rfl #[.string (⟨#[97]⟩ : ByteArray)] rfl (by (try simp only [List.map_toArray, List.map_cons, List.map_nil]); first | done | rfl | (simp only [List.length_drop, List.length_take]; rfl)) ?_; (with_reducible refine (wire_Text.calls (⟨#[97]⟩ : ByteArray) t125 _ A10.out).mono ?_); rintro e w33 ⟨rfl, hb⟩; refine ⟨_, rfl, ?_⟩; have n0_ := Aside0.mk (below_step (by repeat (first | (with_reducible first | exact HB.out | apply below_alloc | apply pw_below_drewN | apply below_drew1) | exact HB.out)) hb); clear HB; have HB := n0_; clear n0_; (try clear hb); (try clear hb2); (try clear hk); (try clear hi)) | ((with_reducible refine gate_callee (f := 19) rfl ?_); refine goesL_ (some 13) rfl rfl Try.func19 (by kernel_rfl) rfl #[.string (t124 ++ t125), .string (⟨#[105, 116]⟩ : ByteArray), .int .i64 1] rfl (by (try simp only [List.map_toArray, List.map_cons, List.map_nil]); first | done | rfl | (simp only [List.length_drop, List.length_take]; rfl)) ?_; (with_reducible refine (wire_Split.calls (t124 ++ t125) (⟨#[105, 116]⟩ : ByteArray) 1 t126 t129 t130 _ A12.out).mono ?_); rintro e w34 ⟨v127, rfl, ho0, hb⟩; refine ⟨_, rfl, ?_⟩; have n0_ := Aside0.mk (Kd.R_lower ho0 (below_size (by repeat (first | (with_reducible first | exact HB.out | apply below_alloc | apply pw_below_drewN | apply below_drew1) | exact HB.out)))); have n1_ := Aside0.mk (below_step (by repeat (first | (with_reducible first | exact HB.out | apply below_alloc | apply pw_below_drewN | apply below_drew1) | exact HB.out)) hb); clear HB; have HO128 := n0_; have HB := n1_; clear n0_ n1_; (try clear hb); (try clear hb2); (try clear hk); (try clear hi); (try clear ho0)) | ((with_reducible refine gate_dst (N := 2) rfl ?_); (try (refine gate_guard (by rfl) ?_; dsimp only)); refine box_event ?hg (N := 2) ?hd (cs := #[.int .i64 0, .int .i64 0]) (t := 31) ?hr ?_; (case hd => rfl); (case hg => rfl); (case hr => first | (go_simp; done) | (go_simp; rfl)); intro gb131 hg w35 hbox hb; have n0_ := Aside0.mk (Kd.R_below (by (with_reducible repeat (first | apply Kd.R_alloc | apply Kd.R_drewN | apply Kd.R_drew)); exact HO128.out) hb); have n1_ := Aside0.mk (below_step (by repeat (first | (with_reducible first | exact HB.out | apply below_alloc | apply pw_below_drewN | apply below_drew1) | exact HB.out)) hb); have n2_ := Aside0.mk (hbox); have n3_ := Aside0.mk ((by rw [hg]; exact (below_size (by repeat (first | (with_reducible first | exact HB.out | apply below_alloc | apply pw_below_drewN | apply below_drew1) | exact HB.out))) : w.heap.size ≤ gb131)); have n4_ := Aside0.mk ((by rw [hg]; exact (below_size (by repeat (first | (with_reducible first | exact HB.out | apply below_alloc | apply pw_below_drewN | apply below_drew1) | exact HB.out))) : w.heap.size ≤ gb131)); clear HO128; clear HB; have HO128 := n0_; have HB := n1_; have BK131 := n2_; have GW131 := n3_; have GE131 := n4_; clear n0_ n1_ n2_ n3_ n4_; clear hb hbox hg; have hcz36_0 : w35.cell? ⟨gb131, 0, none⟩ = some (.int .i64 0) := (blk_cell BK131.out 0).trans rfl; have hcz36_1 : w35.cell? ⟨gb131, 1, none⟩ = some (.int .i64 0) := (blk_cell BK131.out 1).trans rfl; have hfz36_0 := blk_frozen BK131.out 0; have hfz36_1 := blk_frozen BK131.out 1; obtain ⟨Ao37, co37, eo37⟩ := Kd.R_slice HO128.out; subst eo37; have p132 : 0 ≤ (0 : Int) := (by omega); have q132 : 0 < (t126.length : Int) := of_decide_eq_true (by first | (with_reducible assumption) | assumption); obtain ⟨ad132, e132, hx132_0, hx132_1, hx132_2⟩ := at_T55 (Kd.R_reads' HO128.out).2.2 0 p132 q132; (try rw [← Nbq16.out] at hx132_0); cases e132; have qi132 : (0 < t126.length) = True := eq_true (by omega); (try rw [show ((0 : Int)).toNat = 0 from rfl] at hx132_0); (try rw [show 0 * 3 = 0 from rfl] at hx132_0); (try rw [Addr.add_zero'] at hx132_0); (try rw [show ((0 : Int)).toNat = 0 from rfl] at hx132_1); (try rw [show 0 * 3 = 0 from rfl] at hx132_1); (try rw [Addr.add_zero'] at hx132_1); (try rw [show ((0 : Int)).toNat = 0 from rfl] at hx132_2); (try rw [show 0 * 3 = 0 from rfl] at hx132_2); (try rw [Addr.add_zero'] at hx132_2); have hn132_0 : ad132.block ≠ gb131 := Kd.own_blk (Kd.R_ne HO128.out BK131.out (by decide)); have hn132_1 : ad132.block ≠ gb131 := Kd.own_blk (Kd.R_ne HO128.out BK131.out (by decide)); replace hx132_0 := (cell_far (p := ⟨gb131, 0, none⟩) (by first | (rw [add_block]; exact hn132_0) | (show (Addr.add _ _).block ≠ _; rw [add_block]; exact hn132_0) | exact hn132_0) (.int .i64 t129)).trans hx132_0; replace hx132_1 := (cell_far (p := ⟨gb131, 0, none⟩) (by first | (rw [add_block]; exact hn132_0) | (show (Addr.add _ _).block ≠ _; rw [add_block]; exact hn132_0) | exact hn132_0) (.int .i64 t129)).trans hx132_1; replace hx132_2 := (cell_far (p := ⟨gb131, 0, none⟩) (by first | (rw [add_block]; exact hn132_0) | (show (Addr.add _ _).block ≠ _; rw [add_block]; exact hn132_0) | exact hn132_0) (.int .i64 t129)).trans hx132_2; replace hx132_0 := (cell_far (p := ⟨gb131, 1, none⟩) (by first | (rw [add_block]; exact hn132_1) | (show (Addr.add _ _).block ≠ _; rw [add_block]; exact hn132_1) | exact hn132_1) (.int .i64 t130)).trans hx132_0; replace hx132_1 := (cell_far (p := ⟨gb131, 1, none⟩) (by first | (rw [add_block]; exact hn132_1) | (show (Addr.add _ _).block ≠ _; rw [add_block]; exact hn132_1) | exact hn132_1) (.int .i64 t130)).trans hx132_1; replace hx132_2 := (cell_far (p := ⟨gb131, 1, none⟩) (by first | (rw [add_block]; exact hn132_1) | (show (Addr.add _ _).block ≠ _; rw [add_block]; exact hn132_1) | exact hn132_1) (.int .i64 t130)).trans hx132_2; clear hn132_0; clear hn132_1; replace p132 := eq_true p132; replace q132 := eq_true q132))
                  go_ret
                  exact ⟨by first | rfl | (simp [errW_none, errW_some] <;> rfl) | (simp [*, errW_none, errW_some] <;> rfl), by repeat (first | (with_reducible first | exact HB.out | apply below_alloc | apply pw_below_drewN | apply below_drew1 | refine below_set ?_ GE131.out) | exact HB.out)⟩
              · rw [if_neg c15] at H
                exact absurd H (by simp)
            · rw [if_neg c14] at H
              have c14b0 : ((t126.length : Int) == 2) = false := beq_eq_false_iff_ne.mpr c14
              have c14b1 : ((t126.length : Int) != 2) = true := bne_iff_ne.mpr c14
              obtain rfl := Option.some.inj H
              go_wp2_with (first | ((with_reducible refine gate_callee (f := 13) rfl ?_); refine goesL_ (some 10) rfl rfl Try.func13 (by kernel_rfl) rfl #[.int .u64 7] rfl (by (try simp only [List.map_toArray, List.map_cons, List.map_nil]); first | done | rfl | (simp only [List.length_drop, List.length_take]; rfl)) ?_; (with_reducible refine (wire_Int.calls 7 t124 _ A9.out).mono ?_); rintro e w38 ⟨rfl, hb⟩; refine ⟨_, rfl, ?_⟩; have n0_ := Aside0.mk (below_step (by repeat (first | (with_reducible first | exact HB.out | apply below_alloc | apply pw_below_drewN | apply below_drew1) | exact HB.out)) hb); clear HB; have HB := n0_; clear n0_; (try clear hb); (try clear hb2); (try clear hk); (try clear hi)) | ((with_reducible refine gate_callee (f := 15) rfl ?_); refine goesL_ (some 11) rfl rfl Try.func15 (by kernel_rfl) rfl #[.string (⟨#[97]⟩ : ByteArray)] rfl (by (try simp only [List.map_toArray, List.map_cons, List.map_nil]); first | done | rfl | (simp only [List.length_drop, List.length_take]; rfl)) ?_; (with_reducible refine (wire_Text.calls (⟨#[97]⟩ : ByteArray) t125 _ A10.out).mono ?_); rintro e w39 ⟨rfl, hb⟩; refine ⟨_, rfl, ?_⟩; have n0_ := Aside0.mk (below_step (by repeat (first | (with_reducible first | exact HB.out | apply below_alloc | apply pw_below_drewN | apply below_drew1) | exact HB.out)) hb); clear HB; have HB := n0_; clear n0_; (try clear hb); (try clear hb2); (try clear hk); (try clear hi)) | ((with_reducible refine gate_callee (f := 19) rfl ?_); refine goesL_ (some 13) rfl rfl Try.func19 (by kernel_rfl) rfl #[.string (t124 ++ t125), .string (⟨#[105, 116]⟩ : ByteArray), .int .i64 1] rfl (by (try simp only [List.map_toArray, List.map_cons, List.map_nil]); first | done | rfl | (simp only [List.length_drop, List.length_take]; rfl)) ?_; (with_reducible refine (wire_Split.calls (t124 ++ t125) (⟨#[105, 116]⟩ : ByteArray) 1 t126 t129 t130 _ A12.out).mono ?_); rintro e w40 ⟨v127, rfl, ho0, hb⟩; refine ⟨_, rfl, ?_⟩; have n0_ := Aside0.mk (Kd.R_lower ho0 (below_size (by repeat (first | (with_reducible first | exact HB.out | apply below_alloc | apply pw_below_drewN | apply below_drew1) | exact HB.out)))); have n1_ := Aside0.mk (below_step (by repeat (first | (with_reducible first | exact HB.out | apply below_alloc | apply pw_below_drewN | apply below_drew1) | exact HB.out)) hb); clear HB; have HO128 := n0_; have HB := n1_; clear n0_ n1_; (try clear hb); (try clear hb2); (try clear hk); (try clear hi); (try clear ho0)) | ((with_reducible refine gate_dst (N := 2) rfl ?_); (try (refine gate_guard (by rfl) ?_; dsimp only)); refine box_event ?hg (N := 2) ?hd (cs := #[.int .i64 0, .int .i64 0]) (t := 31) ?hr ?_; (case hd => rfl); (case hg => rfl); (case hr => first | (go_simp; done) | (go_simp; rfl)); intro gb131 hg w41 hbox hb; have n0_ := Aside0.mk (Kd.R_below (by (with_reducible repeat (first | apply Kd.R_alloc | apply Kd.R_drewN | apply Kd.R_drew)); exact HO128.out) hb); have n1_ := Aside0.mk (below_step (by repeat (first | (with_reducible first | exact HB.out | apply below_alloc | apply pw_below_drewN | apply below_drew1) | exact HB.out)) hb); have n2_ := Aside0.mk (hbox); have n3_ := Aside0.mk ((by rw [hg]; exact (below_size (by repeat (first | (with_reducible first | exact HB.out | apply below_alloc | apply pw_below_drewN | apply below_drew1) | exact HB.out))) : w.heap.size ≤ gb131)); have n4_ := Aside0.mk ((by rw [hg]; exact (below_size (by repeat (first | (with_reducible first | exact HB.out | apply below_alloc | apply pw_below_drewN | apply below_drew1) | exact HB.out))) : w.heap.size ≤ gb131)); clear HO128; clear HB; have HO128 := n0_; have HB := n1_; have BK131 := n2_; have GW131 := n3_; have GE131 := n4_; clear n0_ n1_ n2_ n3_ n4_; clear hb hbox hg; have hcz42_0 : w41.cell? ⟨gb131, 0, none⟩ = some (.int .i64 0) := (blk_cell BK131.out 0).trans rfl; have hcz42_1 : w41.cell? ⟨gb131, 1, none⟩ = some (.int .i64 0) := (blk_cell BK131.out 1).trans rfl; have hfz42_0 := blk_frozen BK131.out 0; have hfz42_1 := blk_frozen BK131.out 1; obtain ⟨Ao43, co43, eo43⟩ := Kd.R_slice HO128.out; subst eo43))
              go_ret
              exact ⟨by first | rfl | (simp [errW_none, errW_some] <;> rfl) | (simp [*, errW_none, errW_some] <;> rfl), by repeat (first | (with_reducible first | exact HB.out | apply below_alloc | apply pw_below_drewN | apply below_drew1 | refine below_set ?_ GE131.out) | exact HB.out)⟩
          · rw [if_neg c13] at H
            have c13b0 : (t129 == 0) = false := beq_eq_false_iff_ne.mpr c13
            have c13b1 : (t129 != 0) = true := bne_iff_ne.mpr c13
            obtain rfl := Option.some.inj H
            go_wp2_with (first | ((with_reducible refine gate_callee (f := 13) rfl ?_); refine goesL_ (some 10) rfl rfl Try.func13 (by kernel_rfl) rfl #[.int .u64 7] rfl (by (try simp only [List.map_toArray, List.map_cons, List.map_nil]); first | done | rfl | (simp only [List.length_drop, List.length_take]; rfl)) ?_; (with_reducible refine (wire_Int.calls 7 t124 _ A9.out).mono ?_); rintro e w44 ⟨rfl, hb⟩; refine ⟨_, rfl, ?_⟩; have n0_ := Aside0.mk (below_step (by repeat (first | (with_reducible first | exact HB.out | apply below_alloc | apply pw_below_drewN | apply below_drew1) | exact HB.out)) hb); clear HB; have HB := n0_; clear n0_; (try clear hb); (try clear hb2); (try clear hk); (try clear hi)) | ((with_reducible refine gate_callee (f := 15) rfl ?_); refine goesL_ (some 11) rfl rfl Try.func15 (by kernel_rfl) rfl #[.string (⟨#[97]⟩ : ByteArray)] rfl (by (try simp only [List.map_toArray, List.map_cons, List.map_nil]); first | done | rfl | (simp only [List.length_drop, List.length_take]; rfl)) ?_; (with_reducible refine (wire_Text.calls (⟨#[97]⟩ : ByteArray) t125 _ A10.out).mono ?_); rintro e w45 ⟨rfl, hb⟩; refine ⟨_, rfl, ?_⟩; have n0_ := Aside0.mk (below_step (by repeat (first | (with_reducible first | exact HB.out | apply below_alloc | apply pw_below_drewN | apply below_drew1) | exact HB.out)) hb); clear HB; have HB := n0_; clear n0_; (try clear hb); (try clear hb2); (try clear hk); (try clear hi)) | ((with_reducible refine gate_callee (f := 19) rfl ?_); refine goesL_ (some 13) rfl rfl Try.func19 (by kernel_rfl) rfl #[.string (t124 ++ t125), .string (⟨#[105, 116]⟩ : ByteArray), .int .i64 1] rfl (by (try simp only [List.map_toArray, List.map_cons, List.map_nil]); first | done | rfl | (simp only [List.length_drop, List.length_take]; rfl)) ?_; (with_reducible refine (wire_Split.calls (t124 ++ t125) (⟨#[105, 116]⟩ : ByteArray) 1 t126 t129 t130 _ A12.out).mono ?_); rintro e w46 ⟨v127, rfl, ho0, hb⟩; refine ⟨_, rfl, ?_⟩; have n0_ := Aside0.mk (Kd.R_lower ho0 (below_size (by repeat (first | (with_reducible first | exact HB.out | apply below_alloc | apply pw_below_drewN | apply below_drew1) | exact HB.out)))); have n1_ := Aside0.mk (below_step (by repeat (first | (with_reducible first | exact HB.out | apply below_alloc | apply pw_below_drewN | apply below_drew1) | exact HB.out)) hb); clear HB; have HO128 := n0_; have HB := n1_; clear n0_ n1_; (try clear hb); (try clear hb2); (try clear hk); (try clear hi); (try clear ho0)) | ((with_reducible refine gate_dst (N := 2) rfl ?_); (try (refine gate_guard (by rfl) ?_; dsimp only)); refine box_event ?hg (N := 2) ?hd (cs := #[.int .i64 0, .int .i64 0]) (t := 31) ?hr ?_; (case hd => rfl); (case hg => rfl); (case hr => first | (go_simp; done) | (go_simp; rfl)); intro gb131 hg w47 hbox hb; have n0_ := Aside0.mk (Kd.R_below (by (with_reducible repeat (first | apply Kd.R_alloc | apply Kd.R_drewN | apply Kd.R_drew)); exact HO128.out) hb); have n1_ := Aside0.mk (below_step (by repeat (first | (with_reducible first | exact HB.out | apply below_alloc | apply pw_below_drewN | apply below_drew1) | exact HB.out)) hb); have n2_ := Aside0.mk (hbox); have n3_ := Aside0.mk ((by rw [hg]; exact (below_size (by repeat (first | (with_reducible first | exact HB.out | apply below_alloc | apply pw_below_drewN | apply below_drew1) | exact HB.out))) : w.heap.size ≤ gb131)); have n4_ := Aside0.mk ((by rw [hg]; exact (below_size (by repeat (first | (with_reducible first | exact HB.out | apply below_alloc | apply pw_below_drewN | apply below_drew1) | exact HB.out))) : w.heap.size ≤ gb131)); clear HO128; clear HB; have HO128 := n0_; have HB := n1_; have BK131 := n2_; have GW131 := n3_; have GE131 := n4_; clear n0_ n1_ n2_ n3_ n4_; clear hb hbox hg; have hcz48_0 : w47.cell? ⟨gb131, 0, none⟩ = some (.int .i64 0) := (blk_cell BK131.out 0).trans rfl; have hcz48_1 : w47.cell? ⟨gb131, 1, none⟩ = some (.int .i64 0) := (blk_cell BK131.out 1).trans rfl; have hfz48_0 := blk_frozen BK131.out 0; have hfz48_1 := blk_frozen BK131.out 1))
            go_ret
            exact ⟨by first | rfl | (simp [errW_none, errW_some] <;> rfl) | (simp [*, errW_none, errW_some] <;> rfl), by repeat (first | (with_reducible first | exact HB.out | apply below_alloc | apply pw_below_drewN | apply below_drew1 | refine below_set ?_ GE131.out) | exact HB.out)⟩
        · rw [if_neg c11] at H
          exact absurd H (by simp)

end Go.Proofs.Ytnilogameaaooaa.Q
/- By a program of this session's: a plain Lean function for a Go function, and its contract. -/
namespace Go.Proofs.Ytnilogameaaooaa.Q
open Go.RowKit Go.Proofs.YtnilogameaaooaaW.PrintWords Go.Proofs.YtnilogameaaooaaW.PrintLast Go.Proofs.YtnilogameaaooaaW.PrintMore
attribute [local go_sem] max2_int min2_int max_two min_two max_three min_three max_four min_four Go.Proofs.Ytnilogameaaooaa.Ord.str_leq Go.Proofs.Ytnilogameaaooaa.Ord.str_gtr Go.Proofs.Ytnilogameaaooaa.Ord.str_geq   -- for this text's walks alone
set_option linter.unusedVariables false
set_option linter.unusedSimpArgs false

theorem eqA55 (d : Nat) (w : World) (x0 y0 : Bool) (x1 y1 : Int) (x2 y2 : ByteArray) :
    (Op.equalIn (d + 2) 55 (.agg #[.bool x0, .int .u64 x1, .string x2]) (.agg #[.bool y0, .int .u64 y1, .string y2])).run Try.prog w = .ok (x0 == y0 && (x1 == y1 && (x2.toList == y2.toList))) w := by
  refine eqA_of Try.underlying55 (by kernel_rfl) ?_
  refine eqf_cons (by rfl) (by go_simp; rfl) (by go_simp; rfl) (by go_simp) ?_
  refine eqf_cons (by rfl) (by go_simp; rfl) (by go_simp; rfl) (by go_simp) ?_
  exact eqf_last (by rfl) (by go_simp; rfl) (by go_simp; rfl) (by go_simp)
end Go.Proofs.Ytnilogameaaooaa.Q
/- By a program of this session's: a plain Lean function for a Go function, and its contract. -/
namespace Go.Proofs.Ytnilogameaaooaa.Q
open Go.RowKit Go.Proofs.YtnilogameaaooaaW.PrintWords Go.Proofs.YtnilogameaaooaaW.PrintLast Go.Proofs.YtnilogameaaooaaW.PrintMore
attribute [local go_sem] max2_int min2_int max_two min_two max_three min_three max_four min_four Go.Proofs.Ytnilogameaaooaa.Ord.str_leq Go.Proofs.Ytnilogameaaooaa.Ord.str_gtr Go.Proofs.Ytnilogameaaooaa.Ord.str_geq   -- for this text's walks alone
set_option linter.unusedVariables false
set_option linter.unusedSimpArgs false

attribute [local go_sem high] eqA55
/-! ### depotlaw03_alike: function 26 -/
def depotlaw03_alike.l0 : Nat → List (S55) → List (S55) → Int → Int → Option (Bool)
  | 0, _, _, _, _ => none
  | k + 1, x0, x1, x12, x13 => if x13 < x12 then (if 0 ≤ x13 then (if x13 < (x0.length : Int) then (if x13 < (x1.length : Int) then (if (!(((rd_T55 x0 x13).f0) == ((rd_T55 x1 x13).f0)) || (!(((rd_T55 x0 x13).f1) == ((rd_T55 x1 x13).f1)) || (!((((rd_T55 x0 x13).f2).toList) == (((rd_T55 x1 x13).f2).toList))))) = true then (some false) else (depotlaw03_alike.l0 k x0 x1 x12 (wrap64 (x13 + 1)))) else (none)) else (none)) else (none)) else (some true)
def depotlaw03_alike.f (k : Nat) (l0 : List (S55)) (l1 : List (S55)) : Option (Bool) := if (l0.length : Int) = (l1.length : Int) then (depotlaw03_alike.l0 k l0 l1 (l0.length : Int) 0) else (some false)
theorem depotlaw03_alike.mono_l : ∀ k, (∀ y0 y1 y2 y3, LeO (depotlaw03_alike.l0 k y0 y1 y2 y3) (depotlaw03_alike.l0 (k + 1) y0 y1 y2 y3))
  | 0 => fun _ _ _ _ r h => by simp [depotlaw03_alike.l0] at h
  | k + 1 => by
    have ih0 := depotlaw03_alike.mono_l k
    · intro y0 y1 y2 y3
      unfold depotlaw03_alike.l0
      repeat' first
      | (with_reducible exact ih0 _ _ _ _)
      | (with_reducible exact LeO.refl _)
      | (with_reducible exact LeO.none _)
      | (with_reducible refine LeO.ite ?_ ?_)
      | (with_reducible refine LeO.bind ?_ (fun _ => ?_))
      | exact ih0 _ _ _ _
      | exact LeO.none _
      | refine LeO.ite ?_ ?_
      | refine LeO.bind ?_ (fun _ => ?_)
theorem depotlaw03_alike.mono : ∀ a0 a1 k, LeO (depotlaw03_alike.f k a0 a1) (depotlaw03_alike.f (k + 1) a0 a1) := by
  intro a0 a1 k
  have ih0 := depotlaw03_alike.mono_l k
  unfold depotlaw03_alike.f
  repeat' first
      | (with_reducible exact ih0 _ _ _ _)
      | (with_reducible exact LeO.refl _)
      | (with_reducible exact LeO.none _)
      | (with_reducible refine LeO.ite ?_ ?_)
      | (with_reducible refine LeO.bind ?_ (fun _ => ?_))
      | exact ih0 _ _ _ _
      | exact LeO.none _
      | refine LeO.ite ?_ ?_
      | refine LeO.bind ?_ (fun _ => ?_)
set_option maxHeartbeats 8000000 in
set_option maxRecDepth 100000 in
theorem depotlaw03_alike.calls (k : Nat) (A0 : Option Addr) (c0 : Nat) (l0 : List (S55)) (A1 : Option Addr) (c1 : Nat) (l1 : List (S55)) (r : Bool) (w : World) (hr0 : Kd.C k55 w A0 l0.length l0) (hc0 : l0.length ≤ c0) (hr1 : Kd.C k55 w A1 l1.length l1) (hc1 : l1.length ≤ c1) (h : depotlaw03_alike.f k l0 l1 = some r) :
    Calls Try.prog 26 #[.slice A0 l0.length c0, .slice A1 l1.length c1] w fun e w' => e = .returned (.bool r) ∧ Drawn0 w w' := by
  have hu55 := Try.underlying55
  have HR0 := Aside0.mk hr0
  have HC0 := Aside0.mk hc0
  clear hr0 hc0
  have HR1 := Aside0.mk hr1
  have HC1 := Aside0.mk hc1
  clear hr1 hc1
  have H : (if (l0.length : Int) = (l1.length : Int) then (depotlaw03_alike.l0 k l0 l1 (l0.length : Int) 0) else (some false)) = some r := h
  clear h
  by_cases c3 : (l0.length : Int) = (l1.length : Int)
  · rw [if_pos c3] at H
    have c3b0 : ((l0.length : Int) == (l1.length : Int)) = true := beq_iff_eq.mpr c3
    have c3b1 : ((l0.length : Int) != (l1.length : Int)) = false := bne_eq_false_iff_eq.mpr c3
    have c3b2 : (l0.length == l1.length) = true := by first | simpa using c3 | (simp at c3 ⊢; omega)
    clear c3
    have H' := Aside0.mk H
    clear H
    go_enter Try.func26, Try.ntmps26
    go_wp2
    repeat (go_quiet (fail); try go_wp2)
    go_loopg [13] k (fun kq v13 w' => ∃ (x13_1 : Int), v13 = .int .i64 x13_1 ∧ Aside0 (depotlaw03_alike.l0 kq l0 l1 (l0.length : Int) x13_1 = some r) ∧ Aside0 (kq ≤ k) ∧ Drawn0 w w')
    case atStart => exact ⟨(0), (by first | rfl | (simp; done) | (simp [*]; done)), H', ⟨Nat.le_refl _⟩, by repeat (first | exact Drawn0.refl _ | apply Drawn0.step)⟩
    case round =>
      clear H'
      try clear c1
      try clear c2
      try clear p2
      try clear c3
      try clear c3b0
      try clear c3b1
      try clear c3b2
      obtain ⟨x13_1, rfl, HA, HK1, ⟨m1, rfl⟩⟩ := hrel
      cases gk with
      | zero => exact absurd HA.out (by simp [depotlaw03_alike.l0])
      | succ k1 =>
        have H := HA.out
        clear HA
        simp only [depotlaw03_alike.l0] at H
        by_cases c4 : x13_1 < (l0.length : Int)
        · rw [if_pos c4] at H
          have c4b0 : decide (x13_1 < (l0.length : Int)) = true := decide_eq_true c4
          clear c4
          by_cases c5 : 0 ≤ x13_1
          · rw [if_pos c5] at H
            have c5b0 : decide (0 ≤ x13_1) = true := decide_eq_true c5
            clear c5
            by_cases c6 : x13_1 < (l0.length : Int)
            · rw [if_pos c6] at H
              have c6b0 : decide (x13_1 < (l0.length : Int)) = true := decide_eq_true c6
              clear c6
              by_cases c7 : x13_1 < (l1.length : Int)
              · rw [if_pos c7] at H
                have c7b0 : decide (x13_1 < (l1.length : Int)) = true := decide_eq_true c7
                clear c7
                by_cases c8 : (!(((rd_T55 l0 x13_1).f0) == ((rd_T55 l1 x13_1).f0)) || (!(((rd_T55 l0 x13_1).f1) == ((rd_T55 l1 x13_1).f1)) || (!((((rd_T55 l0 x13_1).f2).toList) == (((rd_T55 l1 x13_1).f2).toList))))) = true
                · rw [if_pos c8] at H
                  have c8b0 : (!(((rd_T55 l0 x13_1).f0) == ((rd_T55 l1 x13_1).f0)) || (!(((rd_T55 l0 x13_1).f1) == ((rd_T55 l1 x13_1).f1)) || (!((((rd_T55 l0 x13_1).f2).toList) == (((rd_T55 l1 x13_1).f2).toList))))) = true := c8
                  clear c8
                  obtain rfl := Option.some.inj H
                  have p205 : 0 ≤ (x13_1 : Int) := of_decide_eq_true (by first | (with_reducible assumption) | assumption)
                  have q205 : x13_1 < (l0.length : Int) := of_decide_eq_true (by first | (with_reducible assumption) | assumption)
                  obtain ⟨ad205, e205, hx205_0, hx205_1, hx205_2⟩ := at_T55 HR0.out x13_1 p205 q205
                  cases e205
                  replace p205 := eq_true p205
                  replace q205 := eq_true q205
                  have p206 : 0 ≤ (x13_1 : Int) := of_decide_eq_true (by first | (with_reducible assumption) | assumption)
                  have q206 : x13_1 < (l1.length : Int) := of_decide_eq_true (by first | (with_reducible assumption) | assumption)
                  obtain ⟨ad206, e206, hx206_0, hx206_1, hx206_2⟩ := at_T55 HR1.out x13_1 p206 q206
                  cases e206
                  replace p206 := eq_true p206
                  replace q206 := eq_true q206
                  go_wp2
                  repeat (go_quiet (fail); try go_wp2)
                  go_ret
                  exact ⟨by first | rfl | (simp; done) | (simp [*]; done), by repeat (first | exact Drawn0.refl _ | apply Drawn0.step)⟩
                · rw [if_neg c8] at H
                  have c8b0 : (!(((rd_T55 l0 x13_1).f0) == ((rd_T55 l1 x13_1).f0)) || (!(((rd_T55 l0 x13_1).f1) == ((rd_T55 l1 x13_1).f1)) || (!((((rd_T55 l0 x13_1).f2).toList) == (((rd_T55 l1 x13_1).f2).toList))))) = false := by simpa using c8
                  clear c8
                  have H' := Aside0.mk H
                  clear H
                  have p205 : 0 ≤ (x13_1 : Int) := of_decide_eq_true (by first | (with_reducible assumption) | assumption)
                  have q205 : x13_1 < (l0.length : Int) := of_decide_eq_true (by first | (with_reducible assumption) | assumption)
                  obtain ⟨ad205, e205, hx205_0, hx205_1, hx205_2⟩ := at_T55 HR0.out x13_1 p205 q205
                  cases e205
                  replace p205 := eq_true p205
                  replace q205 := eq_true q205
                  have p206 : 0 ≤ (x13_1 : Int) := of_decide_eq_true (by first | (with_reducible assumption) | assumption)
                  have q206 : x13_1 < (l1.length : Int) := of_decide_eq_true (by first | (with_reducible assumption) | assumption)
                  obtain ⟨ad206, e206, hx206_0, hx206_1, hx206_2⟩ := at_T55 HR1.out x13_1 p206 q206
                  cases e206
                  replace p206 := eq_true p206
                  replace q206 := eq_true q206
                  go_wp2
                  repeat (go_quiet (fail); try go_wp2)
                  go_roundg k1
                  case measure => have := HK1.out; omega
                  case rel => exact ⟨(wrap64 (x13_1 + 1)), (by first | rfl | (simp; done) | (simp [*]; done)), H', ⟨by have := HK1.out; omega⟩, by repeat (first | exact Drawn0.refl _ | apply Drawn0.step)⟩
              · rw [if_neg c7] at H
                exact absurd H (by simp)
            · rw [if_neg c6] at H
              exact absurd H (by simp)
          · rw [if_neg c5] at H
            exact absurd H (by simp)
        · rw [if_neg c4] at H
          have c4b0 : decide (x13_1 < (l0.length : Int)) = false := decide_eq_false c4
          clear c4
          obtain rfl := Option.some.inj H
          go_wp2
          repeat (go_quiet (fail); try go_wp2)
          go_ret
          exact ⟨by first | rfl | (simp; done) | (simp [*]; done), by repeat (first | exact Drawn0.refl _ | apply Drawn0.step)⟩
  · rw [if_neg c3] at H
    have c3b0 : ((l0.length : Int) == (l1.length : Int)) = false := beq_eq_false_iff_ne.mpr c3
    have c3b1 : ((l0.length : Int) != (l1.length : Int)) = true := bne_iff_ne.mpr c3
    have c3b2 : (l0.length == l1.length) = false := by first | simpa using c3 | (simp at c3 ⊢; omega)
    obtain rfl := Option.some.inj H
    go_enter Try.func26, Try.ntmps26
    go_wp2
    repeat (go_quiet (fail); try go_wp2)
    go_ret
    exact ⟨by first | rfl | (simp; done) | (simp [*]; done), by repeat (first | exact Drawn0.refl _ | apply Drawn0.step)⟩

end Go.Proofs.Ytnilogameaaooaa.Q
/- feed, cut by cut. -/
namespace Go.Proofs.Ytnilogameaaooaa.Rdr
open Go.RowKit Go.Proofs.Ytnilogameaaooaa.Q Go.Proofs.Ytnilogameaaooaa.Tail Go.Proofs.YtnilogameaaooaaW.PrintWords Go.Proofs.YtnilogameaaooaaW.PrintLast Go.Proofs.YtnilogameaaooaaW.PrintMore Go.Proofs.Ytnilogameaaooaa.Bytes
set_option linter.unusedVariables false
set_option linter.unusedSimpArgs false

theorem code_stops {p : Ps} (h : p.code ≠ 0) : p.stopped = true := by unfold Ps.stopped; simp [h]
theorem tk_bad_code {p : Ps} {c : Int} (h : ¬ (tk p c).1 = true) : (tk p c).2.code ≠ 0 := by
  unfold tk at h ⊢
  split
  · rename_i hs
    rw [if_pos hs] at h
    split
    · simp
    · rename_i hq
      rw [if_neg hq] at h
      exact absurd rfl h
  · rename_i hs
    rw [if_neg hs] at h
    split
    · rename_i h1
      rw [if_pos h1] at h
      exact absurd rfl h
    · rename_i h1
      rw [if_neg h1] at h
      split
      · rename_i h2
        rw [if_pos h2] at h
        exact absurd rfl h
      · simp
theorem feed_nil (p : Ps) : feed p [] = (p, []) := rfl
theorem feed_app : ∀ (a : List Int) (p : Ps) (b : List Int), feed p (a ++ b) = ((feed (feed p a).1 b).1, (feed p a).2 ++ (feed (feed p a).1 b).2)
  | [], p, b => by rw [feed_nil]; rfl
  | c :: a, p, b => by
    by_cases hs : p.stopped = true
    · rw [feed_stop hs, feed_stop hs, feed_stop hs]; rfl
    · by_cases hi : p.item = (p.plan.size : Int)
      · rw [List.cons_append, feed_trail hs hi, feed_trail hs hi, feed_stop (code_stops (by simp))]; rfl
      · by_cases ht : (tk p c).1 = true
        · by_cases hn : 0 < (tick p c).need
          · rw [List.cons_append, feed_more hs hi ht hn, feed_more hs hi ht hn]
            exact feed_app a _ b
          · rw [List.cons_append, feed_next hs hi ht hn, feed_next hs hi ht hn, feed_app a _ b]
            simp only [List.append_assoc]
        · rw [List.cons_append, feed_bad hs hi ht, feed_bad hs hi ht, feed_stop (code_stops (tk_bad_code ht))]; rfl
theorem not_shut {p : Ps} (h : ¬ p.stopped = true) : p.code = 0 := by
  apply Classical.byContradiction
  intro q
  exact h (code_stops q)
theorem feed_wf : ∀ (cs : List Int) (p : Ps), (p.stopped = true ∨ Wf p) → (∀ x ∈ cs, 0 ≤ x ∧ x < 256) → ((feed p cs).1.stopped = true ∨ Wf (feed p cs).1)
  | [], p, h, _ => h
  | c :: cs, p, h, hb => by
    by_cases hs : p.stopped = true
    · rw [feed_stop hs]; exact .inl hs
    · have hW := h.resolve_left hs
      have hc := hb c List.mem_cons_self
      have hb' := fun x hx => hb x (List.mem_cons_of_mem c hx)
      by_cases hi : p.item = (p.plan.size : Int)
      · rw [feed_trail hs hi]; exact .inl (code_stops (by simp))
      · have hrun : p.item < (p.plan.size : Int) := by have := hW.item; omega
        by_cases ht : (tk p c).1 = true
        · by_cases hn : 0 < (tick p c).need
          · rw [feed_more hs hi ht hn]
            exact feed_wf cs _ (.inr (wf_tick hW hc ht hn)) hb'
          · rw [feed_next hs hi ht hn]
            exact feed_wf cs _ (.inr (wf_nx hW hrun ht (done_tick hW (not_shut hs) hrun hc ht hn))) hb'
        · rw [feed_bad hs hi ht]; exact .inl (code_stops (tk_bad_code ht))
theorem tk_taken (p : Ps) (c : Int) : (tk p c).2.taken = p.taken := by
  unfold tk
  split
  · split <;> rfl
  · split
    · rfl
    · split <;> rfl
theorem tick_taken (p : Ps) (c : Int) : (tick p c).taken = p.taken + 1 := by
  unfold tick
  simp only [tk_taken]
theorem feed_taken : ∀ (cs : List Int) (p : Ps), p.taken ≤ (feed p cs).1.taken ∧ (feed p cs).1.taken ≤ p.taken + (cs.length : Int)
  | [], p => by rw [feed_nil]; simp
  | c :: cs, p => by
    by_cases hs : p.stopped = true
    · rw [feed_stop hs]; simp only [List.length_cons]; omega
    · by_cases hi : p.item = (p.plan.size : Int)
      · rw [feed_trail hs hi]; simp only [List.length_cons]; omega
      · by_cases ht : (tk p c).1 = true
        · have e := tick_taken p c
          by_cases hn : 0 < (tick p c).need
          · rw [feed_more hs hi ht hn]
            have := feed_taken cs (tick p c)
            simp only [List.length_cons]; omega
          · rw [feed_next hs hi ht hn]
            have := feed_taken cs (nx (tick p c)).2
            rw [nx_taken, e] at this
            simp only [List.length_cons]; omega
        · rw [feed_bad hs hi ht, tk_taken]; simp only [List.length_cons]; omega
theorem tk_item (p : Ps) (c : Int) : (tk p c).2.item = p.item ∧ (tk p c).2.plan = p.plan := by
  unfold tk
  split
  · split <;> exact ⟨rfl, rfl⟩
  · split
    · exact ⟨rfl, rfl⟩
    · split <;> exact ⟨rfl, rfl⟩
theorem nx_item (q : Ps) : (nx q).2.item = q.item + ((nx q).1.toList.length : Int) ∧ (nx q).2.plan = q.plan := by
  unfold nx
  split
  · exact ⟨rfl, rfl⟩
  · split
    · exact ⟨(Int.add_zero _).symm, rfl⟩
    · split
      · exact ⟨(Int.add_zero _).symm, rfl⟩
      · exact ⟨rfl, rfl⟩
theorem nx_len (q : Ps) : (nx q).1.toList.length ≤ 1 := by
  cases (nx q).1 <;> simp
theorem feed_items : ∀ (cs : List Int) (p : Ps), p.item ≤ (p.plan.size : Int) → ((feed p cs).2.length : Int) + p.item ≤ (p.plan.size : Int)
  | [], p, h => by rw [feed_nil]; simpa using h
  | c :: cs, p, h => by
    by_cases hs : p.stopped = true
    · rw [feed_stop hs]; simpa using h
    · by_cases hi : p.item = (p.plan.size : Int)
      · rw [feed_trail hs hi]; simpa using h
      · by_cases ht : (tk p c).1 = true
        · have e1 : (tick p c).item = p.item := (tk_item p c).1
          have e2 : (tick p c).plan = p.plan := (tk_item p c).2
          by_cases hn : 0 < (tick p c).need
          · rw [feed_more hs hi ht hn]
            have := feed_items cs (tick p c) (by rw [e1, e2]; exact h)
            rw [e1, e2] at this
            exact this
          · rw [feed_next hs hi ht hn]
            obtain ⟨n1, n2⟩ := nx_item (tick p c)
            have n3 := nx_len (tick p c)
            have := feed_items cs (nx (tick p c)).2 (by rw [n1, n2, e1, e2]; omega)
            rw [n1, n2, e1, e2] at this
            rw [List.length_append]
            omega
        · rw [feed_bad hs hi ht]; simpa using h
/-- Beside a block that is new, the reader stays what it is. -/
theorem Rep.apart {p : Ps} {w W : World} {b base g : Nat} {ok : Nat → Prop} (h : Rep p w b base ok) (hg : w.heap.size ≤ g) (hb : Below w.heap.size w W) : Rep p W b base (fun k => ok k ∧ k ≠ g) := by
  obtain ⟨v, hA, hR⟩ := h
  refine ⟨v, (hb.block _ hA.lt).trans hA, Kd.R_below (Kd.R_mono (Kd.R_bound hR) ?_) hb⟩
  rintro k ⟨h1, _, h2, _⟩
  exact ⟨h1, by omega⟩
theorem Rep.wider {p : Ps} {w : World} {b base : Nat} {ok ok' : Nat → Prop} (h : Rep p w b base ok) (hk : ∀ k, ok k → ok' k) : Rep p w b base ok' := by
  obtain ⟨v, hA, hR⟩ := h
  exact ⟨v, hA, Kd.R_mono hR hk⟩
theorem Rep.below {p : Ps} {w W : World} {b base : Nat} {ok : Nat → Prop} (h : Rep p w b base ok) (hb : Below w.heap.size w W) : Rep p W b base ok := by
  obtain ⟨v, hA, hR⟩ := h
  exact ⟨v, (hb.block _ hA.lt).trans hA, Kd.R_below hR hb⟩
/-- Another row has grown: a row of items. -/
theorem Rep.grown {p : Ps} {w w1 : World} {b base : Nat} {ok : Nat → Prop} (h : Rep p w b base ok) {v : Value} {its : List S55} {B : Nat} {okR : Nat → Prop} (hO : Kd.R k55 55 w B okR v its) (hg : w.grownBy w1 v.ownBlock) : Rep p w1 b base ok := by
  obtain ⟨u, hA, hR⟩ := h
  refine ⟨u, (hg.block b hA.lt (Kd.R_ne hO hA (by decide))).trans hA, Kd.R_mono (Kd.R_grown (Kd.R_bound hR) hg ?_) (fun k hk => hk.1)⟩
  rintro k ⟨_, _, _, q, hq, cells, hc⟩
  have hq' : q = 5 := by
    rcases List.mem_cons.1 hq with e | e
    · exact e
    · exact absurd e (by simp [Kd.int, Kd.scalar])
  subst hq'
  exact Kd.R_ne hO hc (by decide)
/-- A row of items stays, where a reader has been fed. -/
theorem Frame.row {W W' : World} {b base : Nat} {ok : Nat → Prop} (h : Rdr.Frame ok b W W') {p : Ps} {B : Nat} {okR : Nat → Prop} (hA : Rep p W b B okR) {v : Value} {its : List S55} (hO : Kd.R k55 55 W base (fun _ => True) v its) : Kd.R k55 55 W' base (fun _ => True) v its := by
  obtain ⟨v', hA', _⟩ := hA
  exact h.out hA' hO
end Go.Proofs.Ytnilogameaaooaa.Rdr
/- depotlaw03.fedIn, walked by hand: however the text is cut, the answer is that of the whole. -/
namespace Go.Proofs.Ytnilogameaaooaa.Q
open Go.RowKit Go.Proofs.Ytnilogameaaooaa.Rdr Go.Proofs.Ytnilogameaaooaa.Tail Go.Proofs.YtnilogameaaooaaW.PrintWords Go.Proofs.YtnilogameaaooaaW.PrintLast Go.Proofs.YtnilogameaaooaaW.PrintMore Go.Proofs.Ytnilogameaaooaa.Bytes
set_option linter.unusedVariables false
set_option linter.unusedSimpArgs false

def fedAll (text plan : ByteArray) (most : Int) : Ps × List S55 := feed (newM plan (m0 most)) (numsOf text)
def depotlaw03_fedIn.f (a0 : ByteArray) (a1 : ByteArray) (a2 : Int) (l3 : List Int) : Option (List (S55) × Int × Int × Int) :=
  if a0.size ≤ 1099511627776 ∧ a1.size ≤ 1099511627776 ∧ a2 ≤ 9223372036854775807 then
    some ((fedAll a0 a1 a2).2, (close (fedAll a0 a1 a2).1).code, (close (fedAll a0 a1 a2).1).place, (fedAll a0 a1 a2).1.taken)
  else none
theorem results_tct {P : Program} {fn : Func} {p u v : Tmp} {ty : TypeId} (h : fn.results = #[.tmp u, .cell p ty, .tmp v]) (tmps : Array Value) (w : World) (g : Nat) (t : TypeId) (cs : Array Value) (fr : Nat × Nat) (d : TypeDesc)
    (hp : tmps.getD p undef = .pointer (some ⟨g, 0, none⟩)) (hg : w.heap[g]? = some (.cells cs t fr))
    (hu : P.underlying ty = some d) (hd : (match d with | .struct _ | .array _ _ => true | _ => false) = true) (hi : (P.info? ty).map (·.size) = some cs.size) :
    (results fn tmps).run P w = .ok (.tuple #[tmps.getD u undef, .agg cs, tmps.getD v undef]) w := by
  have hp' : tmps[p]?.getD undef = .pointer (some ⟨g, 0, none⟩) := by simpa using hp
  simp [results, h, hp', asAddr, run_loadVar_row w g t ty cs fr d hg hu hd hi]
/-- The cut's bytes. -/
theorem nums_cut (s : ByteArray) (i j : Nat) : numsOf (s.extract i j) = ((numsOf s).drop i).take (j - i) := by
  have h : (s.extract i j).data.toList = (s.data.toList.drop i).take (j - i) := bs_extract s i j
  unfold numsOf
  rw [h, List.map_take, List.map_drop]
theorem take_cut (l : List Int) (i c : Nat) : l.take (i + c) = l.take i ++ (l.drop i).take c := by rw [List.take_add]
/-- What stands behind i bytes. -/
structure Mid (w wx : World) (text plan : ByteArray) (most : Int) (at_ : Nat) (v : Value) : Prop where
  rep : Rep (feed (newM plan (m0 most)) ((numsOf text).take at_)).1 wx (w.heap.size + 1) w.heap.size (fun k => w.heap.size + 2 ≤ k)
  row : Kd.R k55 55 wx w.heap.size (fun _ => True) v (feed (newM plan (m0 most)) ((numsOf text).take at_)).2
  flt : wx.heap[w.heap.size]? = some (.cells #[.int .i64 0, .int .i64 0] 31 (0, 0))
  bel : Below w.heap.size w wx
/-- A cut is fed and what it gave is appended: what stands then. -/
theorem Mid.step {w w3 w4 w5 : World} {text plan : ByteArray} {most : Int} {a c gp : Nat} {v v1 : Value} (hsz : a + c ≤ text.size)
    (hF : Rdr.Frame (fun k => w.heap.size + 2 ≤ k ∧ k ≠ gp) (w.heap.size + 1) w3 w4) (hbel3 : Below w.heap.size w w3) (hflt3 : w3.heap[w.heap.size]? = some (.cells #[.int .i64 0, .int .i64 0] 31 (0, 0)))
    (hrep4 : Rep (feed (feed (newM plan (m0 most)) ((numsOf text).take a)).1 (numsOf (text.extract a (a + c)))).1 w4 (w.heap.size + 1) w.heap.size (fun k => w.heap.size + 2 ≤ k ∧ k ≠ gp))
    (hrow4 : Kd.R k55 55 w4 w.heap.size (fun _ => True) v (feed (newM plan (m0 most)) ((numsOf text).take a)).2)
    (hg : w4.grownBy w5 v.ownBlock) (hbel5 : Below w.heap.size w w5)
    (hrow5 : Kd.R k55 55 w5 w.heap.size (fun _ => True) v1 ((feed (newM plan (m0 most)) ((numsOf text).take a)).2 ++ (feed (feed (newM plan (m0 most)) ((numsOf text).take a)).1 (numsOf (text.extract a (a + c)))).2)) :
    Mid w w5 text plan most (a + c) v1 := by
  have hcut : numsOf (text.extract a (a + c)) = ((numsOf text).drop a).take c := by rw [nums_cut, Nat.add_sub_cancel_left]
  have e : feed (newM plan (m0 most)) ((numsOf text).take (a + c)) = ((feed (feed (newM plan (m0 most)) ((numsOf text).take a)).1 (numsOf (text.extract a (a + c)))).1, (feed (newM plan (m0 most)) ((numsOf text).take a)).2 ++ (feed (feed (newM plan (m0 most)) ((numsOf text).take a)).1 (numsOf (text.extract a (a + c)))).2) := by
    rw [take_cut, feed_app, hcut]
  have hflt4 := fault_kept hF hflt3 (by omega)
  refine ⟨?_, ?_, ?_, hbel5⟩
  · rw [e]
    exact (hrep4.grown hrow4 hg).wider (fun k hk => hk.1)
  · rw [e]; exact hrow5
  · exact (hg.block _ (Array.getElem?_eq_some_iff.1 hflt4).1 (Kd.R_ne hrow4 hflt4 (by decide))).trans hflt4
theorem Mid.start {w w2 : World} {text plan : ByteArray} {most : Int} (hT : (newM plan (m0 most)).text = []) (hA : ((newM plan (m0 most)).rd (.slice none 0 0)).At w2 (w.heap.size + 1))
    (hB : Below (w.heap.size + 1) (w.alloc (.cells #[.int .i64 0, .int .i64 0] 31)) w2) : Mid w w2 text plan most 0 (.slice none 0 0) := by
  refine ⟨⟨.slice none 0 0, hA, ?_⟩, Kd.R_nil _ _ _ _ _, (hB.block _ (by omega)).trans (heap_alloc_new w _), ((Below.refl _ w).alloc (Nat.le_refl _) _).trans (hB.mono (by omega))⟩
  show Kd.R (Kd.int .u8) 5 w2 _ _ _ (newM plan (m0 most)).text
  rw [hT]
  exact Kd.R_nil _ _ _ _ _
theorem fed_len (plan : ByteArray) (m : Int) (l1 l2 : List Int) : (feed (newM plan m) l1).2.length + (feed (feed (newM plan m) l1).1 l2).2.length ≤ plan.size := by
  have h1 : (newM plan m).item = 0 ∧ (newM plan m).plan = plan := by unfold newM; split <;> exact ⟨rfl, rfl⟩
  have := feed_items (l1 ++ l2) (newM plan m) (by rw [h1.1, h1.2]; omega)
  rw [h1.1, h1.2, feed_app, List.length_append] at this
  omega
theorem cut_size' (s : ByteArray) (a : Nat) : (s.extract a s.size).size ≤ s.size := by rw [ByteArray.size_extract]; omega
theorem cut_len' (s : ByteArray) (a : Nat) : (numsOf (s.extract a s.size)).length = s.size - a := by rw [numsOf_len, ByteArray.size_extract, Nat.min_self]
theorem Mid.rep' {w wx : World} {text plan : ByteArray} {most : Int} {v : Value} (h : Mid w wx text plan most text.size v) : Rep (fedAll text plan most).1 wx (w.heap.size + 1) w.heap.size (fun k => w.heap.size + 2 ≤ k) := by
  have := h.rep
  rw [List.take_of_length_le (by rw [numsOf_len]; exact Nat.le_refl _)] at this
  exact this
theorem Mid.row' {w wx : World} {text plan : ByteArray} {most : Int} {v : Value} (h : Mid w wx text plan most text.size v) : Kd.R k55 55 wx w.heap.size (fun _ => True) v (fedAll text plan most).2 := by
  have := h.row
  rw [List.take_of_length_le (by rw [numsOf_len]; exact Nat.le_refl _)] at this
  exact this
theorem Mid.last {w wx w3 w4 w5 : World} {text plan : ByteArray} {most : Int} {a gp : Nat} {v v1 : Value} (hs : text.size ≤ 1099511627776) (ha : a ≤ text.size) (hz : w.heap.size + 1 < wx.heap.size) (hb3 : Below wx.heap.size wx w3) (hM : Mid w wx text plan most a v)
    (hF : Rdr.Frame (fun k => w.heap.size + 2 ≤ k ∧ k ≠ gp) (w.heap.size + 1) w3 w4)
    (hrep4 : Rep (feed (feed (newM plan (m0 most)) ((numsOf text).take a)).1 (numsOf (text.extract a text.size))).1 w4 (w.heap.size + 1) w.heap.size (fun k => w.heap.size + 2 ≤ k ∧ k ≠ gp))
    (hrow4 : Kd.R k55 55 w4 w.heap.size (fun _ => True) v (feed (newM plan (m0 most)) ((numsOf text).take a)).2)
    (hg : w4.grownBy w5 v.ownBlock) (hbel5 : Below w.heap.size w w5)
    (hrow5 : Kd.R k55 55 w5 w.heap.size (fun _ => True) v1 ((feed (newM plan (m0 most)) ((numsOf text).take a)).2 ++ (feed (feed (newM plan (m0 most)) ((numsOf text).take a)).1 (numsOf (text.extract a text.size))).2)) :
    Mid w w5 text plan most text.size v1 := by
  obtain ⟨c, hc⟩ := Nat.le.dest ha
  have := Mid.step (text := text) (plan := plan) (most := most) (a := a) (c := c) (gp := gp) (v1 := v1) (by omega) hF (hM.bel.trans (hb3.mono (by omega))) ((hb3.block _ (by omega)).trans hM.flt) (by rw [hc]; exact hrep4) hrow4 hg hbel5 (by rw [hc]; exact hrow5)
  rw [hc] at this
  exact this
theorem close_taken (p : Ps) : (close p).taken = p.taken := by
  unfold close
  split
  · rfl
  · split <;> rfl
set_option maxHeartbeats 2000000 in
set_option maxRecDepth 100000 in
theorem taken_calls (r : Rd) (w : World) (b : Nat) (h : r.At w b) :
    Calls Try.prog 32 #[.pointer (some ⟨b, 0, none⟩)] w fun e w' => e = .returned (.int .i64 r.taken) ∧ w' = w := by
  have c0 := h.c0
  clear h
  obtain ⟨taken, code, place, shut, plan, most, item, start, state, num, need, v⟩ := r
  simp only at c0
  go_enter Try.func32, Try.ntmps32
  go_wp2
  go_ret
  exact ⟨rfl, rfl⟩
theorem Mid.sizes {w wx : World} {text plan : ByteArray} {most : Int} {a : Nat} {v : Value} (h : Mid w wx text plan most a v) : w.heap.size + 1 < wx.heap.size := by
  obtain ⟨u, hA, _⟩ := h.rep
  exact hA.lt
theorem cut_size (s : ByteArray) (a : Nat) (Z : Int) : (s.extract a Z.toNat).size ≤ s.size := by rw [ByteArray.size_extract]; omega
theorem cut_len (s : ByteArray) (a : Nat) (Z : Int) : (numsOf (s.extract a Z.toNat)).length = min Z.toNat s.size - a := by rw [numsOf_len, ByteArray.size_extract]
theorem take_range (s : ByteArray) (a : Nat) : ∀ x ∈ (numsOf s).take a, 0 ≤ x ∧ x < 256 := fun x hx => numsOf_range s x (List.mem_of_mem_take hx)
theorem bel_fed {w wx w3 w4 : World} {text plan : ByteArray} {most : Int} {a gp : Nat} {v : Value} (h : Mid w wx text plan most a v) (hb : Below wx.heap.size wx w3) (hF : Rdr.Frame (fun k => w.heap.size + 2 ≤ k ∧ k ≠ gp) (w.heap.size + 1) w3 w4) : Below w.heap.size w w4 := by
  have hs := h.sizes
  have h3 := hb.size
  exact (h.bel.trans (hb.mono (by omega))).trans (frame_below hF (by omega) (by omega) (fun k hk => by omega))
set_option maxHeartbeats 8000000 in
set_option maxRecDepth 100000 in
theorem depotlaw03_fedIn.calls (a0 : ByteArray) (a1 : ByteArray) (a2 : Int) (A3 : Option Addr) (c3 : Nat) (l3 : List Int) (r1 : List (S55)) (r2 : Int) (r3 : Int) (r4 : Int) (w : World) (hr3 : Kd.C (Kd.int .i64) w A3 l3.length l3) (hc3 : l3.length ≤ c3) (h : depotlaw03_fedIn.f a0 a1 a2 l3 = some (r1, r2, r3, r4)) :
    Calls Try.prog 30 #[.string a0, .string a1, .int .i64 a2, .slice A3 l3.length c3] w fun e w' => ∃ v0_ : Value, e = .returned (.tuple #[v0_, .agg #[.int .i64 r2, .int .i64 r3], .int .i64 r4]) ∧ Kd.R k55 55 w' w.heap.size (fun _ => True) v0_ r1 ∧ Below w.heap.size w w' := by
  unfold depotlaw03_fedIn.f at h
  by_cases hsz : a0.size ≤ 1099511627776 ∧ a1.size ≤ 1099511627776 ∧ a2 ≤ 9223372036854775807
  case neg => rw [if_neg hsz] at h; exact absurd h (by simp)
  rw [if_pos hsz] at h
  obtain ⟨s0, s1, s2⟩ := hsz
  simp only [Option.some.injEq, Prod.mk.injEq] at h
  obtain ⟨h1, h2, h3, h4⟩ := h
  have E1 := Aside0.mk h1
  have E2 := Aside0.mk h2
  have E3 := Aside0.mk h3
  have E4 := Aside0.mk h4
  have HR3 := Aside0.mk hr3
  have hl3 := hr3.2.1
  have hm0 : 0 ≤ m0 a2 ∧ m0 a2 ≤ 9223372036854775807 := by unfold m0; split <;> omega
  obtain ⟨hwf, htx, htk⟩ := newM_ok a1 (m0 a2) (by omega) hm0.1 hm0.2
  have HWF := Aside0.mk hwf
  have HTX := Aside0.mk htx
  have HTK := Aside0.mk htk
  clear hwf htx htk hm0 h1 h2 h3 h4 hr3
  go_enter Try.func30, Try.ntmps30
  go_wp2_with (first | (go_at_call 27; refine (new_calls a1 a2 _ (by omega)).mono ?_; rintro e w2 ⟨rfl, hA, hB⟩; rw [size_alloc] at hA hB ⊢; have HA := Aside0.mk hA; have HB := Aside0.mk hB; clear hA hB))
  have HM0 := Aside0.mk (Mid.start (text := a0) HTX.out HA.out HB.out)
  clear HA HB
  go_loopg [12, 13, 15, 25] l3.length (fun g v12 v13 v15 v25 wx => ∃ (i : Nat) (a : Nat), i + g = l3.length ∧ a ≤ a0.size ∧ v13 = .int .i64 (a : Int) ∧ v25 = .int .i64 (i : Int) ∧ Aside0 (Mid w wx a0 a1 a2 a v12))
  case atStart => exact ⟨0, 0, by omega, Nat.zero_le _, rfl, rfl, HM0⟩
  case round =>
    obtain ⟨i, a, hig, ha, rfl, rfl, HM⟩ := hrel
    cases gk with
    | zero =>
      obtain rfl : i = l3.length := by omega
      have d1 : decide ((l3.length : Int) < (l3.length : Int)) = false := decide_eq_false (by omega)
      have z0 : ((a : Int) ≤ (a0.size : Int)) = True := eq_true (by omega)
      have z1 : decide ((a : Int) ≤ (a0.size : Int)) = true := decide_eq_true (by omega)
      have z4 : (0 ≤ (a : Int)) = True := eq_true (by omega)
      have HS := Aside0.mk s0
      have HA' := Aside0.mk ha
      clear s0 ha
      go_wp2_with (first | ((with_reducible refine gate_dst (N := 63) rfl ?_); refine T_conv (w0 := wr) wr.heap.size 5 rfl (N := 63) rfl 9 48 _ rfl (a0.extract a a0.size) rfl Try.underlying9 Try.underlying48 Try.underlying5 (by have := HS.out; have := cut_size' a0 a; simp only [maxLen]; omega) (Below.refl _ _) (Nat.le_refl _) ?_; intro vc w3 HO hb3; obtain ⟨gp, cp, rfl, hg1, hg2, hg3, hrd⟩ := OwnT.slice HO; have HRD := Aside0.mk hrd; have HG1 := Aside0.mk hg1; have HG2 := Aside0.mk hg2; have HG3 := Aside0.mk hg3; have HB3 := Aside0.mk hb3; have HREP := Aside0.mk (HM.out.rep.apart hg1 hb3); have HSZ := Aside0.mk (HM.out.sizes); have hs3 := hb3.size; have HS3 := Aside0.mk hs3; clear hrd hg1 hg2 hg3 hb3 hs3 HO) | (go_at_call 28; refine (feed_calls (feed (newM a1 (m0 a2)) ((numsOf a0).take a)).1 w3 (w.heap.size + 1) w.heap.size (fun k => w.heap.size + 2 ≤ k ∧ k ≠ gp) HREP.out (feed_wf _ _ HWF.out (take_range a0 a)) (by omega) (fun k hk => ⟨by have := HSZ.out; have := HS3.out; omega, by have := HG2.out; omega⟩) (by have := HSZ.out; have := HS3.out; omega) _ _ _ (numsOf (a0.extract a a0.size)) HRD.out HG3.out (fun ad had => by injection had with had; subst had; exact ⟨by have := HG1.out; have := HSZ.out; show gp ≠ _; omega, HG2.out, fun q => q.2 rfl⟩) (numsOf_range _) (by have := HTK.out; have := feed_taken ((numsOf a0).take a) (newM a1 (m0 a2)); have := cut_len' a0 a; have := HS.out; rw [List.length_take, numsOf_len] at *; have := HA'.out; omega) (by have := HTK.out; have := feed_taken ((numsOf a0).take a) (newM a1 (m0 a2)); omega)).mono ?_; rintro e w4 ⟨vf, rfl, hOut, hRep4, hF4⟩; obtain ⟨A5, c5, rfl, hc5, hC5⟩ := Kd.R_reads hOut; have HR4 := Aside0.mk hRep4; have HF4 := Aside0.mk hF4; have HC5 := Aside0.mk hC5; have HROW4 := Aside0.mk (hF4.row HREP.out (Kd.R_below HM.out.row HB3.out)); clear hRep4 hF4 hC5 hOut) | ((with_reducible refine gate_builtin (b := .append) (xs := #[.tmp 58, .tmp 64]) rfl ?_); at_builtin; refine Kd.R_append_rows k55 (w0 := w) w.heap.size rfl (.tmp 58) (.tmp 64) 28 55 (.agg #[(.bool false), (.int .u64 0), (.string ⟨#[]⟩)]) 32 rfl Try.underlying28 info55 rfl (by decide) (by omega) u12 _ _ _ _ _ (fun _ => True) (fun _ => False) rfl rfl HROW4.out HC5.out (fun _ _ h => h) (fun _ h => h.elim) (fun _ _ => trivial) ?aB ?aS ?aL ?_; (case aB => exact bel_fed HM.out HB3.out HF4.out); (case aS => exact (bel_fed HM.out HB3.out HF4.out).size); (case aL => have := fed_len a1 (m0 a2) ((numsOf a0).take a) (numsOf (a0.extract a a0.size)); omega); intro v1 w5 ho hb hg hat; have HM5 := Aside0.mk hg; have HO5 := Aside0.mk ho; have HB5 := Aside0.mk hb; clear ho hb hg hat) | (go_at_call 29; have HM9 := Aside0.mk (Mid.last HS.out HA'.out HSZ.out HB3.out HM.out HF4.out HR4.out HROW4.out HM5.out HB5.out HO5.out); refine (close_ps (fedAll a0 a1 a2).1 w5 (w.heap.size + 1) w.heap.size (fun k => w.heap.size + 2 ≤ k) HM9.out.rep' (by omega)).mono ?_; rintro e w6 ⟨rfl, hRep6, hF6⟩; rw [E2.out, E3.out]; have hs5 := HM9.out.sizes; have HS6 := Aside0.mk hF6.size; have HR6 := Aside0.mk hRep6; have HROW6 := Aside0.mk (hF6.row HM9.out.rep' HM9.out.row'); have HFLT6 := Aside0.mk (fault_kept hF6 HM9.out.flt (by omega)); have HBL6 := Aside0.mk (HM9.out.bel.trans (frame_below hF6 (by omega) (by omega) (fun k hk => by omega))); clear hRep6 hF6))
      have hs5 := HM9.out.sizes
      have hl6 : w5.heap.size ≤ w6.heap.size := HS6.out
      have HA7 : (w6.alloc (.cells #[.int .i64 r2, .int .i64 r3] 31)).heap[w6.heap.size]? = some (.cells #[.int .i64 r2, .int .i64 r3] 31 (0, 0)) := heap_alloc_new w6 _
      have HB7 : (w6.alloc (.cells #[.int .i64 r2, .int .i64 r3] 31)).heap[w.heap.size]? = some (.cells #[.int .i64 0, .int .i64 0] 31 (0, 0)) := (Below.heap_alloc _ _ _ (by omega)).trans HFLT6.out
      have HC7 : Below w.heap.size w (w6.alloc (.cells #[.int .i64 r2, .int .i64 r3] 31)) := HBL6.out.alloc (by omega) _
      have HD7 := Kd.R_alloc HROW6.out (.cells #[.int .i64 r2, .int .i64 r3] 31)
      have HE7 := HR6.out.below (below_alloc (Below.refl _ _) (.cells #[.int .i64 r2, .int .i64 r3] 31))
      generalize w6.alloc (.cells #[.int .i64 r2, .int .i64 r3] 31) = w7 at HA7 HB7 HC7 HD7 HE7 ⊢
      refine wp_region_still_tail 7 (by kernel_rfl) (by kernel_rfl) ?_
      change wpStill _ _ (World.drew w7) (fun a' => wpList _ _ _ _ a' (World.drew w7)) _ _
      have HA8 : w7.drew.heap[w6.heap.size]? = some (.cells #[.int .i64 r2, .int .i64 r3] 31 (0, 0)) := HA7
      have HB8 : w7.drew.heap[w.heap.size]? = some (.cells #[.int .i64 0, .int .i64 0] 31 (0, 0)) := HB7
      have HC8 : Below w.heap.size w w7.drew := HC7.drew
      have HD8 := Kd.R_drew HD7
      have HE8 := HE7.below (below_drew (Below.refl _ _))
      clear HA7 HB7 HC7 HD7 HE7
      generalize World.drew w7 = w8 at HA8 HB8 HC8 HD8 HE8 ⊢
      have x0 := cell3 HA8 0
      have x1 := cell3 HA8 1
      have z0 := cell3 HB8 0
      have z1 := cell3 HB8 1
      have y0 := fro3 HB8 0
      have y1 := fro3 HB8 1
      replace HA8 := Aside0.mk HA8
      replace HB8 := Aside0.mk HB8
      replace HD8 := Aside0.mk HD8
      obtain ⟨vt, HT8, _⟩ := HE8
      have HT8 := Aside0.mk HT8
      simp only [List.take_succ_cons, List.take_zero, List.drop_succ_cons, List.drop_zero]
      repeat still_step
      still_call (taken_calls ((close (fedAll a0 a1 a2).1).rd vt) w8 (w.heap.size + 1) HT8.out)
      repeat still_step
      refine wpStill_nil ?_
      change wpList _ _ _ _ _ w8
      go_wp2
      have htk : ((close (fedAll a0 a1 a2).1).rd vt).taken = r4 := (close_taken _).trans E4.out
      refine bodyPost_ret (results_tct rfl _ _ w.heap.size 31 _ (0, 0) _ rfl (set2 HB8.out) Try.underlying31 rfl rfl) rfl ⟨v1, by rw [← htk]; rfl, ?_, ?_⟩
      · have hrow := out_set (i := 1) (u := .int .i64 r3) (out_set (i := 0) (u := .int .i64 r2) HD8.out HB8.out (by decide)) (set1 HB8.out) (by decide)
        rw [E1.out] at hrow
        exact hrow
      · exact (HC8.setCell (Nat.le_refl _) _).setCell (Nat.le_refl _) _
    | succ g =>
      have d1 : decide ((i : Int) < (l3.length : Int)) = true := decide_eq_true (by omega)
      obtain ⟨ad1, e1, hx1⟩ := Kd.at_int HR3.out (i : Int) (by omega) (by omega)
      cases e1
      rw [Int.toNat_natCast] at hx1
      replace hx1 := (HM.out.bel.cell (World.block_lt_of_cell? w _ hx1)).trans hx1
      obtain ⟨c0, hc0⟩ : ∃ c0, rd l3 (i : Int) = c0 := ⟨_, rfl⟩
      rw [hc0] at hx1
      clear hc0
      by_cases hneg : c0 < 0
      · have d2 : decide (c0 < 0) = true := decide_eq_true hneg
        obtain ⟨c, hc⟩ : ∃ c : Nat, c = a0.size - a := ⟨_, rfl⟩
        obtain ⟨Y, hY⟩ : ∃ Y : Int, wrap64 ((a0.size : Int) - (a : Int)) = Y := ⟨_, rfl⟩
        obtain ⟨Z, hZ⟩ : ∃ Z : Int, wrap64 ((a : Int) + Y) = Z := ⟨_, rfl⟩
        have HY := Aside0.mk (show Y = (c : Int) by rw [← hY, Bytes.w64 (by omega) (by omega)]; omega)
        have HZ := Aside0.mk (show Z = ((a + c : Nat) : Int) by rw [← hZ, HY.out, Bytes.w64 (by omega) (by omega)]; omega)
        have z0 : ((a : Int) ≤ Z) = True := eq_true (by rw [HZ.out]; omega)
        have z1 : decide ((a : Int) ≤ Z) = true := decide_eq_true (by rw [HZ.out]; omega)
        have z2 : (Z ≤ (a0.size : Int)) = True := eq_true (by rw [HZ.out]; omega)
        have z3 : decide (Z ≤ (a0.size : Int)) = true := decide_eq_true (by rw [HZ.out]; omega)
        have z4 : (0 ≤ (a : Int)) = True := eq_true (by omega)
        have HS := Aside0.mk s0
        have HA' := Aside0.mk ha
        have HC := Aside0.mk hc
        clear hneg s0 ha hc
        go_wp2_with (first | ((with_reducible refine gate_dst (N := 51) rfl ?_); refine T_conv (w0 := wr) wr.heap.size 5 rfl (N := 51) rfl 9 48 _ rfl (a0.extract a Z.toNat) rfl Try.underlying9 Try.underlying48 Try.underlying5 (by have := HS.out; have := cut_size a0 a Z; simp only [maxLen]; omega) (Below.refl _ _) (Nat.le_refl _) ?_; intro vc w3 HO hb3; obtain ⟨gp, cp, rfl, hg1, hg2, hg3, hrd⟩ := OwnT.slice HO; have HRD := Aside0.mk hrd; have HG1 := Aside0.mk hg1; have HG2 := Aside0.mk hg2; have HG3 := Aside0.mk hg3; have HB3 := Aside0.mk hb3; have HREP := Aside0.mk (HM.out.rep.apart hg1 hb3); have HSZ := Aside0.mk (HM.out.sizes); have hs3 := hb3.size; have HS3 := Aside0.mk hs3; clear hrd hg1 hg2 hg3 hb3 hs3 HO) | (go_at_call 28; refine (feed_calls (feed (newM a1 (m0 a2)) ((numsOf a0).take a)).1 w3 (w.heap.size + 1) w.heap.size (fun k => w.heap.size + 2 ≤ k ∧ k ≠ gp) HREP.out (feed_wf _ _ HWF.out (take_range a0 a)) (by omega) (fun k hk => ⟨by have := HSZ.out; have := HS3.out; omega, by have := HG2.out; omega⟩) (by have := HSZ.out; have := HS3.out; omega) _ _ _ (numsOf (a0.extract a Z.toNat)) HRD.out HG3.out (fun ad had => by injection had with had; subst had; exact ⟨by have := HG1.out; have := HSZ.out; show gp ≠ _; omega, HG2.out, fun q => q.2 rfl⟩) (numsOf_range _) (by have := HTK.out; have := feed_taken ((numsOf a0).take a) (newM a1 (m0 a2)); have := cut_len a0 a Z; have := HS.out; rw [List.length_take, numsOf_len] at *; have := HZ.out; have := HC.out; have := HA'.out; omega) (by have := HTK.out; have := feed_taken ((numsOf a0).take a) (newM a1 (m0 a2)); omega)).mono ?_; rintro e w4 ⟨vf, rfl, hOut, hRep4, hF4⟩; obtain ⟨A5, c5, rfl, hc5, hC5⟩ := Kd.R_reads hOut; have HR4 := Aside0.mk hRep4; have HF4 := Aside0.mk hF4; have HC5 := Aside0.mk hC5; have HROW4 := Aside0.mk (hF4.row HREP.out (Kd.R_below HM.out.row HB3.out)); clear hRep4 hF4 hC5 hOut) | ((with_reducible refine gate_builtin (b := .append) (xs := #[.tmp 43, .tmp 52]) rfl ?_); at_builtin; refine Kd.R_append_rows k55 (w0 := w) w.heap.size rfl (.tmp 43) (.tmp 52) 28 55 (.agg #[(.bool false), (.int .u64 0), (.string ⟨#[]⟩)]) 32 rfl Try.underlying28 info55 rfl (by decide) (by omega) u12 _ _ _ _ _ (fun _ => True) (fun _ => False) rfl rfl HROW4.out HC5.out (fun _ _ h => h) (fun _ h => h.elim) (fun _ _ => trivial) ?aB ?aS ?aL ?_; (case aB => exact bel_fed HM.out HB3.out HF4.out); (case aS => exact (bel_fed HM.out HB3.out HF4.out).size); (case aL => have := fed_len a1 (m0 a2) ((numsOf a0).take a) (numsOf (a0.extract a Z.toNat)); omega); intro v1 w5 ho hb hg hat; have HM5 := Aside0.mk hg; have HO5 := Aside0.mk ho; have HB5 := Aside0.mk hb; clear ho hb hg hat))
        go_roundg g
        case measure => omega
        case rel => exact ⟨i + 1, a + c, by omega, by have := HC.out; have := HA'.out; omega, by rw [hZ, HZ.out], by go_num, ⟨Mid.step (text := a0) (plan := a1) (most := a2) (a := a) (c := c) (gp := gp) (by have := HC.out; have := HA'.out; omega) HF4.out (HM.out.bel.trans (HB3.out.mono (by have := HSZ.out; omega))) ((HB3.out.block _ (by have := HSZ.out; omega)).trans HM.out.flt) (by have e := HR4.out; rw [HZ.out, Int.toNat_natCast] at e; exact e) HROW4.out HM5.out HB5.out (by have e := HO5.out; rw [HZ.out, Int.toNat_natCast] at e; exact e)⟩⟩
      · skip
        have d2 : decide (c0 < 0) = false := decide_eq_false hneg
        obtain ⟨Y, hY⟩ : ∃ Y : Int, wrap64 ((a0.size : Int) - (a : Int)) = Y := ⟨_, rfl⟩
        have hYv : Y = (a0.size : Int) - (a : Int) := by rw [← hY, Bytes.w64 (by omega) (by omega)]
        by_cases hgt : c0 > Y
        · have d3 : decide (Y < c0) = true := decide_eq_true hgt
          obtain ⟨c, hc⟩ : ∃ c : Nat, c = a0.size - a := ⟨_, rfl⟩
          obtain ⟨Z, hZ⟩ : ∃ Z : Int, wrap64 ((a : Int) + Y) = Z := ⟨_, rfl⟩
          have HY := Aside0.mk (show Y = (c : Int) by rw [hYv]; omega)
          have HZ := Aside0.mk (show Z = ((a + c : Nat) : Int) by rw [← hZ, HY.out, Bytes.w64 (by omega) (by omega)]; omega)
          have z0 : ((a : Int) ≤ Z) = True := eq_true (by rw [HZ.out]; omega)
          have z1 : decide ((a : Int) ≤ Z) = true := decide_eq_true (by rw [HZ.out]; omega)
          have z2 : (Z ≤ (a0.size : Int)) = True := eq_true (by rw [HZ.out]; omega)
          have z3 : decide (Z ≤ (a0.size : Int)) = true := decide_eq_true (by rw [HZ.out]; omega)
          have z4 : (0 ≤ (a : Int)) = True := eq_true (by omega)
          have HS := Aside0.mk s0
          have HA' := Aside0.mk ha
          have HC := Aside0.mk hc
          clear hneg s0 ha hc hgt hYv
          go_wp2_with (first | ((with_reducible refine gate_dst (N := 51) rfl ?_); refine T_conv (w0 := wr) wr.heap.size 5 rfl (N := 51) rfl 9 48 _ rfl (a0.extract a Z.toNat) rfl Try.underlying9 Try.underlying48 Try.underlying5 (by have := HS.out; have := cut_size a0 a Z; simp only [maxLen]; omega) (Below.refl _ _) (Nat.le_refl _) ?_; intro vc w3 HO hb3; obtain ⟨gp, cp, rfl, hg1, hg2, hg3, hrd⟩ := OwnT.slice HO; have HRD := Aside0.mk hrd; have HG1 := Aside0.mk hg1; have HG2 := Aside0.mk hg2; have HG3 := Aside0.mk hg3; have HB3 := Aside0.mk hb3; have HREP := Aside0.mk (HM.out.rep.apart hg1 hb3); have HSZ := Aside0.mk (HM.out.sizes); have hs3 := hb3.size; have HS3 := Aside0.mk hs3; clear hrd hg1 hg2 hg3 hb3 hs3 HO) | (go_at_call 28; refine (feed_calls (feed (newM a1 (m0 a2)) ((numsOf a0).take a)).1 w3 (w.heap.size + 1) w.heap.size (fun k => w.heap.size + 2 ≤ k ∧ k ≠ gp) HREP.out (feed_wf _ _ HWF.out (take_range a0 a)) (by omega) (fun k hk => ⟨by have := HSZ.out; have := HS3.out; omega, by have := HG2.out; omega⟩) (by have := HSZ.out; have := HS3.out; omega) _ _ _ (numsOf (a0.extract a Z.toNat)) HRD.out HG3.out (fun ad had => by injection had with had; subst had; exact ⟨by have := HG1.out; have := HSZ.out; show gp ≠ _; omega, HG2.out, fun q => q.2 rfl⟩) (numsOf_range _) (by have := HTK.out; have := feed_taken ((numsOf a0).take a) (newM a1 (m0 a2)); have := cut_len a0 a Z; have := HS.out; rw [List.length_take, numsOf_len] at *; have := HZ.out; have := HC.out; have := HA'.out; omega) (by have := HTK.out; have := feed_taken ((numsOf a0).take a) (newM a1 (m0 a2)); omega)).mono ?_; rintro e w4 ⟨vf, rfl, hOut, hRep4, hF4⟩; obtain ⟨A5, c5, rfl, hc5, hC5⟩ := Kd.R_reads hOut; have HR4 := Aside0.mk hRep4; have HF4 := Aside0.mk hF4; have HC5 := Aside0.mk hC5; have HROW4 := Aside0.mk (hF4.row HREP.out (Kd.R_below HM.out.row HB3.out)); clear hRep4 hF4 hC5 hOut) | ((with_reducible refine gate_builtin (b := .append) (xs := #[.tmp 43, .tmp 52]) rfl ?_); at_builtin; refine Kd.R_append_rows k55 (w0 := w) w.heap.size rfl (.tmp 43) (.tmp 52) 28 55 (.agg #[(.bool false), (.int .u64 0), (.string ⟨#[]⟩)]) 32 rfl Try.underlying28 info55 rfl (by decide) (by omega) u12 _ _ _ _ _ (fun _ => True) (fun _ => False) rfl rfl HROW4.out HC5.out (fun _ _ h => h) (fun _ h => h.elim) (fun _ _ => trivial) ?aB ?aS ?aL ?_; (case aB => exact bel_fed HM.out HB3.out HF4.out); (case aS => exact (bel_fed HM.out HB3.out HF4.out).size); (case aL => have := fed_len a1 (m0 a2) ((numsOf a0).take a) (numsOf (a0.extract a Z.toNat)); omega); intro v1 w5 ho hb hg hat; have HM5 := Aside0.mk hg; have HO5 := Aside0.mk ho; have HB5 := Aside0.mk hb; clear ho hb hg hat))
          go_roundg g
          case measure => omega
          case rel => exact ⟨i + 1, a + c, by omega, by have := HC.out; have := HA'.out; omega, by rw [hZ, HZ.out], by go_num, ⟨Mid.step (text := a0) (plan := a1) (most := a2) (a := a) (c := c) (gp := gp) (by have := HC.out; have := HA'.out; omega) HF4.out (HM.out.bel.trans (HB3.out.mono (by have := HSZ.out; omega))) ((HB3.out.block _ (by have := HSZ.out; omega)).trans HM.out.flt) (by have e := HR4.out; rw [HZ.out, Int.toNat_natCast] at e; exact e) HROW4.out HM5.out HB5.out (by have e := HO5.out; rw [HZ.out, Int.toNat_natCast] at e; exact e)⟩⟩
        · have d3 : decide (Y < c0) = false := decide_eq_false hgt
          obtain ⟨c, hc1⟩ : ∃ c : Nat, c0 = (c : Int) := ⟨c0.toNat, by omega⟩
          have hc : c ≤ a0.size - a := by omega
          obtain ⟨Z, hZ⟩ : ∃ Z : Int, wrap64 ((a : Int) + c0) = Z := ⟨_, rfl⟩
          have HZ := Aside0.mk (show Z = ((a + c : Nat) : Int) by rw [← hZ, hc1, Bytes.w64 (by omega) (by omega)]; omega)
          have z0 : ((a : Int) ≤ Z) = True := eq_true (by rw [HZ.out]; omega)
          have z1 : decide ((a : Int) ≤ Z) = true := decide_eq_true (by rw [HZ.out]; omega)
          have z2 : (Z ≤ (a0.size : Int)) = True := eq_true (by rw [HZ.out]; omega)
          have z3 : decide (Z ≤ (a0.size : Int)) = true := decide_eq_true (by rw [HZ.out]; omega)
          have z4 : (0 ≤ (a : Int)) = True := eq_true (by omega)
          have HC0 := Aside0.mk hc1
          have HS := Aside0.mk s0
          have HA' := Aside0.mk ha
          have HC := Aside0.mk hc
          clear hneg s0 ha hc hgt hYv hc1
          go_wp2_with (first | ((with_reducible refine gate_dst (N := 51) rfl ?_); refine T_conv (w0 := wr) wr.heap.size 5 rfl (N := 51) rfl 9 48 _ rfl (a0.extract a Z.toNat) rfl Try.underlying9 Try.underlying48 Try.underlying5 (by have := HS.out; have := cut_size a0 a Z; simp only [maxLen]; omega) (Below.refl _ _) (Nat.le_refl _) ?_; intro vc w3 HO hb3; obtain ⟨gp, cp, rfl, hg1, hg2, hg3, hrd⟩ := OwnT.slice HO; have HRD := Aside0.mk hrd; have HG1 := Aside0.mk hg1; have HG2 := Aside0.mk hg2; have HG3 := Aside0.mk hg3; have HB3 := Aside0.mk hb3; have HREP := Aside0.mk (HM.out.rep.apart hg1 hb3); have HSZ := Aside0.mk (HM.out.sizes); have hs3 := hb3.size; have HS3 := Aside0.mk hs3; clear hrd hg1 hg2 hg3 hb3 hs3 HO) | (go_at_call 28; refine (feed_calls (feed (newM a1 (m0 a2)) ((numsOf a0).take a)).1 w3 (w.heap.size + 1) w.heap.size (fun k => w.heap.size + 2 ≤ k ∧ k ≠ gp) HREP.out (feed_wf _ _ HWF.out (take_range a0 a)) (by omega) (fun k hk => ⟨by have := HSZ.out; have := HS3.out; omega, by have := HG2.out; omega⟩) (by have := HSZ.out; have := HS3.out; omega) _ _ _ (numsOf (a0.extract a Z.toNat)) HRD.out HG3.out (fun ad had => by injection had with had; subst had; exact ⟨by have := HG1.out; have := HSZ.out; show gp ≠ _; omega, HG2.out, fun q => q.2 rfl⟩) (numsOf_range _) (by have := HTK.out; have := feed_taken ((numsOf a0).take a) (newM a1 (m0 a2)); have := cut_len a0 a Z; have := HS.out; rw [List.length_take, numsOf_len] at *; have := HZ.out; have := HC.out; have := HA'.out; omega) (by have := HTK.out; have := feed_taken ((numsOf a0).take a) (newM a1 (m0 a2)); omega)).mono ?_; rintro e w4 ⟨vf, rfl, hOut, hRep4, hF4⟩; obtain ⟨A5, c5, rfl, hc5, hC5⟩ := Kd.R_reads hOut; have HR4 := Aside0.mk hRep4; have HF4 := Aside0.mk hF4; have HC5 := Aside0.mk hC5; have HROW4 := Aside0.mk (hF4.row HREP.out (Kd.R_below HM.out.row HB3.out)); clear hRep4 hF4 hC5 hOut) | ((with_reducible refine gate_builtin (b := .append) (xs := #[.tmp 43, .tmp 52]) rfl ?_); at_builtin; refine Kd.R_append_rows k55 (w0 := w) w.heap.size rfl (.tmp 43) (.tmp 52) 28 55 (.agg #[(.bool false), (.int .u64 0), (.string ⟨#[]⟩)]) 32 rfl Try.underlying28 info55 rfl (by decide) (by omega) u12 _ _ _ _ _ (fun _ => True) (fun _ => False) rfl rfl HROW4.out HC5.out (fun _ _ h => h) (fun _ h => h.elim) (fun _ _ => trivial) ?aB ?aS ?aL ?_; (case aB => exact bel_fed HM.out HB3.out HF4.out); (case aS => exact (bel_fed HM.out HB3.out HF4.out).size); (case aL => have := fed_len a1 (m0 a2) ((numsOf a0).take a) (numsOf (a0.extract a Z.toNat)); omega); intro v1 w5 ho hb hg hat; have HM5 := Aside0.mk hg; have HO5 := Aside0.mk ho; have HB5 := Aside0.mk hb; clear ho hb hg hat))
          go_roundg g
          case measure => omega
          case rel => exact ⟨i + 1, a + c, by omega, by have := HC.out; have := HA'.out; omega, by rw [hZ, HZ.out], by go_num, ⟨Mid.step (text := a0) (plan := a1) (most := a2) (a := a) (c := c) (gp := gp) (by have := HC.out; have := HA'.out; omega) HF4.out (HM.out.bel.trans (HB3.out.mono (by have := HSZ.out; omega))) ((HB3.out.block _ (by have := HSZ.out; omega)).trans HM.out.flt) (by have e := HR4.out; rw [HZ.out, Int.toNat_natCast] at e; exact e) HROW4.out HM5.out HB5.out (by have e := HO5.out; rw [HZ.out, Int.toNat_natCast] at e; exact e)⟩⟩
end Go.Proofs.Ytnilogameaaooaa.Q
