/- Texts of this claim, put together: ExtKeeps, PureWireKeeps, Opens. -/
import Derived.Test.YtnilogameaaooaaCWireKeeps4
import Derived.LoopN
import Derived.Test.YtnilogameaaooaaRows
import Derived.Test.YtnilogameaaooaaWWords
import Derived.Test.YtnilogameaaooaaWLast
import Derived.Deep.Slices
import Derived.ProofKit
import Derived.SizedLaws
/- depotlaw03.WireKeeps, walked by hand: it answers true. -/
namespace Go.Proofs.Ytnilogameaaooaa.Q
open Go.RowKit Go.Proofs.Ytnilogameaaooaa.Pure Go.Proofs.Ytnilogameaaooaa.Rdr Go.Proofs.Ytnilogameaaooaa.Tail Go.Proofs.YtnilogameaaooaaW.PrintWords Go.Proofs.YtnilogameaaooaaW.PrintLast Go.Proofs.YtnilogameaaooaaW.PrintMore Go.Proofs.Ytnilogameaaooaa.Bytes
set_option linter.unusedVariables false
set_option linter.unusedSimpArgs false

def depotlaw03_WireKeeps.f (a0 : ByteArray) (a1 : Int) : Option (Bool) :=
  if a0.size ≤ 1048576 ∧ 0 ≤ a1 ∧ a1 < 256 then some true else none
def fillX (T : ByteArray) (m : Int) (j : Nat) : List Int := numsOf T ++ (List.replicate j m ++ List.replicate (80 - j) 0)
theorem fill_len (T : ByteArray) (m : Int) (j : Nat) (h : j ≤ 80) : (fillX T m j).length = T.size + 80 := by
  unfold fillX
  rw [List.length_append, numsOf_len, List.length_append, List.length_replicate, List.length_replicate]
  omega
theorem fill_step (T : ByteArray) (m : Int) (j : Nat) (h : j < 80) : (fillX T m j).set (T.size + j) m = fillX T m (j + 1) := by
  unfold fillX
  have e : 80 - j = (80 - (j + 1)) + 1 := by omega
  rw [List.set_append, if_neg (by rw [numsOf_len]; omega), numsOf_len, Nat.add_sub_cancel_left, List.set_append, if_neg (by rw [List.length_replicate]; omega), List.length_replicate, Nat.sub_self, e, List.replicate_succ, List.set_cons_zero, List.replicate_succ' (n := j), List.append_assoc]
  rfl
/-- The row once i of its bytes are written over. -/
def clrX (T : ByteArray) (m : Int) (i : Nat) : List Int := List.replicate i m ++ (fillX T m 80).drop i
theorem clr_step (T : ByteArray) (m : Int) (i : Nat) (h : i < T.size + 80) : (clrX T m i).set i m = clrX T m (i + 1) := by
  unfold clrX
  have hl : i < (fillX T m 80).length := by rw [fill_len T m 80 (Nat.le_refl _)]; exact h
  rw [List.set_append, if_neg (by rw [List.length_replicate]; omega), List.length_replicate, Nat.sub_self, List.drop_eq_getElem_cons hl, List.set_cons_zero, List.replicate_succ' (n := i), List.append_assoc]
  rfl
theorem clr_at (T : ByteArray) (m : Int) (i : Nat) (h : i < T.size + 80) : (clrX T m i)[i]? = some (if i < T.size then bt T (i : Int) else m) := by
  unfold clrX
  have hl : i < (fillX T m 80).length := by rw [fill_len T m 80 (Nat.le_refl _)]; exact h
  rw [List.getElem?_append_right (by rw [List.length_replicate]; exact Nat.le_refl _), List.length_replicate, Nat.sub_self, List.getElem?_drop, Nat.add_zero]
  unfold fillX
  by_cases hi : i < T.size
  · rw [if_pos hi, List.getElem?_append_left (by rw [numsOf_len]; exact hi)]
    have e1 : (numsOf T)[i]? = some ((T.data.toList[i]'(by rw [Array.length_toList]; exact hi)).toNat : Int) := by
      unfold numsOf
      rw [List.getElem?_map, List.getElem?_eq_getElem (by rw [Array.length_toList]; exact hi)]
      rfl
    rw [e1, bt_bs, Int.toNat_natCast]
    unfold bs
    rw [List.getD_eq_getElem?_getD, List.getElem?_eq_getElem (by rw [Array.length_toList]; exact hi)]
    rfl
  · rw [if_neg hi, List.getElem?_append_right (by rw [numsOf_len]; omega), numsOf_len, Nat.sub_self, List.replicate_zero, List.append_nil, List.getElem?_replicate, if_pos (by omega)]
theorem clr_all (T : ByteArray) (m : Int) : clrX T m (T.size + 80) = List.replicate (T.size + 80) m := by
  unfold clrX
  rw [List.drop_of_length_le (by rw [fill_len T m 80 (Nat.le_refl _)]; exact Nat.le_refl _), List.append_nil]
theorem clr_copy (T : ByteArray) (m : Int) : numsOf T ++ (clrX T m (T.size + 80)).drop T.size = fillX T m 80 := by
  rw [clr_all, List.drop_replicate, Nat.add_sub_cancel_left]
  unfold fillX
  simp
theorem clr_zero (T : ByteArray) (m : Int) : clrX T m 0 = fillX T m 80 := by simp [clrX]
theorem fill_zero (T : ByteArray) (m : Int) : numsOf T ++ (List.replicate (T.size + 80) (0 : Int)).drop T.size = fillX T m 0 := by
  rw [List.drop_replicate, Nat.add_sub_cancel_left]
  simp [fillX]
theorem fill_take (T : ByteArray) (m : Int) (j : Nat) : (fillX T m j).take T.size = numsOf T := by
  unfold fillX
  conv => lhs; arg 1; rw [← numsOf_len T]
  rw [List.take_left]
set_option maxRecDepth 100000 in
theorem fault_code (p : Int) (W : World) : (Instr.field 31 (.agg #[.int .i64 0, .int .i64 p]) 0).run Try.prog W = .ok (.int .i64 0) W := by
  have hi : (Try.prog.info? 29).map (·.size) = some 1 := by kernel_rfl
  obtain ⟨i, h1, h2⟩ := Option.map_eq_some_iff.1 hi
  have hu := Try.underlying29
  simp [Instr.field, run_underlying Try.underlying31, part, asAgg, sizeOf, typeInfo, h1, h2, run_underlying hu]
theorem app_take (T : ByteArray) (l : List Int) : (numsOf T ++ l).take T.size = numsOf T := by
  conv => lhs; arg 1; rw [← numsOf_len T]
  rw [List.take_left]
theorem newM_taken (m : Int) : (newM kPlan m).taken = 0 := rfl
set_option maxHeartbeats 8000000 in
set_option maxRecDepth 100000 in
theorem depotlaw03_WireKeeps.calls (a0 : ByteArray) (a1 : Int) (r : Bool) (w : World) (h : depotlaw03_WireKeeps.f a0 a1 = some r) :
    Calls Try.prog 9 #[.string a0, .int .u8 a1] w fun e w' => e = .returned (.bool r) ∧ Below w.heap.size w w' := by
  unfold depotlaw03_WireKeeps.f at h
  by_cases hsz : a0.size ≤ 1048576 ∧ 0 ≤ a1 ∧ a1 < 256
  case neg => rw [if_neg hsz] at h; exact absurd h (by simp)
  rw [if_pos hsz] at h
  obtain ⟨s0, m0', m1⟩ := hsz
  obtain rfl := Option.some.inj h
  obtain ⟨Ka, hKa⟩ := awake_ev
  have HKa := Aside0.mk (hKa Ka (Nat.le_refl _))
  obtain ⟨k1, k2, k3⟩ := keep_facts a0 s0
  have K1 := Aside0.mk k1
  have K2 := Aside0.mk k2
  have K3 := Aside0.mk k3
  have hTs := kT_size a0
  have hsx := sx_size a0
  obtain ⟨T1, hT1⟩ : ∃ T1, strOfNums (frame8 a0) = T1 := ⟨_, rfl⟩
  obtain ⟨T2, hT2⟩ : ∃ T2, strOfNums (frame8 (a0 ++ xX)) = T2 := ⟨_, rfl⟩
  have HT1 := Aside0.mk (show wire_Text.f a0 = some T1 by rw [← hT1]; exact if_pos (by omega))
  have HT2 := Aside0.mk (show wire_Text.f (a0 ++ (⟨#[120]⟩ : ByteArray)) = some T2 by change wire_Text.f (a0 ++ xX) = some T2; rw [← hT2]; exact if_pos (by rw [hsx]; omega))
  have hT : kT a0 = T1 ++ T2 := by rw [← hT1, ← hT2]; rfl
  obtain ⟨T, hTT⟩ : ∃ T, T1 ++ T2 = T := ⟨_, rfl⟩
  rw [hT, hTT] at K1 K2 K3 hTs
  have hsum : T1.size + T2.size = T.size := by rw [← hTT, ByteArray.size_append]
  have hc1 : (9223372036854775807 < a0.size + 1) = False := eq_false (by omega)
  have hc2 : (9223372036854775807 < T1.size + T2.size) = False := eq_false (by omega)
  have S0 := Aside0.mk s0
  obtain ⟨NN, hNN⟩ : ∃ NN : Nat, T.size + 80 = NN := ⟨_, rfl⟩
  have hNI : (T.size : Int) + 80 = (NN : Int) := by omega
  clear hKa k1 k2 k3 hT1 hT2 hT hsx h
  have hu31 := Try.underlying31
  go_enter Try.func9, Try.ntmps9
  go_wp2_with (first | (go_at_call 18; refine (depotlaw03_awake.calls Ka true _ HKa.out).mono ?_; rintro e w1 ⟨rfl, hb1⟩; have HB1 := Aside0.mk hb1; clear hb1) | (go_at_call 15; first | (with_reducible refine (wire_Text.calls a0 T1 w1 HT1.out).mono ?_; rintro e w2 ⟨rfl, hb2⟩; have HB2 := Aside0.mk hb2; clear hb2) | (with_reducible refine (wire_Text.calls (a0 ++ (⟨#[120]⟩ : ByteArray)) T2 w2 HT2.out).mono ?_; rintro e w3 ⟨rfl, hb3⟩; have HB3 := Aside0.mk hb3; clear hb3)) | ((with_reducible refine gate_dst (N := 25) rfl ?_); refine make_raw 5 rfl (N := 25) rfl 48 (.tmp 24) rfl NN rfl Try.underlying48 info5 (by omega) rfl ?_; intro w4 hq4 hb4; have HQ4 := Aside0.mk hq4; have HB4 := Aside0.mk hb4; clear hq4 hb4) | ((with_reducible refine gate_builtin (b := .copy) (xs := #[.tmp 26, .tmp 27]) rfl ?_); refine copy_raw 5 rfl (.tmp 26) (.tmp 27) 48 9 rfl w3.heap.size NN NN (List.replicate NN 0) T rfl rfl Try.underlying48 (by kernel_rfl) HQ4.out (by rw [List.length_replicate]) (by omega) ?_; intro w5 hq5 hs5 hz5 hb5; have HQ5 := Aside0.mk hq5; have HB5 := Aside0.mk (hb5 w.heap.size w (by have := HB1.out.size; have := HB2.out.size; have := HB3.out.size; omega) (((HB1.out.trans (HB2.out.mono HB1.out.size)).trans (HB3.out.mono (Nat.le_trans HB1.out.size HB2.out.size))).trans (HB4.out.mono (Nat.le_trans (Nat.le_trans HB1.out.size HB2.out.size) HB3.out.size)))); clear hq5 hs5 hz5 hb5))
  have hlo : w.heap.size ≤ w3.heap.size := by have := HB1.out.size; have := HB2.out.size; have := HB3.out.size; omega
  have HQ0 := Aside0.mk (show QB w5 w3.heap.size (fillX T a1 0) by have := HQ5.out; rw [← hNN, fill_zero] at this; exact this)
  obtain ⟨gq, hgq⟩ : ∃ gq, w3.heap.size = gq := ⟨_, rfl⟩
  rw [hgq] at HQ0 hlo
  simp only [hgq]
  clear HQ4 HQ5 HB1 HB2 HB3 HB4 hgq
  go_loopg [7] 80 (fun g v7 wx => ∃ j : Nat, j + g = 80 ∧ v7 = .int .i64 ((T.size + j : Nat) : Int) ∧ Aside0 (QB wx gq (fillX T a1 j)) ∧ Aside0 (Below w.heap.size w wx))
  case atStart => exact ⟨0, by omega, by rw [Nat.add_zero], HQ0, HB5⟩
  case round =>
    obtain ⟨j, hjg, rfl, HQ, HB⟩ := hrel
    cases gk with
    | zero =>
      obtain rfl : j = 80 := by omega
      have d1 : decide (((T.size + 80 : Nat) : Int) < (NN : Int)) = false := decide_eq_false (by omega)
      have d2 : ((T.size : Int) ≤ (NN : Int)) = True := eq_true (by omega)
      have d3 : decide ((T.size : Int) ≤ (NN : Int)) = true := decide_eq_true (by omega)
      go_wp2_with (first | (go_at_call 27; refine (new_calls (⟨#[116, 116, 116, 116]⟩ : ByteArray) ((a0.size : Int) + 1) wr (by decide)).mono ?_; rintro e w6 ⟨rfl, hA, hB⟩; have HKS := Aside0.mk (KS.start HB.out HQ.out hlo hA hB); have HSZ := Aside0.mk hB.size; clear hA hB) | (go_at_call 28; refine (feed_calls (newM kPlan (m0 ((a0.size : Int) + 1))) w6 wr.heap.size w.heap.size (fun k => wr.heap.size < k) HKS.out.rep (newM_wf kPlan ((a0.size : Int) + 1) (by decide) (by omega)) (by omega) (fun k hk => by have := HKS.out.lts; omega) (by have := HKS.out.lts; omega) (some ⟨gq, 0, none⟩) T.size NN (numsOf T) (by have := HKS.out.row.reads T.size (by rw [fill_len T a1 80 (Nat.le_refl _)]; omega) (by omega); rw [fill_take] at this; exact this) (by omega) (fun ad had => by injection had with had; subst had; have := HKS.out.lts; exact ⟨by show gq ≠ _; omega, by show gq < _; omega, by show ¬ (_ < gq); omega⟩) (numsOf_range T) (by rw [newM_taken]; omega) (by rw [newM_taken]; exact Int.le_refl _)).mono ?_; rintro e w7 ⟨va, rfl, hOut, hRep7, hF7⟩; rw [show (feed (newM kPlan (m0 ((a0.size : Int) + 1))) (numsOf T)).2 = kIts a0 from K1.out] at hOut; obtain ⟨ga, ca, rfl, hIT⟩ := IT.of_R hOut; have HIT := Aside0.mk hIT; have HKS7 := Aside0.mk (HKS.out.fed hF7 hRep7); have HSZ7 := Aside0.mk hF7.size; clear hOut hRep7 hF7 hIT))
      have HGA := Aside0.mk (show wr.heap.size < ga by have := HIT.out.lo; have := HKS.out.lts; omega)
      have HW6 := Aside0.mk HKS.out.bel.size
      obtain ⟨b, hbb⟩ : ∃ b, wr.heap.size = b := ⟨_, rfl⟩
      have hW1 := feed_wf (numsOf T) (newM kPlan (m0 ((a0.size : Int) + 1))) (newM_wf kPlan ((a0.size : Int) + 1) (by decide) (by omega)) (numsOf_range T)
      have hT1 := feed_taken (numsOf T) (newM kPlan (m0 ((a0.size : Int) + 1)))
      rw [newM_taken, numsOf_len] at hT1
      obtain ⟨P1, hP1⟩ : ∃ P1, (feed (newM kPlan (m0 ((a0.size : Int) + 1))) (numsOf T)).1 = P1 := ⟨_, rfl⟩
      have HK2 := Aside0.mk (show (feed P1 (numsOf T)).2 = kIts a0 by rw [← hP1]; exact K2.out)
      have HK3 := Aside0.mk (show (close (feed P1 (numsOf T)).1).code = 0 by rw [← hP1]; exact K3.out)
      rw [hP1] at hW1 hT1 HKS7
      rw [hbb] at HKS7 HGA
      simp only [hbb]
      have HW1 := Aside0.mk hW1
      have HT1' := Aside0.mk hT1
      have HKC : Aside0 (KS w w7 b gq P1 (clrX T a1 0)) := ⟨by rw [clr_zero]; exact HKS7.out⟩
      clear HKS HQ HB HKS7 HSZ HSZ7 hW1 hT1 hP1 hbb d1
      go_loopg [55] NN (fun g v55 wx => ∃ i : Nat, i + g = NN ∧ v55 = .int .i64 (i : Int) ∧ Aside0 (KS w wx b gq P1 (clrX T a1 i)) ∧ Aside0 (IT wx w6.heap.size ga ca a0 (a0 ++ xX)))
      case atStart => exact ⟨0, by omega, rfl, HKC, HIT⟩
      case round =>
        obtain ⟨i, hig, rfl, HK, HI⟩ := hrel
        cases gk with
        | zero =>
          obtain rfl : NN = i := by omega
          have d1 : decide ((NN : Int) < (NN : Int)) = false := decide_eq_false (by omega)
          go_wp2_with (first | ((with_reducible refine gate_builtin (b := .copy) (xs := #[.tmp 91, .tmp 92]) rfl ?_); refine copy_raw 5 rfl (.tmp 91) (.tmp 92) 48 9 rfl gq NN NN (clrX T a1 NN) T rfl rfl Try.underlying48 (by kernel_rfl) HK.out.row (by rw [← hNN, clr_all, List.length_replicate]) (by omega) ?_; intro w10 hq10 hs10 hz10 hb10; have HK10 := Aside0.mk (HK.out.move hs10 hq10 (hb10 w.heap.size w HK.out.lo HK.out.bel)); have HI10 := Aside0.mk (HI.out.kept (hs10 ga (by have := HGA.out; have := HK.out.lts; omega))); clear hq10 hs10 hz10 hb10) | (go_at_call 28; refine (feed_calls P1 w10 b w.heap.size (fun k => b < k) HK10.out.rep HW1.out (by omega) (fun k hk => by have := HK10.out.lts; omega) (by have := HK10.out.lts; omega) (some ⟨gq, 0, none⟩) T.size NN (numsOf T) (by have := HK10.out.row.reads T.size (by rw [List.length_append, numsOf_len]; omega) (by omega); rw [app_take] at this; exact this) (by omega) (fun ad had => by injection had with had; subst had; have := HK10.out.lts; exact ⟨by show gq ≠ _; omega, by show gq < _; omega, by show ¬ (_ < gq); omega⟩) (numsOf_range T) (by have := HT1'.out; omega) (by have := HT1'.out; omega)).mono ?_; rintro e w11 ⟨vb, rfl, hOut, hRep11, hF11⟩; rw [HK2.out] at hOut; obtain ⟨gc, cc, rfl, hIT2⟩ := IT.of_R hOut; have HJ := Aside0.mk hIT2; have HI11 := Aside0.mk (HI10.out.fed hF11 HK10.out.rep); have HK11 := Aside0.mk (HK10.out.fed hF11 hRep11); have u2 := HI11.out.cell 2 (.string a0) rfl; have u5 := HI11.out.cell 5 (.string (a0 ++ (⟨#[120]⟩ : ByteArray))) rfl; have v2 := HJ.out.cell 2 (.string a0) rfl; have v5 := HJ.out.cell 5 (.string (a0 ++ (⟨#[120]⟩ : ByteArray))) rfl; have HGC := Aside0.mk (show ga < gc by have := HJ.out.lo; have := HI10.out.lt; omega); clear hOut hRep11 hF11 hIT2))
          have f2 := HI11.out.fro 2
          have f5 := HI11.out.fro 5
          have hne : (ga = gc) = False := eq_false (by have := HGC.out; omega)
          have hne' : (gc = ga) = False := eq_false (by have := HGC.out; omega)
          refine wp_loop_rounds 3 ?_
          rw [rounds_succ]
          go_wp2
          rw [rounds_succ]
          go_wp2
          rw [rounds_succ]
          go_wp2
          have HLO := Aside0.mk (show w.heap.size ≤ ga ∧ w.heap.size ≤ gc by have := HGA.out; have := HGC.out; have := HK11.out.lts; omega)
          have hnn : ga ≠ gc := by have := HGC.out; omega
          have HI12 := Aside0.mk ((HI11.out.set0 (u := (⟨#[109, 105, 110, 101]⟩ : ByteArray))).set1 (u := (⟨#[109, 105, 110, 101]⟩ : ByteArray)))
          have HJ12 := Aside0.mk ((HJ.out.setother (k := ga) (i := 2) (u := .string (⟨#[109, 105, 110, 101]⟩ : ByteArray)) (Ne.symm hnn)).setother (k := ga) (i := 5) (u := .string (⟨#[109, 105, 110, 101]⟩ : ByteArray)) (Ne.symm hnn))
          have HK12 := Aside0.mk ((HK11.out.setit HI11.out HLO.out.1 (i := 2) (u := .string (⟨#[109, 105, 110, 101]⟩ : ByteArray))).setit (HI11.out.set0 (u := (⟨#[109, 105, 110, 101]⟩ : ByteArray))) HLO.out.1 (i := 5) (u := .string (⟨#[109, 105, 110, 101]⟩ : ByteArray)))
          clear u2 u5 v2 v5 f2 f5
          generalize (w11.setCell ⟨ga, 2, none⟩ (.string (⟨#[109, 105, 110, 101]⟩ : ByteArray))).setCell ⟨ga, 5, none⟩ (.string (⟨#[109, 105, 110, 101]⟩ : ByteArray)) = w12 at HI12 HJ12 HK12 ⊢
          have f2 := HJ12.out.fro 2
          have f5 := HJ12.out.fro 5
          have v2 := HJ12.out.cell 2 (.string a0) rfl
          have v5 := HJ12.out.cell 5 (.string (a0 ++ (⟨#[120]⟩ : ByteArray))) rfl
          refine wp_loop_rounds 3 ?_
          rw [rounds_succ]
          go_wp2
          rw [rounds_succ]
          go_wp2
          rw [rounds_succ]
          have HJ13 := Aside0.mk ((HJ12.out.set0 (u := (⟨#[121, 111, 117, 114, 115]⟩ : ByteArray))).set1 (u := (⟨#[121, 111, 117, 114, 115]⟩ : ByteArray)))
          have HI13 := Aside0.mk ((HI12.out.setother (k := gc) (i := 2) (u := .string (⟨#[121, 111, 117, 114, 115]⟩ : ByteArray)) hnn).setother (k := gc) (i := 5) (u := .string (⟨#[121, 111, 117, 114, 115]⟩ : ByteArray)) hnn)
          have HK13 := Aside0.mk ((HK12.out.setit HJ12.out HLO.out.2 (i := 2) (u := .string (⟨#[121, 111, 117, 114, 115]⟩ : ByteArray))).setit (HJ12.out.set0 (u := (⟨#[121, 111, 117, 114, 115]⟩ : ByteArray))) HLO.out.2 (i := 5) (u := .string (⟨#[121, 111, 117, 114, 115]⟩ : ByteArray)))
          have hfd : ∀ W : World, (Instr.field 31 (.agg #[.int .i64 0, .int .i64 (close (feed P1 (numsOf T)).1).place]) 0).run Try.prog W = .ok (.int .i64 0) W := fun W => fault_code _ W
          clear v2 v5 f2 f5
          generalize (w12.setCell ⟨gc, 2, none⟩ (.string (⟨#[121, 111, 117, 114, 115]⟩ : ByteArray))).setCell ⟨gc, 5, none⟩ (.string (⟨#[121, 111, 117, 114, 115]⟩ : ByteArray)) = w13 at HI13 HJ13 HK13 ⊢
          go_wp2_with (first | ((with_reducible refine gate_builtin (b := .append) (xs := #[.tmp 162, .tmp 163]) rfl ?_); at_builtin; refine Kd.R_append_rows k55 (w0 := w) w.heap.size rfl (.tmp 162) (.tmp 163) 28 55 (.agg #[(.bool false), (.int .u64 0), (.string ⟨#[]⟩)]) 32 rfl Try.underlying28 info55 rfl (by decide) (by omega) (.slice (some ⟨ga, 0, none⟩) 2 ca) [⟨false, 0, (⟨#[109, 105, 110, 101]⟩ : ByteArray)⟩, ⟨false, 0, (⟨#[109, 105, 110, 101]⟩ : ByteArray)⟩] [⟨false, 0, (⟨#[121, 111, 117, 114, 115]⟩ : ByteArray)⟩, ⟨false, 0, (⟨#[121, 111, 117, 114, 115]⟩ : ByteArray)⟩] (some ⟨gc, 0, none⟩) 2 cc (fun _ => True) (fun _ => False) rfl rfl (Kd.R_lower HI13.out.toR HW6.out) (show k55.C w13 (some ⟨gc, 0, none⟩) 2 [⟨false, 0, (⟨#[121, 111, 117, 114, 115]⟩ : ByteArray)⟩, ⟨false, 0, (⟨#[121, 111, 117, 114, 115]⟩ : ByteArray)⟩] from (Kd.R_reads' HJ13.out.toR).2.2) (fun _ _ h => h) (fun _ h => h.elim) (fun _ _ => trivial) HK13.out.bel HK13.out.bel.size (by decide) ?_; intro v14 w14 ho hb hg hat; obtain ⟨g14, c14, rfl, x2, x5⟩ := four_of_R ho; have HK14 := Aside0.mk (HK13.out.grown HI13.out hg hb); have HJ14 := HJ13.out.kept (hg.block gc HJ13.out.lt (by have := HGC.out; simp [Value.ownBlock]; omega)); have y2 := HJ14.cell 2 (.string (⟨#[121, 111, 117, 114, 115]⟩ : ByteArray)) rfl; have y5 := HJ14.cell 5 (.string (⟨#[121, 111, 117, 114, 115]⟩ : ByteArray)) rfl; clear ho hb hg hat HJ14) | (go_at_call 29; refine (close_ps (feed P1 (numsOf T)).1 w14 b w.heap.size (fun k => b < k) HK14.out.rep (by omega)).mono ?_; rintro e w15 ⟨rfl, hRep15, hF15⟩; rw [HK3.out]; have HB15 := Aside0.mk (HK14.out.bel.trans (frame_below hF15 HK14.out.bel.size (by have := HK14.out.lts; omega) (fun k hk => by have := HK14.out.lts; omega))); clear hRep15 hF15))
          go_ret
          exact ⟨rfl, HB15.out⟩
        | succ g =>
          have d1 : decide ((i : Int) < (NN : Int)) = true := decide_eq_true (by omega)
          have hlt : i < NN := by omega
          have hx := clr_at T a1 i (by omega)
          by_cases hiT : i < T.size
          · skip
            have e1 : decide ((i : Int) < (T.size : Int)) = true := decide_eq_true (by omega)
            have e2 : decide ((T.size : Int) ≤ (i : Int)) = false := decide_eq_false (by omega)
            have e3 : (T.size ≤ i) = False := eq_false (by omega)
            have e4 : (i < T.size) = True := eq_true hiT
            rw [if_pos hiT, bt_get T i hiT] at hx
            go_wp2
            refine wp_region_still_lit (by kernel_rfl) (by kernel_rfl) ?_
            change wpStill _ _ (World.drew wr) _ _ _
            obtain ⟨w8, hw8⟩ : ∃ w8, World.drew wr = w8 := ⟨_, rfl⟩
            have HK8 := Aside0.mk (HK.out.below (below_drew (Below.refl _ _)))
            have HI8 := Aside0.mk (HI.out.below (below_drew (Below.refl _ _)))
            rw [hw8] at HK8 HI8 ⊢
            have hc8 := HK8.out.row.cell i _ hx
            have f1 := HK8.out.row.fro i
            have HK9 := Aside0.mk (HK8.out.set i a1)
            have HI9 := Aside0.mk (HI8.out.setq (i := i) (u := .int .u8 a1) HK8.out)
            clear hx
            generalize hA_ : Act.mk _ _ = A_
            iterate 28 (refine wpStill_step (fun K hK => ?_); subst hA_; go_simp; generalize hA_ : Act.mk _ _ = A_; with_reducible refine hK _ ?_; clear hK K)
            refine wpStill_nil ?_
            subst hA_
            go_wp2
            go_roundg g
            case measure => omega
            case rel => exact ⟨i + 1, by omega, by first | rfl | go_num | (congr 1; omega), ⟨by have := HK9.out; rw [clr_step T a1 i (by omega)] at this; exact this⟩, HI9⟩
          · skip
            have e1 : decide ((i : Int) < (T.size : Int)) = false := decide_eq_false (by omega)
            have e2 : decide ((T.size : Int) ≤ (i : Int)) = true := decide_eq_true (by omega)
            have e3 : (T.size ≤ i) = True := eq_true (by omega)
            have e4 : (i < T.size) = False := eq_false hiT
            rw [if_neg hiT] at hx
            go_wp2
            refine wp_region_still_lit (by kernel_rfl) (by kernel_rfl) ?_
            change wpStill _ _ (World.drew wr) _ _ _
            obtain ⟨w8, hw8⟩ : ∃ w8, World.drew wr = w8 := ⟨_, rfl⟩
            have HK8 := Aside0.mk (HK.out.below (below_drew (Below.refl _ _)))
            have HI8 := Aside0.mk (HI.out.below (below_drew (Below.refl _ _)))
            rw [hw8] at HK8 HI8 ⊢
            have hc8 := HK8.out.row.cell i _ hx
            have f1 := HK8.out.row.fro i
            have HK9 := Aside0.mk (HK8.out.set i a1)
            have HI9 := Aside0.mk (HI8.out.setq (i := i) (u := .int .u8 a1) HK8.out)
            clear hx
            generalize hA_ : Act.mk _ _ = A_
            iterate 28 (refine wpStill_step (fun K hK => ?_); subst hA_; go_simp; generalize hA_ : Act.mk _ _ = A_; with_reducible refine hK _ ?_; clear hK K)
            refine wpStill_nil ?_
            subst hA_
            go_wp2
            go_roundg g
            case measure => omega
            case rel => exact ⟨i + 1, by omega, by first | rfl | go_num | (congr 1; omega), ⟨by have := HK9.out; rw [clr_step T a1 i (by omega)] at this; exact this⟩, HI9⟩
    | succ g =>
      obtain ⟨i, hi⟩ : ∃ i, T.size + j = i := ⟨_, rfl⟩
      rw [hi]
      have d1 : decide ((i : Int) < (NN : Int)) = true := decide_eq_true (by omega)
      have hlt : i < NN := by omega
      have c1 := HQ.out.cell i ((fillX T a1 j)[i]'(by rw [fill_len T a1 j (by omega)]; omega)) (List.getElem?_eq_getElem _)
      have f1 := HQ.out.fro i
      have HQ' := Aside0.mk (HQ.out.set i a1)
      go_wp2
      go_roundg g
      case measure => omega
      case rel => exact ⟨j + 1, by omega, by congr 1; omega, ⟨by have := HQ'.out; rw [← hi, fill_step T a1 j (by omega)] at this; rw [← hi]; exact this⟩, ⟨HB.out.setCell hlo _⟩⟩
end Go.Proofs.Ytnilogameaaooaa.Q
/- depotlaw03.WireKeeps answers true for every text and mark, the text in 2^20 bytes. -/
set_option linter.unusedVariables false
set_option linter.unusedSimpArgs false
namespace Go.Proofs.Ytnilogameaaooaa.Pure
open Go.RowKit Go.Proofs.Ytnilogameaaooaa.Q Go.Proofs.YtnilogameaaooaaW.PrintWords Go.Proofs.YtnilogameaaooaaW.PrintLast Go.Proofs.YtnilogameaaooaaW.PrintMore Go.Proofs.Ytnilogameaaooaa.Bytes

theorem WireKeeps : ∀ (x0 : ByteArray) (x1 : Int), x0.size ≤ 140737488351232 → (Lit.int .u8 x1).wf = true → ((x0).size + 1) + 1 ≤ 1048576 → depotlaw03_WireKeeps.f (x0) (x1) = some true := by
  intro x0 x1 _ h1 hk
  have := bounds_u8 h1
  exact if_pos ⟨by omega, by omega, by omega⟩
end Go.Proofs.Ytnilogameaaooaa.Pure
/- What came in, opened by its kind: a reading of a value ys data gives the Lean value of the print's kinds, with its sizes. For rows over slices and structs. -/
set_option linter.unusedVariables false
set_option linter.unusedSimpArgs false
namespace Go.Proofs.Ytnilogameaaooaa.Opens
open Go.RowKit Go.Deep Go.Proofs.YtnilogameaaooaaW.PrintWords

section
variable {α β : Type}
/-- A reading at type t gives a value of kind d: its cells (K), its weights (each no more than one of the datum's, or 0), its bulk, and what is good about its numbers. -/
structure Opens (P : Program) (t : TypeId) (d : Kd α) (Wt : α → List Nat) (Bk : α → Nat) (Gd : α → Prop) : Prop where
  sz : P.cellsOf t = d.sz
  out : ∀ {H : Type} {enc : TypeId × Value → H} {w : World} {base : Nat} {spare : Nat → Bool} {held : Bool} {fuel : Nat} {cs : List Value} {x : DataW H × List MemPlace},
    DataW.trod enc P w base spare held fuel t cs = some x → ∃ a, d.K w a cs ∧ (∀ n ∈ Wt a, n = 0 ∨ ∃ m ∈ x.1.weights P t, n ≤ m) ∧ Bk a ≤ Rows.uptoBulk x.1 ∧ Gd a

variable {P : Program} {t : TypeId}
theorem opens_string (ht : P.underlying t = some .string) (hs : P.cellsOf t = 1) : Opens P t Kd.string (fun s => [s.size]) (fun s => s.size + 1) (fun s => s.size ≤ maxLen) := by
  refine ⟨hs, fun {H enc w base spare held fuel cs x} h => ?_⟩
  obtain ⟨s, rfl, rfl, hw⟩ := DataW.trod_string ht h
  refine ⟨s, rfl, ?_, ?_, hw⟩
  · intro n hn
    rw [List.mem_singleton] at hn
    refine .inr ⟨s.data.toList.length, by rw [DataW.weights]; exact List.mem_singleton.2 rfl, ?_⟩
    rw [hn, Array.length_toList]
    exact Nat.le_refl _
  · rw [Rows.uptoBulk, Array.length_toList]
    exact Nat.le_refl _
theorem opens_bool (ht : P.underlying t = some .bool) (hs : P.cellsOf t = 1) : Opens P t Kd.bool (fun _ => []) (fun _ => 1) (fun _ => True) := by
  refine ⟨hs, fun {H enc w base spare held fuel cs x} h => ?_⟩
  obtain ⟨b, rfl, rfl⟩ := DataW.trod_bool ht h
  exact ⟨b, rfl, fun _ h => absurd h (by simp), by rw [Rows.uptoBulk] <;> simp, trivial⟩
theorem opens_int {k : IntKind} (ht : P.underlying t = some (.int k)) (hs : P.cellsOf t = 1) : Opens P t (Kd.int k) (fun _ => []) (fun _ => 1) (fun n => (Lit.int k n).wf = true) := by
  refine ⟨hs, fun {H enc w base spare held fuel cs x} h => ?_⟩
  obtain ⟨n, rfl, rfl, hw⟩ := DataW.trod_int ht h
  exact ⟨n, rfl, fun _ h => absurd h (by simp), by rw [Rows.uptoBulk] <;> simp, hw⟩

theorem list_of {Q : Nat → α → Prop} : ∀ (n : Nat), (∀ i, i < n → ∃ a, Q i a) → ∃ ys : List α, ys.length = n ∧ ∀ i a, ys[i]? = some a → Q i a
  | 0, _ => ⟨[], rfl, fun i a h => by simp at h⟩
  | n + 1, h => by
    obtain ⟨ys, hl, hq⟩ := list_of n (fun i hi => h i (by omega))
    obtain ⟨a, ha⟩ := h n (by omega)
    refine ⟨ys ++ [a], by simp [hl], fun i b hb => ?_⟩
    rcases Nat.lt_or_ge i n with hi | hi
    · rw [List.getElem?_append_left (by omega)] at hb
      exact hq i b hb
    · have : i < (ys ++ [a]).length := (List.getElem?_eq_some_iff.1 hb).1
      simp [hl] at this
      have e : i = n := by omega
      subst e
      rw [List.getElem?_append_right (by omega), hl, Nat.sub_self] at hb
      simp at hb
      subst hb
      exact ha
theorem sum_le_range (ys : List α) (Bk : α → Nat) (b : Nat → Nat) (h : ∀ i a, ys[i]? = some a → Bk a ≤ b i) : (ys.map Bk).sum ≤ ((List.range ys.length).map b).sum := by
  induction ys generalizing b with
  | nil => simp
  | cons a ys ih =>
    have h0 := h 0 a rfl
    have h1 := ih (fun i => b (i + 1)) (fun i a ha => h (i + 1) a (by simpa using ha))
    rw [List.length_cons, List.range_succ_eq_map, List.map_cons, List.sum_cons, List.map_cons, List.sum_cons, List.map_map]
    have e : (List.map (b ∘ Nat.succ) (List.range ys.length)) = List.map (fun i => b (i + 1)) (List.range ys.length) := rfl
    rw [e]
    omega
theorem bulkAll_sum {H : Type} (l : List (DataW H)) : Rows.uptoBulkAll l = (l.map Rows.uptoBulk).sum := by
  induction l with
  | nil => rfl
  | cons d l ih => rw [Rows.uptoBulkAll, ih, List.map_cons, List.sum_cons]
theorem weightsAll_mem {H : Type} {e : TypeId} : ∀ (l : List (DataW H)) (d : DataW H), d ∈ l → ∀ m ∈ d.weights P e, m ∈ DataW.weightsAll P e l
  | [], d, h => absurd h (by simp)
  | d' :: l, d, h => by
    intro m hm
    rw [DataW.weightsAll, List.mem_append]
    rcases List.mem_cons.1 h with rfl | h
    · exact .inl hm
    · exact .inr (weightsAll_mem l d h m hm)

theorem opens_slice {e : TypeId} {d : Kd α} {Wt : α → List Nat} {Bk : α → Nat} {Gd : α → Prop} (ht : P.underlying t = some (.slice e)) (hs : P.cellsOf t = 1) (he : Opens P e d Wt Bk Gd) :
    Opens P t (Kd.slice e d) (fun xs => (xs.length * P.bytesOf e) :: xs.flatMap Wt) (fun xs => (xs.map Bk).sum + 1) (fun xs => xs.length ≤ maxLen ∧ ∀ x ∈ xs, Gd x) := by
  refine ⟨hs, fun {H enc w base spare held fuel cs x} h => ?_⟩
  rcases open_slice ht h with ⟨rfl, rfl⟩ | ⟨a, len, cap, m, n, D, Pl, rfl, hb, hl, hm, hmm, rfl, hx⟩
  · exact ⟨[], ⟨none, 0, rfl, Nat.le_refl _, Kd.C_nil d w⟩, fun n hn => .inl (by simpa using hn), by rw [Rows.uptoBulk]; simp, by simp, by simp⟩
  · have hlm : len ≤ m := by rw [hmm]; split <;> omega
    have each : ∀ i, i < len → ∃ b : α, (∃ cs', w.cells? base (a.add (i * P.cellsOf e)) (P.cellsOf e) = some cs' ∧ d.K w b cs') ∧ (∀ q ∈ Wt b, q = 0 ∨ ∃ r ∈ (D i).weights P e, q ≤ r) ∧ Bk b ≤ Rows.uptoBulk (D i) ∧ Gd b := by
      intro i hi
      obtain ⟨cs', h1, h2⟩ := hx i (by omega)
      obtain ⟨b, hK, hw, hk, hg⟩ := he.out h2
      exact ⟨b, ⟨cs', h1, hK⟩, hw, hk, hg⟩
    obtain ⟨ys, hal, has⟩ := list_of len each
    subst hal
    refine ⟨ys, ⟨some a, cap, rfl, hl, rfl, by unfold maxLen at hm; omega, fun hp => ⟨a, rfl, fun j p hj => ?_⟩⟩, ?_, ?_, by omega, ?_⟩
    · obtain ⟨⟨cs', h1, hK⟩, _⟩ := has j p hj
      refine ⟨cs', d.K_len hK, hK, fun i u hu => ?_⟩
      have hc := World.cells?_some h1
      rw [he.sz] at hc
      obtain ⟨hc0, hc1, hc2⟩ := hc
      have hi : i < d.sz := by rw [← d.K_len hK]; exact (List.getElem?_eq_some_iff.1 hu).1
      have := hc2 i (by omega)
      rw [hu] at this
      rw [Go.Deep.add_add] at this
      exact this
    · intro q hq
      rw [List.mem_cons, List.mem_flatMap] at hq
      have hwt : (DataW.slice ((List.range ys.length).map D) ((List.range (m - ys.length)).map fun j => D (ys.length + j)) : DataW H).weights P t = (((List.range ys.length).map D).length + ((List.range (m - ys.length)).map fun j => D (ys.length + j)).length) * P.bytesOf e :: (DataW.weightsAll P e ((List.range ys.length).map D) ++ DataW.weightsAll P e ((List.range (m - ys.length)).map fun j => D (ys.length + j))) := by
        rw [DataW.weights, ht]
      show q = 0 ∨ ∃ r ∈ (DataW.slice ((List.range ys.length).map D) ((List.range (m - ys.length)).map fun j => D (ys.length + j)) : DataW H).weights P t, q ≤ r
      rw [hwt]
      rcases hq with rfl | ⟨b, hbm, hq⟩
      · refine .inr ⟨_, List.mem_cons_self, ?_⟩
        refine Nat.mul_le_mul_right _ ?_
        simp
      · obtain ⟨i, hi⟩ := List.getElem?_of_mem hbm
        have hil : i < ys.length := (List.getElem?_eq_some_iff.1 hi).1
        obtain ⟨_, hw, _⟩ := has i b hi
        rcases hw q hq with h0 | ⟨r, hr, hqr⟩
        · exact .inl h0
        · exact .inr ⟨r, List.mem_cons_of_mem _ (List.mem_append_left _ (weightsAll_mem _ (D i) (List.mem_map.2 ⟨i, List.mem_range.2 hil, rfl⟩) r hr)), hqr⟩
    · show _ ≤ Rows.uptoBulk (DataW.slice ((List.range ys.length).map D) ((List.range (m - ys.length)).map fun j => D (ys.length + j)) : DataW H)
      rw [Rows.uptoBulk, bulkAll_sum, List.map_map]
      have := sum_le_range ys Bk (fun i => Rows.uptoBulk (D i)) (fun i b hb => (has i b hb).2.2.1)
      have e2 : (List.map (Rows.uptoBulk ∘ D) (List.range ys.length)) = List.map (fun i => Rows.uptoBulk (D i)) (List.range ys.length) := rfl
      rw [e2]
      omega
    · intro b hbm
      obtain ⟨i, hi⟩ := List.getElem?_of_mem hbm
      exact (has i b hi).2.2.2

/-- Fields, from a place on. -/
structure OpensF (P : Program) (fs : List Field) (off : Nat) (d : Kd α) (Wt : α → List Nat) (Bk : α → Nat) (Gd : α → Prop) : Prop where
  out : ∀ {H : Type} {enc : TypeId × Value → H} {w : World} {base : Nat} {spare : Nat → Bool} {held : Bool} {fuel : Nat} {cs : List Value} {xs : List (DataW H × List MemPlace)},
    cs.length = off + d.sz → xs.length = fs.length → (∀ (i : Nat) (f : Field), fs[i]? = some f → DataW.trod enc P w base spare held fuel f.type ((cs.drop f.offset).take (P.cellsOf f.type)) = xs[i]?) →
    ∃ a, d.K w a (cs.drop off) ∧ (∀ n ∈ Wt a, n = 0 ∨ ∃ m ∈ DataW.weightsEach P (fs.map (·.type)) (xs.map (·.1)), n ≤ m) ∧ Bk a ≤ Rows.uptoBulkAll (xs.map (·.1)) ∧ Gd a
theorem opensF_one {f : Field} {off : Nat} {d : Kd α} {Wt : α → List Nat} {Bk : α → Nat} {Gd : α → Prop} (ho : f.offset = off) (he : Opens P f.type d Wt Bk Gd) : OpensF P [f] off d Wt Bk Gd := by
  refine ⟨fun {H enc w base spare held fuel cs xs} hc hl h => ?_⟩
  match xs, hl with
  | [x], _ =>
    have h0 := h 0 f rfl
    rw [ho, he.sz, List.take_of_length_le (by rw [List.length_drop]; omega)] at h0
    obtain ⟨a, hK, hw, hb, hg⟩ := he.out h0
    refine ⟨a, hK, fun n hn => ?_, ?_, hg⟩
    · rcases hw n hn with h | ⟨m, hm, hle⟩
      · exact .inl h
      · refine .inr ⟨m, ?_, hle⟩
        simp only [List.map_cons, List.map_nil, DataW.weightsEach, List.append_nil]
        exact hm
    · simp only [List.map_cons, List.map_nil, Rows.uptoBulkAll]
      omega
theorem opensF_cons {f : Field} {fs : List Field} {off : Nat} {d : Kd α} {d' : Kd β} {Wt : α → List Nat} {Bk : α → Nat} {Gd : α → Prop} {Wt' : β → List Nat} {Bk' : β → Nat} {Gd' : β → Prop}
    (ho : f.offset = off) (he : Opens P f.type d Wt Bk Gd) (hr : OpensF P fs (off + d.sz) d' Wt' Bk' Gd') :
    OpensF P (f :: fs) off (Kd.pair d d') (fun x => Wt x.1 ++ Wt' x.2) (fun x => Bk x.1 + Bk' x.2) (fun x => Gd x.1 ∧ Gd' x.2) := by
  refine ⟨fun {H enc w base spare held fuel cs xs} hc hl h => ?_⟩
  have hsz : (Kd.pair d d').sz = d.sz + d'.sz := rfl
  rw [hsz] at hc
  match xs, hl with
  | x :: xs, hl =>
    have h0 := h 0 f rfl
    rw [ho, he.sz] at h0
    obtain ⟨a, hK, hw, hb, hg⟩ := he.out h0
    obtain ⟨b, hK', hw', hb', hg'⟩ := hr.out (enc := enc) (w := w) (base := base) (spare := spare) (held := held) (fuel := fuel) (cs := cs) (xs := xs) (by omega) (by simpa using hl) (fun i f' hf => by simpa using h (i + 1) f' (by simpa using hf))
    refine ⟨(a, b), ⟨(cs.drop off).take d.sz, cs.drop (off + d.sz), ?_, hK, hK'⟩, fun n hn => ?_, ?_, hg, hg'⟩
    · rw [← List.drop_drop, List.take_append_drop]
    · simp only [List.map_cons, DataW.weightsEach, List.mem_append]
      rcases List.mem_append.1 hn with hn | hn
      · rcases hw n hn with h | ⟨m, hm, hle⟩
        · exact .inl h
        · exact .inr ⟨m, .inl hm, hle⟩
      · rcases hw' n hn with h | ⟨m, hm, hle⟩
        · exact .inl h
        · exact .inr ⟨m, .inr hm, hle⟩
    · simp only [List.map_cons, Rows.uptoBulkAll]
      omega
theorem opens_struct {fs : Array Field} {d : Kd α} {Wt : α → List Nat} {Bk : α → Nat} {Gd : α → Prop} (ht : P.underlying t = some (.struct fs)) (hs : P.cellsOf t = d.sz) (he : OpensF P fs.toList 0 d Wt Bk Gd) :
    Opens P t d Wt (fun a => Bk a + 1) Gd := by
  refine ⟨hs, fun {H enc w base spare held fuel cs x} h => ?_⟩
  obtain ⟨xs, n, rfl, rfl, hl, hl2, hx⟩ := DataW.trod_struct ht h
  obtain ⟨a, hK, hw, hb, hg⟩ := he.out (enc := enc) (w := w) (base := base) (spare := spare) (held := held) (fuel := n) (cs := cs) (xs := xs) (by omega) (by simpa using hl2) (fun i f hf => hx i f (by simpa using hf))
  refine ⟨a, by simpa using hK, fun n hn => ?_, ?_, hg⟩
  · rcases hw n hn with h | ⟨m, hm, hle⟩
    · exact .inl h
    · refine .inr ⟨m, ?_, hle⟩
      show m ∈ (DataW.agg (xs.map (·.1))).weights P t
      rw [DataW.weights, ht]
      exact hm
  · show _ ≤ Rows.uptoBulk (DataW.agg (xs.map (·.1)))
    rw [Rows.uptoBulk]
    omega
theorem opens_iso {d : Kd α} {Wt : α → List Nat} {Bk : α → Nat} {Gd : α → Prop} (f : β → α) (g : α → β) (hfg : ∀ a, f (g a) = a) (h : Opens P t d Wt Bk Gd) : Opens P t (Kd.iso d f) (fun b => Wt (f b)) (fun b => Bk (f b)) (fun b => Gd (f b)) := by
  refine ⟨h.sz, fun {H enc w base spare held fuel cs x} hx => ?_⟩
  obtain ⟨a, hK, hw, hb, hg⟩ := h.out hx
  refine ⟨g a, ?_, ?_, ?_, ?_⟩
  · show d.K w (f (g a)) cs
    rw [hfg]; exact hK
  · rw [hfg]; exact hw
  · rw [hfg]; exact hb
  · rw [hfg]; exact hg

/-- At an argument: its weights are within the reach. -/
theorem arg {H : Type} {enc : TypeId × Value → H} {w : World} {base : Nat} {spare : Nat → Bool} {held : Bool} {v : Value} {dd : DataW H} {ps : List MemPlace} {d : Kd α} {Wt : α → List Nat} {Bk : α → Nat} {Gd : α → Prop} (h : Opens P t d Wt Bk Gd)
    (hx : DataW.Trod enc P w base spare held t v dd ps) : ∃ a, d.K w a v.cells.toList ∧ (∀ n ∈ Wt a, n = 0 ∨ ∃ m ∈ dd.weights P t, n ≤ m) ∧ Bk a ≤ Rows.uptoBulk dd ∧ Gd a := by
  obtain ⟨fuel, hf⟩ := hx
  obtain ⟨a, h1, h2, h3, h4⟩ := h.out hf
  exact ⟨a, h1, h2, h3, h4⟩
/-- Each weight of an argument is within the reach of the form. -/
theorem reach {H : Type} {ts : List TypeId} {ds : List (DataW H)} (h : (DataW.weightsEach P ts ds).all (· ≤ reachBytes) = true) {j : Nat} {t : TypeId} {dd : DataW H} (ht : ts[j]? = some t) (hd : ds[j]? = some dd) {l : List Nat}
    (hw : ∀ n ∈ l, n = 0 ∨ ∃ m ∈ dd.weights P t, n ≤ m) : ∀ n ∈ l, n ≤ 140737488351232 := by
  intro n hn
  rcases hw n hn with h0 | ⟨m, hm, hle⟩
  · omega
  · have := DataW.weights_mem_each ht hd m hm
    rw [List.all_eq_true] at h
    have h1 := of_decide_eq_true (h m this)
    unfold reachBytes at h1
    omega
end
end Go.Proofs.Ytnilogameaaooaa.Opens
