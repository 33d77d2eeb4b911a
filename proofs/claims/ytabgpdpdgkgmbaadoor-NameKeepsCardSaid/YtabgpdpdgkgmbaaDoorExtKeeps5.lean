/- depotlaw05.NameKeeps, walked by hand. -/
import Derived.Test.YtabgpdpdgkgmbaaDoorRowS
import Derived.Test.YtabgpdpdgkgmbaaDoorNameBackPure
import Derived.Test.YtabgpdpdgkgmbaaDoorQ28
namespace Go.Proofs.YtabgpdpdgkgmbaaDoor.Q
open Go.RowKit Go.Proofs.YtabgpdpdgkgmbaaDoorW.PrintWords Go.Proofs.YtabgpdpdgkgmbaaDoorW.PrintLast Go.Proofs.YtabgpdpdgkgmbaaDoorW.PrintMore Go.Proofs.YtabgpdpdgkgmbaaDoor.Bytes Go.Proofs.YtabgpdpdgkgmbaaDoor.NamePure
set_option linter.unusedVariables false
set_option linter.unusedSimpArgs false

def gapS : ByteArray := ⟨#[103, 97, 112]⟩
def markS : ByteArray := ⟨#[109, 97, 114, 107, 101, 100]⟩
def emptyS : ByteArray := ⟨#[]⟩
def depotlaw05_NameKeeps.f (l0 : List ByteArray) (a1 : ByteArray) : Option Bool := if l0.length ≤ 8796093021952 ∧ a1.size ≤ 140737488355328 then some true else none
set_option maxHeartbeats 8000000 in
set_option maxRecDepth 100000 in
theorem keeps_walk (k : Nat) (A0 : Option Addr) (c0 : Nat) (l0 : List ByteArray) (a1 : ByteArray) (w : World) (hr0 : Kd.C Kd.string w A0 l0.length l0) (hc0 : l0.length ≤ c0) (hl : l0.length ≤ 8796093021952)
    (ha : depotlaw05_awake.f k = some true) (j1 : ByteArray) (j2 j3 : Int) (hj : name_Join.f k l0 = some (j1, j2, j3)) (sv : Int) (hsv : name_Sorted.f k l0 = some sv)
    (la : List ByteArray) (s2 s3 : Int) (hsp : name_Split.f a1 = some (la, s2, s3)) (hla : la.length ≤ 31) (hal : depotlaw05_alike.f k la la = some true) :
    Calls Tryd.prog 6 #[.slice A0 l0.length c0, .string a1] w fun e w' => e = .returned (.bool true) ∧ Below w.heap.size w w' := by
  have hu26 := Tryd.underlying26
  have HR0 := Aside0.mk hr0
  have HA := Aside0.mk ha
  have HJ := Aside0.mk hj
  have HSV := Aside0.mk hsv
  have HSP := Aside0.mk hsp
  have HAL := Aside0.mk hal
  clear hr0 ha hj hsv hsp hal
  obtain ⟨nn, hnn⟩ : ∃ nn, l0.length = nn := ⟨_, rfl⟩
  obtain ⟨NN, hNN⟩ : ∃ NN : Nat, nn + 4 = NN := ⟨_, rfl⟩
  have hNI : (nn : Int) + 4 = (NN : Int) := by omega
  have HN := Aside0.mk hnn
  rw [hnn]
  go_enter Tryd.func6, Tryd.ntmps6
  go_wp2_with (first | (go_at_call 8; refine (depotlaw05_awake.calls k true _ HA.out).mono ?_; rintro e w1 ⟨rfl, hb1⟩; have HB1 := Aside0.mk hb1; clear hb1) | ((with_reducible refine gate_dst (N := 20) rfl ?_); refine make_sq (w0 := w) w.heap.size rfl (N := 20) rfl 23 (.tmp 19) (.tmp 19) rfl NN rfl rfl Tryd.underlying23 info9 (by omega) (by omega) HB1.out HB1.out.size ?_; intro gq cq w2 hq2 hlo2 hb2 hg2 hn2; have HQ2 := Aside0.mk hq2; have HLO := Aside0.mk hlo2; have HB2 := Aside0.mk hb2; clear hq2 hlo2 hb2 hg2 hn2) | ((with_reducible refine gate_builtin (b := .copy) (xs := #[.tmp 21, .tmp 22]) rfl ?_); refine copy_sq (w0 := w) w.heap.size rfl (.tmp 21) (.tmp 22) 23 23 rfl gq NN cq nn c0 A0 (List.replicate NN (⟨#[]⟩ : ByteArray)) l0 rfl rfl Tryd.underlying23 (by kernel_rfl) HQ2.out (List.length_replicate ..) (Kd.C_below (by rw [← HN.out]; exact HR0.out) HB2.out) (by omega) HLO.out HB2.out ?_; intro w3 hq3 hb3 hg3; have HQ3 := Aside0.mk hq3; have HB3 := Aside0.mk hb3; clear hq3 hb3 hg3))
  have HF0 : SQ w3 gq cq (fillG l0 0) := by
    have h := HQ3.out
    rw [← hNN, ← HN.out, fillG_zero] at h
    exact h
  have HFA := Aside0.mk HF0
  clear HQ2 HQ3 HB1 HB2 HF0
  have hll := HN.out
  have HJC := Aside0.mk (show ∀ W : World, SQ W gq cq (fillG l0 4) → Calls Tryd.prog 12 #[.slice (some ⟨gq, 0, none⟩) nn cq] W fun e w' => e = .returned (.tuple #[.string j1, .agg #[.int .i64 j2, .int .i64 j3]]) ∧ Below W.heap.size W w' from fun W h => by
    have h1 := h.reads l0.length (by rw [fillG_len _ _ (Nat.le_refl _)]; omega)
    rw [fillG_take] at h1
    have h2 := h.len
    rw [fillG_len _ _ (Nat.le_refl _)] at h2
    have := name_Join.calls k _ cq l0 j1 j2 j3 W h1 (by omega) HJ.out
    rwa [HN.out] at this)
  have HSC := Aside0.mk (show ∀ W : World, SQ W gq cq (fillG l0 4) → Calls Tryd.prog 13 #[.slice (some ⟨gq, 0, none⟩) nn cq] W fun e w' => e = .returned (.int .i64 sv) ∧ Drawn0 W w' from fun W h => by
    have h1 := h.reads l0.length (by rw [fillG_len _ _ (Nat.le_refl _)]; omega)
    rw [fillG_take] at h1
    have h2 := h.len
    rw [fillG_len _ _ (Nat.le_refl _)] at h2
    have := name_Sorted.calls k _ cq l0 sv W h1 (by omega) HSV.out
    rwa [HN.out] at this)
  go_loopg [6] 4 (fun g v6 wx => ∃ j : Nat, j + g = 4 ∧ v6 = .int .i64 ((nn + j : Nat) : Int) ∧ Aside0 (SQ wx gq cq (fillG l0 j)) ∧ Aside0 (Below w.heap.size w wx))
  case atStart => exact ⟨0, by omega, by rw [Nat.add_zero], HFA, HB3⟩
  case round =>
    obtain ⟨j, hjg, rfl, HQ, HB⟩ := hrel
    cases gk with
    | zero =>
      obtain rfl : j = 4 := by omega
      have d1 : decide (((nn + 4 : Nat) : Int) < (NN : Int)) = false := decide_eq_false (by omega)
      have d2 : ((nn : Int) ≤ (NN : Int)) = True := eq_true (by omega)
      have HQW := Aside0.mk HQ
      have hcl := HQ.out.len
      rw [fillG_len _ _ (Nat.le_refl _), HN.out] at hcl
      have d3 : ((nn : Int) ≤ (cq : Int)) = True := eq_true (by omega)
      have d4 : (nn ≤ cq) = True := eq_true (by omega)
      go_wp2_with (first | (go_at_call 12; refine (HJC.out _ HQW.out.out).mono ?_; rintro e w5 ⟨rfl, hb5⟩; have HB5 := Aside0.mk (HB.out.trans (hb5.mono HB.out.size)); have HQW := Aside0.mk (Aside0.mk (HQW.out.out.below hb5)); clear hb5) | (go_at_call 13; refine (HSC.out _ HQW.out.out).mono ?_; rintro e w6 ⟨rfl, hd6⟩; have HQW := Aside0.mk (Aside0.mk (HQW.out.out.below hd6.below)); have HB6 := Aside0.mk (HB5.out.trans (hd6.below.mono HB5.out.size)); clear hd6))
      have HC2 := Aside0.mk (show Kd.C Kd.string w6 (some ⟨gq, 0, none⟩) NN (fillG l0 4) by
        have h := HQW.out.out.all
        rw [fillG_len _ _ (Nat.le_refl _), HN.out, hNN] at h
        exact h)
      have HN2 := Aside0.mk (Kd.C_below HR0.out HB6.out)
      rw [HN.out] at HN2
      clear HQ HB HB5
      go_loopg [47] NN (fun g v47 wx => ∃ i : Nat, i + g = NN ∧ v47 = .int .i64 (i : Int) ∧ wx = w6)
      case atStart => exact ⟨0, by omega, rfl, rfl⟩
      case round =>
        obtain ⟨i, hig, rfl, rfl⟩ := hrel
        cases gk with
        | zero =>
          obtain rfl : NN = i := by omega
          have d5 : decide (((NN : Nat) : Int) < (NN : Int)) = false := decide_eq_false (by omega)
          go_wp2_with (first | (go_at_call 9; refine (name_Split.calls a1 la s2 s3 wr HSP.out).mono ?_; rintro e w7 ⟨va, rfl, hra, hb7⟩; obtain ⟨Aa, ca, rfl, hca, hCa⟩ := Kd.R_reads hra; have HRA := Aside0.mk hra; have HB7 := Aside0.mk (HB6.out.trans (hb7.mono HB6.out.size)); clear hb7 hra hCa) | (go_at_call 9; generalize hW8 : World.alloc w7 _ = w8; have hb8 := below_alloc1 hW8; refine (name_Split.calls a1 la s2 s3 w8 HSP.out).mono ?_; rintro e w9 ⟨vb, rfl, hrb, hb9⟩; obtain ⟨Ab, cb, rfl, hcb, hCb⟩ := Kd.R_reads hrb; have HRB := Aside0.mk hrb; have HBB := Aside0.mk (And.intro hb8 hb9); clear hb8 hb9 hrb hCb hW8) | (go_at_call 11; generalize hW10 : World.alloc w9 _ = w10; have hb10 := below_alloc1 hW10; have HRA2 := Aside0.mk (Kd.R_below HRA.out (HBB.out.1.trans ((HBB.out.2.mono HBB.out.1.size).trans (hb10.mono (Nat.le_trans HBB.out.1.size HBB.out.2.size))))); have HRB2 := Aside0.mk (Kd.R_below HRB.out hb10); refine (depotlaw05_alike.calls k Aa ca la Ab cb la true w10 (Kd.R_reads' HRA2.out).2.2 hca (Kd.R_reads' HRB2.out).2.2 hcb HAL.out).mono ?_; rintro e w11 ⟨rfl, hd11⟩; have HB11 := Aside0.mk (And.intro hb10 hd11.below); clear hb10 hd11 hW10) | ((with_reducible refine gate_builtin (b := .append) (xs := #[.tmp 89, .tmp 90]) rfl ?_); at_builtin; generalize hW12 : World.alloc w11 _ = w12; have hb12 := below_alloc1 hW12; have HRA3 := Aside0.mk (Kd.R_below HRA2.out (HB11.out.2.trans (hb12.mono HB11.out.2.size))); have HRB3 := Aside0.mk (Kd.R_below HRB2.out (HB11.out.2.trans (hb12.mono HB11.out.2.size))); refine Kd.R_append_row Value.string (⟨#[]⟩ : ByteArray) (h1 := fun _ => rfl) (w0 := w12) w11.heap.size rfl (.tmp 89) (.tmp 90) 23 9 (.string ⟨#[]⟩) 16 rfl Tryd.underlying23 info9 rfl (by decide) _ [] la Aa la.length ca (fun _ => True) rfl rfl (fun _ _ => trivial) (empty_R hW12) (Kd.R_reads' HRA3.out).2.2 (Below.refl _ _) hb12.size (by simp only [List.length_nil]; omega) ?_; intro vw w13 hrw hb13 hg13 hat13; rw [List.nil_append] at hrw; obtain ⟨Aw, cw, rfl, hcw, hCw⟩ := Kd.R_reads hrw; have HRW := Aside0.mk hrw; have HB13 := Aside0.mk (hb12.trans hb13); clear hrw hb13 hg13 hat13 hCw hb12 hW12))
          have z7 := HB7.out.size
          have z8 := HBB.out.1.size
          have z9 := HBB.out.2.size
          have z10 := HB11.out.1.size
          have z11 := HB11.out.2.size
          have GA := Aside0.mk (show ∀ g, (Value.slice Aa la.length ca).ownBlock = some g → g < w7.heap.size from fun g hg => by obtain ⟨_, hin⟩ := Kd.R_own HRA.out; exact own_lt hin g hg)
          have RA := Aside0.mk (Kd.R_lower (Kd.R_below HRA2.out (HB11.out.2.trans (HB13.out.mono z11))) HB6.out.size)
          have RB := Aside0.mk (Kd.R_mono (Kd.R_bound (Kd.R_below HRB2.out (HB11.out.2.trans (HB13.out.mono z11)))) (ok' := fun k => w7.heap.size ≤ k) (fun k hk => Nat.le_trans z8 hk.2.1))
          have RW := Aside0.mk (Kd.R_mono (Kd.R_bound HRW.out) (ok' := fun k => w7.heap.size ≤ k) (fun k hk => by have := hk.2.1; omega))
          have BW := Aside0.mk (show Below w.heap.size w w13 from HB7.out.trans ((HBB.out.1.mono z7).trans ((HBB.out.2.mono (by omega)).trans ((HB11.out.1.mono (by omega)).trans ((HB11.out.2.mono (by omega)).trans (HB13.out.mono (by omega)))))))
          clear HRA HRA2 HRB HRB2 HRW HBB HB11 HB13 HRA3 HRB3
          go_loopg [94] la.length (fun g v94 wx => ∃ i : Nat, i + g = la.length ∧ v94 = .int .i64 (i : Int) ∧ Aside0 (Kd.R Kd.string 9 wx w.heap.size (fun _ => True) (.slice Aa la.length ca) (markL la i)) ∧ Aside0 (Kd.R Kd.string 9 wx w8.heap.size (fun k => w7.heap.size ≤ k) (.slice Ab la.length cb) la) ∧ Aside0 (Kd.R Kd.string 9 wx w11.heap.size (fun k => w7.heap.size ≤ k) (.slice Aw la.length cw) la) ∧ Aside0 (Below w.heap.size w wx))
          case atStart => exact ⟨0, by omega, rfl, RA, RB, RW, BW⟩
          case round =>
            obtain ⟨i, hig2, rfl, RA, RB, RW, BW⟩ := hrel
            cases gk with
            | zero =>
              obtain rfl : la.length = i := by omega
              have d6 : decide (((la.length : Nat) : Int) < (la.length : Int)) = false := decide_eq_false (by omega)
              go_wp2_with (first | ((with_reducible refine gate_builtin (b := .append) (xs := #[.tmp 101, .tmp 102]) rfl ?_); at_builtin; generalize hW14 : World.alloc wr _ = w14; have hb14 := below_alloc1 hW14; refine Kd.R_append_row Value.string (⟨#[]⟩ : ByteArray) (h1 := fun _ => rfl) (w0 := w14) w.heap.size rfl (.tmp 101) (.tmp 102) 23 9 (.string ⟨#[]⟩) 16 rfl Tryd.underlying23 info9 rfl (by decide) _ (markL la la.length) [⟨#[120]⟩, ⟨#[121]⟩, ⟨#[122]⟩] (some ⟨wr.heap.size, 0, none⟩) 3 3 (fun _ => True) rfl rfl (fun _ _ => trivial) (Kd.R_below RA.out hb14) (lit3 hW14) (Below.refl _ _) (Nat.le_trans BW.out.size hb14.size) (by rw [markL_len _ _ (Nat.le_refl _)]; omega) ?_; intro v15 w15 hr15 hb15 hg15 hat15; have hl15 := mark3_len la; obtain ⟨A15, c15, rfl, hc15, hC15⟩ := Kd.R_reads hr15; rw [hl15]; have RB15 := Aside0.mk (Kd.R_grown (Kd.R_below RB.out hb14) hg15 (fun q hq e => by have := GA.out q e.symm; omega)); have RW15 := Aside0.mk (Kd.R_grown (Kd.R_below RW.out hb14) hg15 (fun q hq e => by have := GA.out q e.symm; omega)); have BW15 := Aside0.mk (BW.out.trans ((hb14.mono BW.out.size).trans hb15)); clear hr15 hb15 hg15 hat15 hc15 hC15 hb14 hW14) | (go_at_call 11; refine (depotlaw05_alike.calls k Ab cb la Aw cw la true w15 (Kd.R_reads' RB15.out).2.2 hcb (Kd.R_reads' RW15.out).2.2 hcw HAL.out).mono ?_; rintro e w16 ⟨rfl, hd16⟩; have BW16 := Aside0.mk (BW15.out.trans (hd16.below.mono BW15.out.size)); clear hd16))
              go_ret
              exact ⟨rfl, BW16.out⟩
            | succ k3 =>
              have d6 : decide ((i : Int) < (la.length : Int)) = true := decide_eq_true (by omega)
              have p6 : (0 ≤ (i : Int)) = True := eq_true (by omega)
              have q6 : ((i : Int) < (la.length : Int)) = True := eq_true (by omega)
              have hml := markL_len la i (by omega)
              obtain ⟨ga, cga, ev, hSQ, hbg⟩ := row_of RA.out (by rw [hml]; omega)
              rw [hml] at ev
              simp only [Value.slice.injEq, true_and] at ev
              obtain ⟨rfl, rfl⟩ := ev
              have hcell := hSQ.cell i _ (List.getElem?_eq_getElem (show i < (markL la i).length by omega))
              have hfro := hSQ.fro i
              go_wp2
              go_roundg k3
              case measure => omega
              case rel =>
                refine ⟨i + 1, by omega, rfl, ⟨?_⟩, ⟨?_⟩, ⟨?_⟩, ⟨BW.out.setCell (p := ⟨ga, i, none⟩) hbg _⟩⟩
                · have h := (hSQ.set i (⟨#[109, 97, 114, 107, 101, 100]⟩ : ByteArray)).toR hbg
                  rw [markL_set la i (by omega), markL_len la (i + 1) (by omega)] at h
                  exact h
                · exact Kd.R_far (p := ⟨ga, i, none⟩) RB.out (fun q hq e => by have := GA.out ga rfl; have e2 : q = ga := e; omega) _
                · exact Kd.R_far (p := ⟨ga, i, none⟩) RW.out (fun q hq e => by have := GA.out ga rfl; have e2 : q = ga := e; omega) _
        | succ k2 =>
          have d5 : decide ((i : Int) < (NN : Int)) = true := decide_eq_true (by omega)
          have p5 : (0 ≤ (i : Int)) = True := eq_true (by omega)
          have q5 : ((i : Int) < (NN : Int)) = True := eq_true (by omega)
          by_cases hi : i < nn
          · have hil : i < l0.length := by omega
            have hxm := HQW.out.out.cell i _ (fillG_low l0 i hil)
            have hxf := HQW.out.out.fro i
            obtain ⟨ad0, e0, hx0⟩ := Kd.at_string HN2.out (i : Int) (by omega) (by omega)
            cases e0
            rw [rd_nat _ _ hil] at hx0
            obtain ⟨s, hs⟩ : ∃ s, l0[i] = s := ⟨_, rfl⟩
            rw [hs] at hxm hx0
            have hx1 : wr.cell? (ad0.add i) = some (.string s) := by simpa using hx0
            have c1 : decide ((i : Int) < (nn : Int)) = true := decide_eq_true (by omega)
            have c2 : decide ((nn : Int) ≤ (i : Int)) = false := decide_eq_false (by omega)
            have c3 : (s.toList != s.toList) = false := by simp
            have q6 : ((i : Int) < (nn : Int)) = True := eq_true (by omega)
            go_wp2
            go_roundg k2
            case measure => omega
            case rel => exact ⟨i + 1, by omega, rfl, rfl⟩
          · have hxm := HQW.out.out.cell i _ (fillG_high l0 i (by omega) (by omega))
            have c1 : decide ((i : Int) < (nn : Int)) = false := decide_eq_false (by omega)
            have c2 : decide ((nn : Int) ≤ (i : Int)) = true := decide_eq_true (by omega)
            go_wp2
            go_roundg k2
            case measure => omega
            case rel => exact ⟨i + 1, by omega, rfl, rfl⟩
    | succ k1 =>
      have d1 : decide (((nn + j : Nat) : Int) < (NN : Int)) = true := decide_eq_true (by omega)
      have p1 : (0 ≤ ((nn + j : Nat) : Int)) = True := eq_true (by omega)
      have q1 : (((nn + j : Nat) : Int) < (NN : Int)) = True := eq_true (by omega)
      have hlen := fillG_len l0 j (by omega)
      have hcell := HQ.out.cell (nn + j) ((fillG l0 j)[nn + j]'(by omega)) (List.getElem?_eq_getElem _)
      have hfro := HQ.out.fro (nn + j)
      go_wp2
      go_roundg k1
      case measure => omega
      case rel =>
        refine ⟨j + 1, by omega, by first | rfl | (congr 1; omega), ⟨?_⟩, ⟨HB.out.setCell (p := ⟨gq, nn + j, none⟩) HLO.out _⟩⟩
        have h := HQ.out.set (nn + j) (⟨#[103, 97, 112]⟩ : ByteArray)
        rw [← HN.out, fillG_set _ _ (by omega)] at h
        rw [← HN.out]
        exact h
theorem sorted_some (l : List ByteArray) (hx : l.length ≤ 8796093021952) (d : Nat) : ∀ (i k : Nat), l.length - i = d → 1 ≤ i → d < k → ∃ r, name_Sorted.l0 k l (i : Int) = some r := by
  induction d with
  | zero =>
    intro i k hd hi hk
    obtain ⟨k, rfl⟩ : ∃ m, k = m + 1 := ⟨k - 1, by omega⟩
    refine ⟨-1, ?_⟩
    simp only [name_Sorted.l0]
    rw [if_neg (by omega)]
  | succ d ih =>
    intro i k hd hi hk
    obtain ⟨k, rfl⟩ : ∃ m, k = m + 1 := ⟨k - 1, by omega⟩
    have e0 : wrap64 ((i : Int) - 1) = ((i - 1 : Nat) : Int) := by rw [w64 (by omega) (by omega)]; omega
    simp only [name_Sorted.l0]
    rw [e0, wr i (by omega), if_pos (by omega), if_pos (by omega), if_pos (by omega), if_pos (by omega)]
    split
    · exact ih (i + 1) k (by omega) (by omega) (by omega)
    · exact ⟨_, rfl⟩
theorem depotlaw05_NameKeeps.calls (A0 : Option Addr) (c0 : Nat) (l0 : List ByteArray) (a1 : ByteArray) (r : Bool) (w : World) (hr0 : Kd.C Kd.string w A0 l0.length l0) (hc0 : l0.length ≤ c0) (h : depotlaw05_NameKeeps.f l0 a1 = some r) :
    Calls Tryd.prog 6 #[.slice A0 l0.length c0, .string a1] w fun e w' => e = .returned (.bool r) ∧ Below w.heap.size w w' := by
  unfold depotlaw05_NameKeeps.f at h
  by_cases hsz : l0.length ≤ 8796093021952 ∧ a1.size ≤ 140737488355328
  case neg => rw [if_neg hsz] at h; exact absurd h (by simp)
  rw [if_pos hsz] at h
  obtain rfl := Option.some.inj h
  obtain ⟨sv, hsv⟩ := sorted_some l0 hsz.1 (l0.length - 1) 1 (l0.length + 100) rfl (by omega) (by omega)
  have hla : (splitRes a1).1.length ≤ 31 := split_len a1
  exact keeps_walk (l0.length + 100) A0 c0 l0 a1 w hr0 hc0 hsz.1 (awake_f _ (by omega)) _ _ _ (join_f l0 (by omega) _ (by omega)) sv hsv (splitRes a1).1 (splitRes a1).2.1 (splitRes a1).2.2 (split_res a1 hsz.2) hla (by
    rw [alike_f _ _ (by omega) _ (by omega)]
    simp)
end Go.Proofs.YtabgpdpdgkgmbaaDoor.Q
