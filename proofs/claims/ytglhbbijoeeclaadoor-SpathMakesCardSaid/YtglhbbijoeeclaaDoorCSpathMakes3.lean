/- Texts of this claim, put together: Q43, RefRefs, RNamed, ExtSpMakes, DoorSha, Opens, Arr. -/
import Derived.Test.YtglhbbijoeeclaaDoorQ0
import Derived.Test.YtglhbbijoeeclaaDoorCSpathMakes2
import Derived.Test.YtglhbbijoeeclaaDoorRefs
import Derived.Test.YtglhbbijoeeclaaDoorQ38
import Derived.Test.YtglhbbijoeeclaaDoorRows
import Derived.ProofKit
import Derived.LaidMore
import Derived.LaidLaws
import Derived.LaidHandle
import Derived.OpenShut
import Derived.Test.YtglhbbijoeeclaaDoorWWords
import Derived.Test.YtglhbbijoeeclaaDoorWLast
import Derived.Deep.Slices
import Derived.SizedLaws
import Derived.Test.YtglhbbijoeeclaaDoorCSpathMakes1
import Derived.WideShapes
/- By a program of this session's: a plain Lean function for a Go function, and its contract. -/
namespace Go.Proofs.YtglhbbijoeeclaaDoor.Q
open Go.RowKit Go.Proofs.YtglhbbijoeeclaaDoorW.PrintWords Go.Proofs.YtglhbbijoeeclaaDoorW.PrintLast Go.Proofs.YtglhbbijoeeclaaDoorW.PrintMore
attribute [local go_sem] max2_int min2_int max_two min_two max_three min_three max_four min_four Go.Proofs.YtglhbbijoeeclaaDoor.Ord.str_leq Go.Proofs.YtglhbbijoeeclaaDoor.Ord.str_gtr Go.Proofs.YtglhbbijoeeclaaDoor.Ord.str_geq   -- for this text's walks alone
set_option linter.unusedVariables false
set_option linter.unusedSimpArgs false

/-! ### depotref13_CheckRefs: function 22 -/
def depotref13_CheckRefs.l0 : Nat → List ByteArray → ByteArray → Int → Option (Int)
  | 0, _, _, _ => none
  | k + 1, x0, x3, x4 => if x4 < (x0.length : Int) then (if 0 ≤ x4 then ((depotref13_Good.f k (rdOf ByteArray.empty x0 x4)).bind fun t157 => (if t157 = true then (if ((Op.bytesLess x3.toList ((rdOf ByteArray.empty x0 x4).toList)) = true) then (depotref13_CheckRefs.l0 k x0 (rdOf ByteArray.empty x0 x4) (wrap64 (x4 + 1))) else (some 133)) else (some 133))) else (none)) else (some 0)
def depotref13_CheckRefs.f (k : Nat) (l0 : List ByteArray) : Option (Int) := if (l0.length : Int) > 1024 then (some 171) else (depotref13_CheckRefs.l0 k l0 (⟨#[]⟩ : ByteArray) 0)
theorem depotref13_CheckRefs.mono_l : ∀ k, (∀ y0 y1 y2, LeO (depotref13_CheckRefs.l0 k y0 y1 y2) (depotref13_CheckRefs.l0 (k + 1) y0 y1 y2))
  | 0 => fun _ _ _ r h => by simp [depotref13_CheckRefs.l0] at h
  | k + 1 => by
    have ih0 := depotref13_CheckRefs.mono_l k
    · intro y0 y1 y2
      unfold depotref13_CheckRefs.l0
      repeat' first
      | (with_reducible exact ih0 _ _ _)
      | (with_reducible exact depotref13_Good.mono _ _)
      | (with_reducible exact LeO.refl _)
      | (with_reducible exact LeO.none _)
      | (with_reducible refine LeO.ite ?_ ?_)
      | (with_reducible refine LeO.bind ?_ (fun _ => ?_))
      | exact ih0 _ _ _
      | exact depotref13_Good.mono _ _
      | exact LeO.none _
      | refine LeO.ite ?_ ?_
      | refine LeO.bind ?_ (fun _ => ?_)
theorem depotref13_CheckRefs.mono : ∀ a0 k, LeO (depotref13_CheckRefs.f k a0) (depotref13_CheckRefs.f (k + 1) a0) := by
  intro a0 k
  have ih0 := depotref13_CheckRefs.mono_l k
  unfold depotref13_CheckRefs.f
  repeat' first
      | (with_reducible exact ih0 _ _ _)
      | (with_reducible exact depotref13_Good.mono _ _)
      | (with_reducible exact LeO.refl _)
      | (with_reducible exact LeO.none _)
      | (with_reducible refine LeO.ite ?_ ?_)
      | (with_reducible refine LeO.bind ?_ (fun _ => ?_))
      | exact ih0 _ _ _
      | exact depotref13_Good.mono _ _
      | exact LeO.none _
      | refine LeO.ite ?_ ?_
      | refine LeO.bind ?_ (fun _ => ?_)
set_option maxHeartbeats 8000000 in
set_option maxRecDepth 100000 in
theorem depotref13_CheckRefs.calls (k : Nat) (A0 : Option Addr) (c0 : Nat) (l0 : List ByteArray) (r : Int) (w : World) (hr0 : Kd.C Kd.string w A0 l0.length l0) (hc0 : l0.length ≤ c0) (h : depotref13_CheckRefs.f k l0 = some r) :
    Calls Tryd.prog 22 #[.slice A0 l0.length c0] w fun e w' => e = .returned (.int .i64 r) ∧ Drawn0 w w' := by
  have HR0 := Aside0.mk hr0
  have HC0 := Aside0.mk hc0
  clear hr0 hc0
  have H : (if (l0.length : Int) > 1024 then (some 171) else (depotref13_CheckRefs.l0 k l0 (⟨#[]⟩ : ByteArray) 0)) = some r := h
  clear h
  by_cases c2 : (l0.length : Int) > 1024
  · rw [if_pos c2] at H
    have c2b0 : decide (1024 < (l0.length : Int)) = true := decide_eq_true c2
    have c2b1 : decide (1024 < l0.length) = true := decide_eq_true (by omega)
    clear c2
    obtain rfl := Option.some.inj H
    go_enter Tryd.func22, Tryd.ntmps22
    go_wp2
    go_ret
    exact ⟨by first | rfl | (simp; done) | (simp [*]; done), by repeat (first | exact Drawn0.refl _ | apply Drawn0.step)⟩
  · rw [if_neg c2] at H
    have c2b0 : decide (1024 < (l0.length : Int)) = false := decide_eq_false c2
    have c2b1 : decide (1024 < l0.length) = false := decide_eq_false (by omega)
    clear c2
    have H' := Aside0.mk H
    clear H
    go_enter Tryd.func22, Tryd.ntmps22
    go_wp2
    go_loopg [3, 4] k (fun kq v3 v4 w' => ∃ (x3_1 : ByteArray) (x4_1 : Int), v3 = .string x3_1 ∧ v4 = .int .i64 x4_1 ∧ Aside0 (depotref13_CheckRefs.l0 kq l0 x3_1 x4_1 = some r) ∧ Aside0 (kq ≤ k) ∧ Drawn0 w w')
    case atStart => exact ⟨((⟨#[]⟩ : ByteArray)), (0), (by first | rfl | (simp; done) | (simp [*]; done)), (by first | rfl | (simp; done) | (simp [*]; done)), H', ⟨Nat.le_refl _⟩, by repeat (first | exact Drawn0.refl _ | apply Drawn0.step)⟩
    case round =>
      clear H'
      try clear c2
      try clear c2b0
      try clear c2b1
      try clear p2
      obtain ⟨x3_1, x4_1, rfl, rfl, HA, HK1, ⟨m1, rfl⟩⟩ := hrel
      cases gk with
      | zero => exact absurd HA.out (by simp [depotref13_CheckRefs.l0])
      | succ k1 =>
        have H := HA.out
        clear HA
        simp only [depotref13_CheckRefs.l0] at H
        by_cases c3 : x4_1 < (l0.length : Int)
        · rw [if_pos c3] at H
          have c3b0 : decide (x4_1 < (l0.length : Int)) = true := decide_eq_true c3
          clear c3
          by_cases c4 : 0 ≤ x4_1
          · rw [if_pos c4] at H
            have c4b0 : decide (0 ≤ x4_1) = true := decide_eq_true c4
            clear c4
            replace H := Option.bind_eq_some_iff.mp H
            obtain ⟨t157, A50, H⟩ := H
            replace H : (if t157 = true then (if ((Op.bytesLess x3_1.toList ((rdOf ByteArray.empty l0 x4_1).toList)) = true) then (depotref13_CheckRefs.l0 k1 l0 (rdOf ByteArray.empty l0 x4_1) (wrap64 (x4_1 + 1))) else (some 133)) else (some 133)) = some r := H
            have A5 := Aside0.mk A50
            clear A50
            by_cases c6 : t157 = true
            · subst c6
              have H1 : (if ((Op.bytesLess x3_1.toList ((rdOf ByteArray.empty l0 x4_1).toList)) = true) then (depotref13_CheckRefs.l0 k1 l0 (rdOf ByteArray.empty l0 x4_1) (wrap64 (x4_1 + 1))) else (some 133)) = some r := by rw [if_pos rfl] at H; exact H
              clear H
              have H := H1
              clear H1
              by_cases c7 : ((Op.bytesLess x3_1.toList ((rdOf ByteArray.empty l0 x4_1).toList)) = true)
              · rw [if_pos c7] at H
                have c7b0 : (Op.bytesLess x3_1.toList ((rdOf ByteArray.empty l0 x4_1).toList)) = true := c7
                clear c7
                have H' := Aside0.mk H
                clear H
                have p156 : 0 ≤ (x4_1 : Int) := of_decide_eq_true (by first | (with_reducible assumption) | assumption)
                have q156 : x4_1 < (l0.length : Int) := of_decide_eq_true (by first | (with_reducible assumption) | assumption)
                obtain ⟨ad156, e156, hx156_0⟩ := Kd.at_string HR0.out x4_1 p156 q156
                cases e156
                replace p156 := eq_true p156
                replace q156 := eq_true q156
                go_wp2_with (first | ((with_reducible refine gate_callee (f := 37) rfl ?_); refine goesL_ (some 18) rfl rfl Tryd.func37 (by kernel_rfl) rfl #[.string (rdOf ByteArray.empty l0 x4_1)] rfl (by (try simp only [List.map_toArray, List.map_cons, List.map_nil]); first | done | rfl | (simp only [List.length_drop, List.length_take]; rfl)) ?_; (with_reducible refine (depotref13_Good.calls k1 (rdOf ByteArray.empty l0 x4_1) true _ A5.out).mono ?_); rintro e w' ⟨rfl, ⟨nd, rfl⟩⟩; refine ⟨_, rfl, ?_⟩; have p158 : 0 ≤ (x4_1 : Int) := of_decide_eq_true (by first | (with_reducible assumption) | assumption); have q158 : x4_1 < (l0.length : Int) := of_decide_eq_true (by first | (with_reducible assumption) | assumption); obtain ⟨ad158, e158, hx158_0⟩ := Kd.at_string HR0.out x4_1 p158 q158; obtain rfl : ad156 = ad158 := (by injection e158); replace p158 := eq_true p158; replace q158 := eq_true q158; have p159 : 0 ≤ (x4_1 : Int) := of_decide_eq_true (by first | (with_reducible assumption) | assumption); have q159 : x4_1 < (l0.length : Int) := of_decide_eq_true (by first | (with_reducible assumption) | assumption); obtain ⟨ad159, e159, hx159_0⟩ := Kd.at_string HR0.out x4_1 p159 q159; obtain rfl : ad156 = ad159 := (by injection e159); replace p159 := eq_true p159; replace q159 := eq_true q159))
                go_roundg k1
                case measure => have := HK1.out; omega
                case rel => exact ⟨(rdOf ByteArray.empty l0 x4_1), (wrap64 (x4_1 + 1)), (by first | rfl | (simp; done) | (simp [*]; done)), (by first | rfl | (simp; done) | (simp [*]; done)), H', ⟨by have := HK1.out; omega⟩, by repeat (first | exact Drawn0.refl _ | apply Drawn0.step)⟩
              · rw [if_neg c7] at H
                have c7b0 : (Op.bytesLess x3_1.toList ((rdOf ByteArray.empty l0 x4_1).toList)) = false := by simpa using c7
                clear c7
                obtain rfl := Option.some.inj H
                have p156 : 0 ≤ (x4_1 : Int) := of_decide_eq_true (by first | (with_reducible assumption) | assumption)
                have q156 : x4_1 < (l0.length : Int) := of_decide_eq_true (by first | (with_reducible assumption) | assumption)
                obtain ⟨ad156, e156, hx156_0⟩ := Kd.at_string HR0.out x4_1 p156 q156
                cases e156
                replace p156 := eq_true p156
                replace q156 := eq_true q156
                go_wp2_with (first | ((with_reducible refine gate_callee (f := 37) rfl ?_); refine goesL_ (some 18) rfl rfl Tryd.func37 (by kernel_rfl) rfl #[.string (rdOf ByteArray.empty l0 x4_1)] rfl (by (try simp only [List.map_toArray, List.map_cons, List.map_nil]); first | done | rfl | (simp only [List.length_drop, List.length_take]; rfl)) ?_; (with_reducible refine (depotref13_Good.calls k1 (rdOf ByteArray.empty l0 x4_1) true _ A5.out).mono ?_); rintro e w' ⟨rfl, ⟨nd, rfl⟩⟩; refine ⟨_, rfl, ?_⟩; have p158 : 0 ≤ (x4_1 : Int) := of_decide_eq_true (by first | (with_reducible assumption) | assumption); have q158 : x4_1 < (l0.length : Int) := of_decide_eq_true (by first | (with_reducible assumption) | assumption); obtain ⟨ad158, e158, hx158_0⟩ := Kd.at_string HR0.out x4_1 p158 q158; obtain rfl : ad156 = ad158 := (by injection e158); replace p158 := eq_true p158; replace q158 := eq_true q158))
                go_ret
                exact ⟨by first | rfl | (simp; done) | (simp [*]; done), by repeat (first | exact Drawn0.refl _ | apply Drawn0.step)⟩
            · replace c6 := Bool.eq_false_iff.mpr c6
              subst c6
              have H1 : (some 133) = some r := by rw [if_neg (show ¬ (false = true) by decide)] at H; exact H
              clear H
              have H := H1
              clear H1
              obtain rfl := Option.some.inj H
              have p156 : 0 ≤ (x4_1 : Int) := of_decide_eq_true (by first | (with_reducible assumption) | assumption)
              have q156 : x4_1 < (l0.length : Int) := of_decide_eq_true (by first | (with_reducible assumption) | assumption)
              obtain ⟨ad156, e156, hx156_0⟩ := Kd.at_string HR0.out x4_1 p156 q156
              cases e156
              replace p156 := eq_true p156
              replace q156 := eq_true q156
              go_wp2_with (first | ((with_reducible refine gate_callee (f := 37) rfl ?_); refine goesL_ (some 18) rfl rfl Tryd.func37 (by kernel_rfl) rfl #[.string (rdOf ByteArray.empty l0 x4_1)] rfl (by (try simp only [List.map_toArray, List.map_cons, List.map_nil]); first | done | rfl | (simp only [List.length_drop, List.length_take]; rfl)) ?_; (with_reducible refine (depotref13_Good.calls k1 (rdOf ByteArray.empty l0 x4_1) false _ A5.out).mono ?_); rintro e w' ⟨rfl, ⟨nd, rfl⟩⟩; refine ⟨_, rfl, ?_⟩))
              go_ret
              exact ⟨by first | rfl | (simp; done) | (simp [*]; done), by repeat (first | exact Drawn0.refl _ | apply Drawn0.step)⟩
          · rw [if_neg c4] at H
            exact absurd H (by simp)
        · rw [if_neg c3] at H
          have c3b0 : decide (x4_1 < (l0.length : Int)) = false := decide_eq_false c3
          clear c3
          obtain rfl := Option.some.inj H
          go_wp2
          go_ret
          exact ⟨by first | rfl | (simp; done) | (simp [*]; done), by repeat (first | exact Drawn0.refl _ | apply Drawn0.step)⟩

end Go.Proofs.YtglhbbijoeeclaaDoor.Q
/- The document's CheckRefs in plain Lean. -/
set_option linter.unusedVariables false
set_option linter.unusedSimpArgs false
namespace Go.Proofs.YtglhbbijoeeclaaDoor.Refs
open Go.RowKit Go.Proofs.YtglhbbijoeeclaaDoor.Q Go.Proofs.YtglhbbijoeeclaaDoorW.PrintWords Go.Proofs.YtglhbbijoeeclaaDoorW.PrintLast Go.Proofs.YtglhbbijoeeclaaDoorW.PrintMore Go.Proofs.YtglhbbijoeeclaaDoor.Bytes Go.Proofs.YtglhbbijoeeclaaDoor.Evs Go.Proofs.YtglhbbijoeeclaaDoor.SpathPure
theorem good (s : ByteArray) (hs : (bs s).length ≤ 140737488355000) : Ev (fun k => depotref13_Good.f k s) ((parseB s).2.2 == 0) := by
  unfold depotref13_Good.f
  exact Ev.bind (ref_parse s hs) (Ev.now _)
/-- A path isn't empty: it stands above the empty text. -/
theorem above_nil (s : ByteArray) (h : (parseB s).2.2 = 0) : Op.bytesLess ByteArray.empty.toList s.toList = true := by
  have : 46 ≤ (bs s).length := by
    unfold parseB at h
    by_cases hp : isPath0 (bs s)
    · exact hp.2.1
    · rw [if_neg hp] at h
      exact absurd h (by decide)
  rw [toList_bs, toList_bs]
  have e : bs ByteArray.empty = [] := rfl
  rw [e]
  match bs s, this with
  | c :: t, _ => rfl
theorem ref_l0 (xs : List ByteArray) (h : ∀ x ∈ xs, x.size ≤ 140737488351232) (hl : xs.length ≤ 1024) (d : Nat) : ∀ i (last : ByteArray), i + d = xs.length → (last = if i = 0 then ByteArray.empty else el xs (i - 1)) → Ev (fun k => depotref13_CheckRefs.l0 k xs last (i : Int)) (from_ xs i d) := by
  induction d with
  | zero =>
    intro i last hi hlast
    refine succ ?_
    simp only [depotref13_CheckRefs.l0]
    exact neg (by omega) (Ev.now _)
  | succ d ih =>
    intro i last hi hlast
    refine succ ?_
    simp only [depotref13_CheckRefs.l0]
    refine pos (by omega) (pos (by omega) ?_)
    rw [rd_nat]
    refine Ev.bind (good (el xs i) (el_small h i)) ?_
    unfold from_
    rw [wr i (by omega)]
    by_cases hp : (parseB (el xs i)).2.2 = 0
    · refine pos (by rw [hp]; rfl) ?_
      have hih := ih (i + 1) (el xs i) (by omega) (by rw [if_neg (by omega)]; rfl)
      by_cases h0 : i = 0
      · refine pos ?_ (same (if_pos ⟨hp, .inl h0⟩) hih)
        rw [hlast, if_pos h0]
        exact above_nil _ hp
      · rw [if_neg h0] at hlast
        by_cases hb : Op.bytesLess (el xs (i - 1)).toList (el xs i).toList = true
        · refine pos ?_ (same (if_pos ⟨hp, .inr hb⟩) hih)
          rw [hlast]
          exact hb
        · refine neg ?_ (same (if_neg (fun hk => by rcases hk.2 with hk | hk; exact h0 hk; exact hb hk)) (Ev.now _))
          rw [hlast]
          exact hb
    · exact neg (by rw [beq_iff_eq]; exact hp) (same (if_neg (fun hk => hp hk.1)) (Ev.now _))
theorem ref_refs (xs : List ByteArray) (h : ∀ x ∈ xs, x.size ≤ 140737488351232) : Ev (fun k => depotref13_CheckRefs.f k xs) (refsNo xs) := by
  unfold depotref13_CheckRefs.f refsNo
  by_cases hl : 1024 < xs.length
  · exact pos (by omega) (same (if_pos hl) (Ev.now _))
  · exact neg (by omega) (same (if_neg hl) (ref_l0 xs h (by omega) xs.length 0 _ (by omega) (by rw [if_pos rfl]; rfl)))
end Go.Proofs.YtglhbbijoeeclaaDoor.Refs
/- The document's Named and Make, walked. -/
namespace Go.Proofs.YtglhbbijoeeclaaDoor.Sha
open Go.RowKit Go.Proofs.YtglhbbijoeeclaaDoor.Q Go.Proofs.YtglhbbijoeeclaaDoorW.PrintWords Go.Proofs.YtglhbbijoeeclaaDoorW.PrintLast Go.Proofs.YtglhbbijoeeclaaDoorW.PrintMore Go.Proofs.YtglhbbijoeeclaaDoor.Bytes Go.Proofs.YtglhbbijoeeclaaDoor.TextTrue
set_option linter.unusedVariables false
set_option linter.unusedSimpArgs false
set_option maxRecDepth 100000 in
set_option maxHeartbeats 8000000 in
theorem named_calls (w : World) (A : Option Addr) (c : Nat) (refs : List ByteArray) (d : List UInt8) (hd : d.length = 32) (label hxs txt : ByteArray) (kh : Nat) (hr : Kd.C Kd.string w A refs.length refs) (hc : refs.length ≤ c) (hlen : refs.length ≤ 1024)
    (h3 : depotref02_Hex.f kh ⟨d.toArray⟩ = some hxs) (hxl : hxs.size < 1000000) (hll : label.size < 1000000) (hsz : ∀ k, k ≤ refs.length → (textTo refs k).size < 1000000000000) (hrz : ∀ k, (refs.getD k ⟨#[]⟩).size < 1000000)
    (htx : textTo refs refs.length ++ shaC ++ hxs ++ dirC ++ label = txt) :
    Calls Tryd.prog 24 #[.slice A refs.length c, .agg (d.map bcell).toArray, .string label] w fun e w' => e = .returned (.string txt) ∧ Below w.heap.size w w' := by
  have C3 := Aside0.mk (fun W => depotref02_Hex.calls kh ⟨d.toArray⟩ hxs W h3)
  have HB1 := Aside0.mk ((Below.refl w.heap.size w).alloc (Nat.le_refl _) (.cells (d.map bcell).toArray 23))
  have HX1 := Aside0.mk (World.alloc_heap_new w (.cells (d.map bcell).toArray 23))
  have HR := Aside0.mk hr
  have HD := Aside0.mk hd
  have HSZ := Aside0.mk hsz
  have HRZ := Aside0.mk hrz
  have HTX : Aside0 (textTo refs refs.length ++ (⟨#[58, 115, 104, 97, 50, 53, 54, 58]⟩ : ByteArray) ++ hxs ++ (⟨#[58]⟩ : ByteArray) ++ (⟨#[47, 100, 101, 112, 111, 116, 47, 115, 116, 111, 114, 101, 47]⟩ : ByteArray) ++ (⟨#[58]⟩ : ByteArray) ++ label = txt) := ⟨by
    rw [← htx]
    apply bs_inj
    simp only [bs_append, List.append_assoc]
    rfl⟩
  clear hr hd h3 hsz hrz htx
  go_enter Tryd.func24, Tryd.ntmps24
  go_wp2
  go_loopg [7, 8] refs.length (fun g v7 v8 wx => ∃ i : Nat, i + g = refs.length ∧ v8 = .int .i64 (i : Int) ∧ v7 = .string (textTo refs i) ∧ Aside0 (Below w.heap.size w wx) ∧ Aside0 (wx.heap[w.heap.size]? = some (.cells (d.map bcell).toArray 23 (0, 0))))
  case atStart => exact ⟨0, by omega, rfl, rfl, HB1, HX1⟩
  case round =>
    clear HB1 HX1
    obtain ⟨i, hig, rfl, rfl, HB, HX⟩ := hrel
    cases gk with
    | zero =>
      obtain rfl : i = refs.length := by omega
      have d5 : decide ((refs.length : Int) < (refs.length : Int)) = false := decide_eq_false (by omega)
      obtain ⟨T, hT, hTs⟩ : ∃ T, textTo refs refs.length = T ∧ T.size < 1000000000000 := ⟨_, rfl, HSZ.out _ (Nat.le_refl _)⟩
      have HTX2 := HTX.out
      rw [hT] at HTX2
      have HTX3 := Aside0.mk HTX2
      rw [hT]
      clear HTX2 hT HTX HSZ
      have hcv := conv32 wr w.heap.size d _ HD.out HX.out
      have t1 : (T.size + 8 ≤ 9223372036854775807) = True := eq_true (by omega)
      have t2 : (T.size + 8 + hxs.size ≤ 9223372036854775807) = True := eq_true (by omega)
      have t3 : (T.size + 8 + hxs.size + 1 ≤ 9223372036854775807) = True := eq_true (by omega)
      have t4 : (T.size + 8 + hxs.size + 1 + 13 ≤ 9223372036854775807) = True := eq_true (by omega)
      have t5 : (T.size + 8 + hxs.size + 1 + 13 + 1 ≤ 9223372036854775807) = True := eq_true (by omega)
      have t6 : (T.size + 8 + hxs.size + 1 + 13 + 1 + label.size ≤ 9223372036854775807) = True := eq_true (by omega)
      go_wp2_with (first
        | (go_at_call 41; ((with_reducible refine (C3.out wr).mono ?_)); rintro e w6 ⟨rfl, hb6⟩; have HB6 := Aside0.mk (HB.out.trans (hb6.mono HB.out.size)); clear hb6 hcv))
      go_ret
      exact ⟨by rw [← HTX3.out]; rfl, HB6.out⟩
    | succ k1 =>
      have d4 : decide ((i : Int) < (refs.length : Int)) = true := decide_eq_true (by omega)
      obtain ⟨bk, o, rfl, hcell⟩ := string_cells (Kd.C_below HR.out HB.out) (by omega)
      have hi : i < refs.length := by omega
      have y1 := hcell i _ (List.getElem?_eq_getElem hi)
      have hgx : refs.getD i ⟨#[]⟩ = refs[i] := by rw [List.getD_eq_getElem?_getD, List.getElem?_eq_getElem hi]; rfl
      have hxs_ := HRZ.out i
      have hts := HSZ.out i (by omega)
      have HN : Aside0 (textTo refs (i + 1) = textTo refs i ++ (colonS ++ refs[i])) := ⟨by rw [textTo, hgx]⟩
      rw [hgx] at hxs_
      obtain ⟨x, hx⟩ : ∃ x, refs[i] = x := ⟨_, rfl⟩
      obtain ⟨tt, htt⟩ : ∃ tt, textTo refs i = tt := ⟨_, rfl⟩
      rw [hx] at y1 hxs_ HN
      rw [htt] at hts HN
      rw [htt]
      have t1 : (1 + x.size ≤ 9223372036854775807) = True := eq_true (by omega)
      have t2 : (tt.size + (1 + x.size) ≤ 9223372036854775807) = True := eq_true (by omega)
      have p1 : (0 ≤ (i : Int)) = True := eq_true (by omega)
      have p2 : ((i : Int) < (refs.length : Int)) = True := eq_true (by omega)
      have p3 : (i < refs.length) = True := eq_true hi
      clear hcell hgx hx htt hi
      go_wp2
      go_roundg k1
      case measure => omega
      case rel => exact ⟨i + 1, by omega, by go_num, by rw [HN.out]; rfl, HB, HX⟩
end Go.Proofs.YtglhbbijoeeclaaDoor.Sha
/- The document's Make, and depotlaw13.SpathMakes, walked. -/
namespace Go.Proofs.YtglhbbijoeeclaaDoor.Sha
open Go.RowKit Go.Proofs.YtglhbbijoeeclaaDoor.Q Go.Proofs.YtglhbbijoeeclaaDoorW.PrintWords Go.Proofs.YtglhbbijoeeclaaDoorW.PrintLast Go.Proofs.YtglhbbijoeeclaaDoorW.PrintMore Go.Proofs.YtglhbbijoeeclaaDoor.Bytes Go.Proofs.YtglhbbijoeeclaaDoor.TextTrue
set_option linter.unusedVariables false
set_option linter.unusedSimpArgs false
set_option maxRecDepth 100000 in
set_option maxHeartbeats 8000000 in
theorem rmake_good (w : World) (A : Option Addr) (c : Nat) (refs : List ByteArray) (d : List UInt8) (hd : d.length = 32) (label hxs txt b32 : ByteArray) (kl kr kh kf kb : Nat) (hr : Kd.C Kd.string w A refs.length refs) (hc : refs.length ≤ c) (hlen : refs.length ≤ 1024)
    (h1 : depotref13_CheckLabel.f kl label = some 0) (h2 : depotref13_CheckRefs.f kr refs = some 0) (h3 : depotref02_Hex.f kh ⟨d.toArray⟩ = some hxs) (hxl : hxs.size < 1000000) (hll : label.size < 1000000) (hsz : ∀ k, k ≤ refs.length → (textTo refs k).size < 1000000000000) (hrz : ∀ k, (refs.getD k ⟨#[]⟩).size < 1000000)
    (htx : textTo refs refs.length ++ shaC ++ hxs ++ dirC ++ label = txt) (ht : txt.size < 1000000000000) (h4 : depotref02_Fold.f kf ⟨(of txt.data.toList).toArray⟩ 20 = some (⟨(fold (of txt.data.toList) 20).toArray⟩, 0)) (h5 : depotref02_Base32.f kb ⟨(fold (of txt.data.toList) 20).toArray⟩ = some b32) (hb : b32.size < 1000000) :
    Calls Tryd.prog 9 #[.slice A refs.length c, .agg (d.map bcell).toArray, .string label] w fun e w' => e = .returned (.tuple #[.string (dirS ++ b32 ++ dashS ++ label), .int .i64 0]) ∧ Below w.heap.size w w' := by
  have HR23 : Aside0 ((Tryd.prog.info? 23).map (·.size) = some 32) := ⟨by kernel_rfl⟩
  have C1 := Aside0.mk (fun W => show Calls Tryd.prog 21 #[.string label] W fun e w' => e = .returned (.int .i64 0) ∧ Below W.heap.size W w' from (depotref13_CheckLabel.calls kl label 0 W h1).mono fun e w' h => ⟨h.1, h.2.below⟩)
  have C2 := Aside0.mk (fun (W : World) (h : Below w.heap.size w W) => show Calls Tryd.prog 22 #[.slice A refs.length c] W fun e w' => e = .returned (.int .i64 0) ∧ Below W.heap.size W w' from (depotref13_CheckRefs.calls kr A c refs 0 W (Kd.C_below hr h) hc h2).mono fun e w' h => ⟨h.1, h.2.below⟩)
  have CN := Aside0.mk (fun W (h : Below w.heap.size w W) => named_calls W A c refs d hd label hxs txt kh (Kd.C_below hr h) hc hlen h3 hxl hll hsz hrz htx)
  have CO := Aside0.mk (fun W => rof_calls txt W ht)
  have CF := Aside0.mk (fun W => depotref02_Fold.calls kf ⟨(of txt.data.toList).toArray⟩ 20 _ 0 W h4)
  have C5 := Aside0.mk (fun W => depotref02_Base32.calls kb ⟨(fold (of txt.data.toList) 20).toArray⟩ b32 W h5)
  have HB1 := Aside0.mk ((Below.refl w.heap.size w).alloc (Nat.le_refl _) (.cells (d.map bcell).toArray 23))
  have HX1 := Aside0.mk (World.alloc_heap_new w (.cells (d.map bcell).toArray 23))
  have HOL := Aside0.mk (of_len txt.data.toList)
  have HD := Aside0.mk hd
  have s1 : (13 + b32.size ≤ 9223372036854775807) = True := eq_true (by omega)
  have s2 : (13 + b32.size + 1 ≤ 9223372036854775807) = True := eq_true (by omega)
  have s3 : (13 + b32.size + 1 + label.size ≤ 9223372036854775807) = True := eq_true (by omega)
  clear hr hd h1 h2 h3 h4 h5 hsz hrz htx
  go_enter Tryd.func9, Tryd.ntmps9
  go_wp2_with (first
    | (go_at_call 21; (refine (C1.out _).mono ?_); rintro e w2 ⟨rfl, hb2⟩; have HB2 := Aside0.mk (HB1.out.trans (hb2.mono HB1.out.size)); have HX2 := Aside0.mk ((hb2.block _ (Array.getElem?_eq_some_iff.1 HX1.out).1).trans HX1.out); clear hb2)
    | (go_at_call 22; ((with_reducible refine (C2.out w2 HB2.out).mono ?_)); rintro e w3 ⟨rfl, hb3⟩; have HB3 := Aside0.mk (HB2.out.trans (hb3.mono HB2.out.size)); have HX3 := Aside0.mk ((hb3.block _ (Array.getElem?_eq_some_iff.1 HX2.out).1).trans HX2.out); clear hb3)
    | ((with_reducible refine gate_dst (N := 22) rfl ?_); refine wpList_load_mid rfl 23 (.tmp 4) rfl w.heap.size 0 rfl (d.map bcell) _ (range_row HX3.out) Tryd.underlying23 rfl (by rw [List.length_map, HD.out]; kernel_rfl) ?_)
    | (go_at_call 24; ((with_reducible refine (CN.out w3 HB3.out).mono ?_)); rintro e w4 ⟨rfl, hb4⟩; have HB4 := Aside0.mk (HB3.out.trans (hb4.mono HB3.out.size)); clear hb4)
    | (go_at_call 23; ((with_reducible refine (CO.out w4).mono ?_)); rintro e w10 ⟨rfl, hb10⟩; have HB10 := Aside0.mk (HB4.out.trans (hb10.mono HB4.out.size)); clear hb10)
    | ((with_reducible refine gate_store (t := 23) (p := 9) rfl ?_); refine wpList_store_row' rfl 23 (.tmp 9) (.tmp 25) rfl w10.heap.size 23 (List.replicate 32 (Value.int .u8 0)).toArray ((of txt.data.toList).map bcell).toArray rfl rfl (World.alloc_heap_new w10 _) (by rw [List.size_toArray, List.length_map, HOL.out]; exact HR23.out) (by rw [List.size_toArray, List.size_toArray, List.length_map, HOL.out]; rfl) (all_oneCell_toArray fun u hu => by obtain ⟨y, _, rfl⟩ := List.mem_map.1 hu; rfl) ?_; intro w11 hw11; have hcv11 := conv32 w11 w10.heap.size (of txt.data.toList) 23 HOL.out (by rw [hw11]; exact setRow_heap _ _ _ _ _ _ (World.alloc_heap_new w10 _)); have HB11 : Aside0 (Below w.heap.size w w11) := ⟨by rw [hw11]; exact below_setRow (HB10.out.alloc HB10.out.size _) HB10.out.size _⟩; clear hw11)
    | (go_at_call 25; ((with_reducible refine (CF.out w11).mono ?_)); rintro e w12 ⟨rfl, hb12⟩; have HB12 := Aside0.mk (HB11.out.trans (hb12.mono HB11.out.size)); clear hb12 hcv11)
    | (go_at_call 26; ((with_reducible refine (C5.out w12).mono ?_)); rintro e w13 ⟨rfl, hb13⟩; have HB13 := Aside0.mk (HB12.out.trans (hb13.mono HB12.out.size)); clear hb13))
  go_ret2
  exact ⟨rfl, HB13.out⟩
set_option maxRecDepth 100000 in
set_option maxHeartbeats 4000000 in
theorem rmake_label (w : World) (A : Option Addr) (n c : Nat) (d : List UInt8) (label : ByteArray) (e1 : Int) (kl : Nat) (h1 : depotref13_CheckLabel.f kl label = some e1) (he : e1 ≠ 0) :
    Calls Tryd.prog 9 #[.slice A n c, .agg (d.map bcell).toArray, .string label] w fun e w' => e = .returned (.tuple #[.string ⟨#[]⟩, .int .i64 e1]) ∧ Below w.heap.size w w' := by
  have HB1 := Aside0.mk ((Below.refl w.heap.size w).alloc (Nat.le_refl _) (.cells (d.map bcell).toArray 23))
  have C1 := Aside0.mk (fun W => show Calls Tryd.prog 21 #[.string label] W fun e w' => e = .returned (.int .i64 e1) ∧ Below W.heap.size W w' from (depotref13_CheckLabel.calls kl label e1 W h1).mono fun e w' h => ⟨h.1, h.2.below⟩)
  have d1 : decide (e1 = 0) = false := decide_eq_false he
  clear h1
  go_enter Tryd.func9, Tryd.ntmps9
  go_wp2_with (first
    | (go_at_call 21; (refine (C1.out _).mono ?_); rintro e w2 ⟨rfl, hb2⟩; have HB2 := Aside0.mk (HB1.out.trans (hb2.mono HB1.out.size)); clear hb2))
  go_ret2
  exact ⟨rfl, HB2.out⟩
set_option maxRecDepth 100000 in
set_option maxHeartbeats 4000000 in
theorem rmake_refs (w : World) (A : Option Addr) (c : Nat) (refs : List ByteArray) (d : List UInt8) (label : ByteArray) (e2 : Int) (kl kr : Nat) (hr : Kd.C Kd.string w A refs.length refs) (hc : refs.length ≤ c) (h1 : depotref13_CheckLabel.f kl label = some 0) (h2 : depotref13_CheckRefs.f kr refs = some e2) (he : e2 ≠ 0) :
    Calls Tryd.prog 9 #[.slice A refs.length c, .agg (d.map bcell).toArray, .string label] w fun e w' => e = .returned (.tuple #[.string ⟨#[]⟩, .int .i64 e2]) ∧ Below w.heap.size w w' := by
  have HB1 := Aside0.mk ((Below.refl w.heap.size w).alloc (Nat.le_refl _) (.cells (d.map bcell).toArray 23))
  have C1 := Aside0.mk (fun W => show Calls Tryd.prog 21 #[.string label] W fun e w' => e = .returned (.int .i64 0) ∧ Below W.heap.size W w' from (depotref13_CheckLabel.calls kl label 0 W h1).mono fun e w' h => ⟨h.1, h.2.below⟩)
  have C2 := Aside0.mk (fun (W : World) (h : Below w.heap.size w W) => show Calls Tryd.prog 22 #[.slice A refs.length c] W fun e w' => e = .returned (.int .i64 e2) ∧ Below W.heap.size W w' from (depotref13_CheckRefs.calls kr A c refs e2 W (Kd.C_below hr h) hc h2).mono fun e w' h => ⟨h.1, h.2.below⟩)
  have d1 : decide (e2 = 0) = false := decide_eq_false he
  clear h1 h2 hr
  go_enter Tryd.func9, Tryd.ntmps9
  go_wp2_with (first
    | (go_at_call 21; (refine (C1.out _).mono ?_); rintro e w2 ⟨rfl, hb2⟩; have HB2 := Aside0.mk (HB1.out.trans (hb2.mono HB1.out.size)); clear hb2)
    | (go_at_call 22; ((with_reducible refine (C2.out w2 HB2.out).mono ?_)); rintro e w3 ⟨rfl, hb3⟩; have HB3 := Aside0.mk (HB2.out.trans (hb3.mono HB2.out.size)); clear hb3))
  go_ret2
  exact ⟨rfl, HB3.out⟩
/-- The document's Make answers as the program's. -/
theorem rmake_all (refs : List ByteArray) (d : List UInt8) (hd : d.length = 32) (label p : ByteArray) (e1 : Int) (hsz : ∀ x ∈ refs, x.size ≤ 140737488351232)
    (h : (e1 ≠ 0 ∧ p = ⟨#[]⟩ ∧ (labelNo (bs label) = e1 ∨ labelNo (bs label) = 0 ∧ Refs.refsNo refs = e1)) ∨ (e1 = 0 ∧ labelNo (bs label) = 0 ∧ Refs.refsNo refs = 0 ∧ MadeAs refs d label p)) :
    ∀ W, ∀ (A : Option Addr) (c : Nat), Kd.C Kd.string W A refs.length refs → refs.length ≤ c → Calls Tryd.prog 9 #[.slice A refs.length c, .agg (d.map bcell).toArray, .string label] W fun e w' => e = .returned (.tuple #[.string p, .int .i64 e1]) ∧ Below W.heap.size W w' := by
  intro W A c hr hc
  obtain ⟨kl, hl⟩ := SpathPure.ref_label label
  have h1 := hl kl (Nat.le_refl _)
  obtain ⟨kr, hkr⟩ := Refs.ref_refs refs hsz
  have h2 := hkr kr (Nat.le_refl _)
  rcases h with ⟨he, rfl, hl | ⟨hl, hq⟩⟩ | ⟨rfl, hl, hq, hxs, b32, ⟨kp, hp⟩, hxl, rfl, hbl, rfl⟩
  · rw [hl] at h1
    exact rmake_label W A _ c d label e1 kl h1 he
  · rw [hl] at h1
    rw [hq] at h2
    exact rmake_refs W A c refs d label e1 kl kr hr hc h1 h2 he
  · rw [hl] at h1
    rw [hq] at h2
    obtain ⟨hlen, hsm⟩ := TextPure.refs_small refs hq
    have hll := TextPure.label_len hl
    rw [← size_bs] at hll
    have hts := TextPure.text_size refs hsm
    have hn := hts refs.length
    have hdb : bs (⟨d.toArray⟩ : ByteArray) = d := bs_mk d
    obtain ⟨k1, hk1⟩ := HexPure.prog_hex ⟨d.toArray⟩ (by rw [hdb, hd]; decide)
    obtain ⟨kh, hkh⟩ := HexPure.ref_hex ⟨d.toArray⟩ (by rw [hdb, hd]; decide)
    have hmono : ∀ a b : Nat, a ≤ b → ∀ r, radix_Hex.f a ⟨d.toArray⟩ = some r → radix_Hex.f b ⟨d.toArray⟩ = some r := by
      intro a b hab r hr
      obtain ⟨n, rfl⟩ := Nat.exists_eq_add_of_le hab
      clear hab
      induction n with
      | zero => exact hr
      | succ n ih => exact radix_Hex.mono _ (a + n) r ih
    have hxe : hxs = strOfNums (HexPure.hexN (bs ⟨d.toArray⟩)) := Option.some.inj ((hmono kp (max kp k1) (Nat.le_max_left _ _) _ hp).symm.trans (hk1 _ (Nat.le_max_right _ _)))
    have h3 := hkh kh (Nat.le_refl _)
    rw [← hxe] at h3
    obtain ⟨txt, htx⟩ : ∃ txt, textTo refs refs.length ++ shaC ++ hxs ++ dirC ++ label = txt := ⟨_, rfl⟩
    have hts2 : txt.size < 1000000 := by
      rw [← htx, size_bs, bs_append, bs_append, bs_append, bs_append, List.length_append, List.length_append, List.length_append, List.length_append, ← size_bs, ← size_bs, ← size_bs, ← size_bs, ← size_bs]
      have q1 : shaC.size = 8 := rfl
      have q2 : dirC.size = 15 := rfl
      omega
    rw [htx] at hbl ⊢
    have hof : (bs (⟨(of txt.data.toList).toArray⟩ : ByteArray)).length < 1000000 := by rw [bs_mk, of_len]; decide
    obtain ⟨kf, hkf⟩ := rfold ⟨(of txt.data.toList).toArray⟩ 20 (by decide) (by decide) hof
    have h4 := hkf kf (Nat.le_refl _)
    rw [bs_mk] at h4
    obtain ⟨kb, hkb⟩ := B32.ref_enc ⟨(fold (of txt.data.toList) 20).toArray⟩ (by rw [bs_mk, fold, List.length_take, foldTo_len]; decide)
    have h5 := hkb kb (Nat.le_refl _)
    rw [bs_mk] at h5
    exact rmake_good W A c refs d hd label hxs txt _ kl kr kh kf kb hr hc hlen h1 h2 h3 (by omega) (by omega) (fun k hk => by have := hts k; omega) (fun k => by have := hsm k; omega) htx (by omega) h4 h5 (by show (⟨(B32.enc (fold (of (bs txt)) 20)).toArray⟩ : ByteArray).size < 1000000; rw [hbl]; decide)
set_option maxRecDepth 100000 in
set_option maxHeartbeats 8000000 in
theorem makes_walk (w : World) (hG : Glob w) (A : Option Addr) (c : Nat) (refs : List ByteArray) (d : List UInt8) (hd : d.length = 32) (label p : ByteArray) (e1 : Int) (hr : Kd.C Kd.string w A refs.length refs) (hc : refs.length ≤ c)
    (ka : Nat) (ha : depotlaw13_awake.f ka = some true) (hM : MakeGives refs d label p e1) (hM2 : ∀ W, ∀ (A : Option Addr) (c : Nat), Kd.C Kd.string W A refs.length refs → refs.length ≤ c → Calls Tryd.prog 9 #[.slice A refs.length c, .agg (d.map bcell).toArray, .string label] W fun e w' => e = .returned (.tuple #[.string p, .int .i64 e1]) ∧ Below W.heap.size W w') :
    Calls Tryd.prog 3 #[.slice A refs.length c, .agg (d.map bcell).toArray, .string label] w fun e w' => e = .returned (.bool true) ∧ Below w.heap.size w w' := by
  have C0 := Aside0.mk (fun W => depotlaw13_awake.calls ka true W ha)
  have CM := Aside0.mk (fun (W : World) (h : Below w.heap.size w W) => hM W (hG.below h hG.lt) A c (Kd.C_below hr h) hc)
  have CR := Aside0.mk (fun (W : World) (h : Below w.heap.size w W) => hM2 W A c (Kd.C_below hr h) hc)
  have HB1 := Aside0.mk ((Below.refl w.heap.size w).alloc (Nat.le_refl _) (.cells (d.map bcell).toArray 23))
  have HX1 := Aside0.mk (World.alloc_heap_new w (.cells (d.map bcell).toArray 23))
  have HD := Aside0.mk hd
  have c3 : (p.toList == p.toList) = true := by simp
  clear hG hd ha hM hM2 hr
  go_enter Tryd.func3, Tryd.ntmps3
  go_wp2_with (first
    | (go_at_call 7; (refine (C0.out _).mono ?_); rintro e w2 ⟨rfl, hb2⟩; have HB2 := Aside0.mk (HB1.out.trans (hb2.mono HB1.out.size)); have HX2 := Aside0.mk ((hb2.block _ (Array.getElem?_eq_some_iff.1 HX1.out).1).trans HX1.out); clear hb2)
    | ((with_reducible refine gate_dst (N := 15) rfl ?_); refine wpList_load_mid rfl 23 (.tmp 4) rfl w.heap.size 0 rfl (d.map bcell) _ (range_row HX2.out) Tryd.underlying23 rfl (by rw [List.length_map, HD.out]; kernel_rfl) ?_)
    | (go_at_call 8; ((with_reducible refine (CM.out w2 HB2.out).mono ?_)); rintro e w3 ⟨rfl, hb3⟩; have HB3 := Aside0.mk (HB2.out.trans (hb3.mono HB2.out.size)); have HX3 := Aside0.mk ((hb3.block _ (Array.getElem?_eq_some_iff.1 HX2.out).1).trans HX2.out); clear hb3)
    | ((with_reducible refine gate_dst (N := 22) rfl ?_); refine wpList_load_mid rfl 23 (.tmp 4) rfl w.heap.size 0 rfl (d.map bcell) _ (range_row HX3.out) Tryd.underlying23 rfl (by rw [List.length_map, HD.out]; kernel_rfl) ?_)
    | (go_at_call 9; ((with_reducible refine (CR.out w3 HB3.out).mono ?_)); rintro e w4 ⟨rfl, hb4⟩; have HB4 := Aside0.mk (HB3.out.trans (hb4.mono HB3.out.size)); clear hb4))
  go_ret
  exact ⟨rfl, HB4.out⟩
/-- SpathMakes answers true. -/
theorem makes_true (w : World) (hG : Glob w) (A : Option Addr) (c : Nat) (refs : List ByteArray) (d : List UInt8) (hd : d.length = 32) (label : ByteArray) (hr : Kd.C Kd.string w A refs.length refs) (hc : refs.length ≤ c) (hsz : ∀ x ∈ refs, x.size ≤ 140737488351232) :
    Calls Tryd.prog 3 #[.slice A refs.length c, .agg (d.map bcell).toArray, .string label] w fun e w' => e = .returned (.bool true) ∧ Below w.heap.size w w' := by
  obtain ⟨ka, hka⟩ := SpathPure.awake
  obtain ⟨p, e1, hM, h⟩ := make_all refs d hd label hsz
  exact makes_walk w hG A c refs d hd label p e1 hr hc ka (hka ka (Nat.le_refl _)) hM (rmake_all refs d hd label p e1 hsz h)
end Go.Proofs.YtglhbbijoeeclaaDoor.Sha
/- A world in which the listed variables (SHA-256's two tables) read as the row lists them: the door's own heap, the tables laid. -/
namespace Go.Proofs.YtglhbbijoeeclaaDoor.Door
open Go
set_option linter.unusedVariables false

def cellsOfData : DataW Unit → Array Value
  | .agg l => (l.map fun | .lit (.int k x) => Value.int k x | _ => undef).toArray
  | _ => #[]
/-- The two tables' numbers. -/
theorem gStart : Tryd.prog.globalNamed "depot/sha.start" = some 0 := by kernel_rfl
theorem gRounds : Tryd.prog.globalNamed "depot/sha.rounds" = some 1 := by kernel_rfl
noncomputable def W0 (os : Os) : World :=
  { World.doorLaid Tryd.prog 19 os with heap := ((World.doorLaid Tryd.prog 19 os).heap.modify 0 fun | .cells _ t f => .cells (cellsOfData Rows.laid_depot_sha_start) t f | o => o).modify 1 fun | .cells _ t f => .cells (cellsOfData Rows.laid_depot_sha_rounds) t f | o => o }
abbrev laid2 : List (String × DataW Unit) := Rows.spathTextRow.laid
theorem met (os : Os) (args : Array Value) : laidMetH Tryd.prog laid2 ((W0 os).forCall (fun _ _ => 0) ⟨#[], args, []⟩).memory :=
  laidMetH_of_parts3 (fuel := 8) (laidMet_of_run' 8 (by kernel_rfl) (by kernel_rfl)) (by kernel_rfl) (by kernel_rfl)
theorem shaped (os : Os) (args : Array Value) : ((W0 os).forCall (fun _ _ => 0) ⟨#[], args, []⟩).Shaped Tryd.prog := World.shaped_of_RefB (by kernel_rfl) (by kernel_rfl)
end Go.Proofs.YtglhbbijoeeclaaDoor.Door
/- What came in, opened by its kind: a reading of a value ys data gives the Lean value of the print's kinds, with its sizes. For rows over slices and structs. -/
set_option linter.unusedVariables false
set_option linter.unusedSimpArgs false
namespace Go.Proofs.YtglhbbijoeeclaaDoor.Opens
open Go.RowKit Go.Deep Go.Proofs.YtglhbbijoeeclaaDoorW.PrintWords

section
variable {α β : Type}
/-- A reading at type t gives a value of kind d: its cells (K), its weights (each no more than one of the datum's, or 0), its bulk, and what is good about its numbers. -/
structure Opens (P : Program) (t : TypeId) (d : Kd α) (Wt : α → List Nat) (Bk : α → Nat) (Gd : α → Prop) : Prop where
  sz : P.cellsOf t = d.sz
  out : ∀ {H : Type} {enc : TypeId × Value → H} {w : World} {base : Nat} {spare : Nat → Bool} {held : Bool} {fuel : Nat} {cs : List Value} {x : DataW H × List MemPlace},
    DataW.trod enc P w base spare held fuel t cs = some x → ∃ a, d.K w a cs ∧ (∀ n ∈ Wt a, n = 0 ∨ ∃ m ∈ x.1.weights P t, n ≤ m) ∧ Bk a ≤ Rows.uptoBulk x.1 ∧ Gd a

variable {P : Program} {t : TypeId}
theorem opens_string (ht : P.underlying t = some .string) (hs : P.cellsOf t = 1) : Opens P t Kd.string (fun s => [s.size]) (fun s => s.size + 1) (fun s => s.size ≤ maxLen) := by
  refine ⟨hs, fun {H enc w base spare held fuel cs x} h => ?_⟩
  obtain ⟨s, rfl, rfl, hw⟩ := DataW.trod_string ht h
  refine ⟨s, rfl, ?_, ?_, hw⟩
  · intro n hn
    rw [List.mem_singleton] at hn
    refine .inr ⟨s.data.toList.length, by rw [DataW.weights]; exact List.mem_singleton.2 rfl, ?_⟩
    rw [hn, Array.length_toList]
    exact Nat.le_refl _
  · rw [Rows.uptoBulk, Array.length_toList]
    exact Nat.le_refl _
theorem opens_bool (ht : P.underlying t = some .bool) (hs : P.cellsOf t = 1) : Opens P t Kd.bool (fun _ => []) (fun _ => 1) (fun _ => True) := by
  refine ⟨hs, fun {H enc w base spare held fuel cs x} h => ?_⟩
  obtain ⟨b, rfl, rfl⟩ := DataW.trod_bool ht h
  exact ⟨b, rfl, fun _ h => absurd h (by simp), by rw [Rows.uptoBulk] <;> simp, trivial⟩
theorem opens_int {k : IntKind} (ht : P.underlying t = some (.int k)) (hs : P.cellsOf t = 1) : Opens P t (Kd.int k) (fun _ => []) (fun _ => 1) (fun n => (Lit.int k n).wf = true) := by
  refine ⟨hs, fun {H enc w base spare held fuel cs x} h => ?_⟩
  obtain ⟨n, rfl, rfl, hw⟩ := DataW.trod_int ht h
  exact ⟨n, rfl, fun _ h => absurd h (by simp), by rw [Rows.uptoBulk] <;> simp, hw⟩

theorem list_of {Q : Nat → α → Prop} : ∀ (n : Nat), (∀ i, i < n → ∃ a, Q i a) → ∃ ys : List α, ys.length = n ∧ ∀ i a, ys[i]? = some a → Q i a
  | 0, _ => ⟨[], rfl, fun i a h => by simp at h⟩
  | n + 1, h => by
    obtain ⟨ys, hl, hq⟩ := list_of n (fun i hi => h i (by omega))
    obtain ⟨a, ha⟩ := h n (by omega)
    refine ⟨ys ++ [a], by simp [hl], fun i b hb => ?_⟩
    rcases Nat.lt_or_ge i n with hi | hi
    · rw [List.getElem?_append_left (by omega)] at hb
      exact hq i b hb
    · have : i < (ys ++ [a]).length := (List.getElem?_eq_some_iff.1 hb).1
      simp [hl] at this
      have e : i = n := by omega
      subst e
      rw [List.getElem?_append_right (by omega), hl, Nat.sub_self] at hb
      simp at hb
      subst hb
      exact ha
theorem sum_le_range (ys : List α) (Bk : α → Nat) (b : Nat → Nat) (h : ∀ i a, ys[i]? = some a → Bk a ≤ b i) : (ys.map Bk).sum ≤ ((List.range ys.length).map b).sum := by
  induction ys generalizing b with
  | nil => simp
  | cons a ys ih =>
    have h0 := h 0 a rfl
    have h1 := ih (fun i => b (i + 1)) (fun i a ha => h (i + 1) a (by simpa using ha))
    rw [List.length_cons, List.range_succ_eq_map, List.map_cons, List.sum_cons, List.map_cons, List.sum_cons, List.map_map]
    have e : (List.map (b ∘ Nat.succ) (List.range ys.length)) = List.map (fun i => b (i + 1)) (List.range ys.length) := rfl
    rw [e]
    omega
theorem bulkAll_sum {H : Type} (l : List (DataW H)) : Rows.uptoBulkAll l = (l.map Rows.uptoBulk).sum := by
  induction l with
  | nil => rfl
  | cons d l ih => rw [Rows.uptoBulkAll, ih, List.map_cons, List.sum_cons]
theorem weightsAll_mem {H : Type} {e : TypeId} : ∀ (l : List (DataW H)) (d : DataW H), d ∈ l → ∀ m ∈ d.weights P e, m ∈ DataW.weightsAll P e l
  | [], d, h => absurd h (by simp)
  | d' :: l, d, h => by
    intro m hm
    rw [DataW.weightsAll, List.mem_append]
    rcases List.mem_cons.1 h with rfl | h
    · exact .inl hm
    · exact .inr (weightsAll_mem l d h m hm)

theorem opens_slice {e : TypeId} {d : Kd α} {Wt : α → List Nat} {Bk : α → Nat} {Gd : α → Prop} (ht : P.underlying t = some (.slice e)) (hs : P.cellsOf t = 1) (he : Opens P e d Wt Bk Gd) :
    Opens P t (Kd.slice e d) (fun xs => (xs.length * P.bytesOf e) :: xs.flatMap Wt) (fun xs => (xs.map Bk).sum + 1) (fun xs => xs.length ≤ maxLen ∧ ∀ x ∈ xs, Gd x) := by
  refine ⟨hs, fun {H enc w base spare held fuel cs x} h => ?_⟩
  rcases open_slice ht h with ⟨rfl, rfl⟩ | ⟨a, len, cap, m, n, D, Pl, rfl, hb, hl, hm, hmm, rfl, hx⟩
  · exact ⟨[], ⟨none, 0, rfl, Nat.le_refl _, Kd.C_nil d w⟩, fun n hn => .inl (by simpa using hn), by rw [Rows.uptoBulk]; simp, by simp, by simp⟩
  · have hlm : len ≤ m := by rw [hmm]; split <;> omega
    have each : ∀ i, i < len → ∃ b : α, (∃ cs', w.cells? base (a.add (i * P.cellsOf e)) (P.cellsOf e) = some cs' ∧ d.K w b cs') ∧ (∀ q ∈ Wt b, q = 0 ∨ ∃ r ∈ (D i).weights P e, q ≤ r) ∧ Bk b ≤ Rows.uptoBulk (D i) ∧ Gd b := by
      intro i hi
      obtain ⟨cs', h1, h2⟩ := hx i (by omega)
      obtain ⟨b, hK, hw, hk, hg⟩ := he.out h2
      exact ⟨b, ⟨cs', h1, hK⟩, hw, hk, hg⟩
    obtain ⟨ys, hal, has⟩ := list_of len each
    subst hal
    refine ⟨ys, ⟨some a, cap, rfl, hl, rfl, by unfold maxLen at hm; omega, fun hp => ⟨a, rfl, fun j p hj => ?_⟩⟩, ?_, ?_, by omega, ?_⟩
    · obtain ⟨⟨cs', h1, hK⟩, _⟩ := has j p hj
      refine ⟨cs', d.K_len hK, hK, fun i u hu => ?_⟩
      have hc := World.cells?_some h1
      rw [he.sz] at hc
      obtain ⟨hc0, hc1, hc2⟩ := hc
      have hi : i < d.sz := by rw [← d.K_len hK]; exact (List.getElem?_eq_some_iff.1 hu).1
      have := hc2 i (by omega)
      rw [hu] at this
      rw [Go.Deep.add_add] at this
      exact this
    · intro q hq
      rw [List.mem_cons, List.mem_flatMap] at hq
      have hwt : (DataW.slice ((List.range ys.length).map D) ((List.range (m - ys.length)).map fun j => D (ys.length + j)) : DataW H).weights P t = (((List.range ys.length).map D).length + ((List.range (m - ys.length)).map fun j => D (ys.length + j)).length) * P.bytesOf e :: (DataW.weightsAll P e ((List.range ys.length).map D) ++ DataW.weightsAll P e ((List.range (m - ys.length)).map fun j => D (ys.length + j))) := by
        rw [DataW.weights, ht]
      show q = 0 ∨ ∃ r ∈ (DataW.slice ((List.range ys.length).map D) ((List.range (m - ys.length)).map fun j => D (ys.length + j)) : DataW H).weights P t, q ≤ r
      rw [hwt]
      rcases hq with rfl | ⟨b, hbm, hq⟩
      · refine .inr ⟨_, List.mem_cons_self, ?_⟩
        refine Nat.mul_le_mul_right _ ?_
        simp
      · obtain ⟨i, hi⟩ := List.getElem?_of_mem hbm
        have hil : i < ys.length := (List.getElem?_eq_some_iff.1 hi).1
        obtain ⟨_, hw, _⟩ := has i b hi
        rcases hw q hq with h0 | ⟨r, hr, hqr⟩
        · exact .inl h0
        · exact .inr ⟨r, List.mem_cons_of_mem _ (List.mem_append_left _ (weightsAll_mem _ (D i) (List.mem_map.2 ⟨i, List.mem_range.2 hil, rfl⟩) r hr)), hqr⟩
    · show _ ≤ Rows.uptoBulk (DataW.slice ((List.range ys.length).map D) ((List.range (m - ys.length)).map fun j => D (ys.length + j)) : DataW H)
      rw [Rows.uptoBulk, bulkAll_sum, List.map_map]
      have := sum_le_range ys Bk (fun i => Rows.uptoBulk (D i)) (fun i b hb => (has i b hb).2.2.1)
      have e2 : (List.map (Rows.uptoBulk ∘ D) (List.range ys.length)) = List.map (fun i => Rows.uptoBulk (D i)) (List.range ys.length) := rfl
      rw [e2]
      omega
    · intro b hbm
      obtain ⟨i, hi⟩ := List.getElem?_of_mem hbm
      exact (has i b hi).2.2.2

/-- Fields, from a place on. -/
structure OpensF (P : Program) (fs : List Field) (off : Nat) (d : Kd α) (Wt : α → List Nat) (Bk : α → Nat) (Gd : α → Prop) : Prop where
  out : ∀ {H : Type} {enc : TypeId × Value → H} {w : World} {base : Nat} {spare : Nat → Bool} {held : Bool} {fuel : Nat} {cs : List Value} {xs : List (DataW H × List MemPlace)},
    cs.length = off + d.sz → xs.length = fs.length → (∀ (i : Nat) (f : Field), fs[i]? = some f → DataW.trod enc P w base spare held fuel f.type ((cs.drop f.offset).take (P.cellsOf f.type)) = xs[i]?) →
    ∃ a, d.K w a (cs.drop off) ∧ (∀ n ∈ Wt a, n = 0 ∨ ∃ m ∈ DataW.weightsEach P (fs.map (·.type)) (xs.map (·.1)), n ≤ m) ∧ Bk a ≤ Rows.uptoBulkAll (xs.map (·.1)) ∧ Gd a
theorem opensF_one {f : Field} {off : Nat} {d : Kd α} {Wt : α → List Nat} {Bk : α → Nat} {Gd : α → Prop} (ho : f.offset = off) (he : Opens P f.type d Wt Bk Gd) : OpensF P [f] off d Wt Bk Gd := by
  refine ⟨fun {H enc w base spare held fuel cs xs} hc hl h => ?_⟩
  match xs, hl with
  | [x], _ =>
    have h0 := h 0 f rfl
    rw [ho, he.sz, List.take_of_length_le (by rw [List.length_drop]; omega)] at h0
    obtain ⟨a, hK, hw, hb, hg⟩ := he.out h0
    refine ⟨a, hK, fun n hn => ?_, ?_, hg⟩
    · rcases hw n hn with h | ⟨m, hm, hle⟩
      · exact .inl h
      · refine .inr ⟨m, ?_, hle⟩
        simp only [List.map_cons, List.map_nil, DataW.weightsEach, List.append_nil]
        exact hm
    · simp only [List.map_cons, List.map_nil, Rows.uptoBulkAll]
      omega
theorem opensF_cons {f : Field} {fs : List Field} {off : Nat} {d : Kd α} {d' : Kd β} {Wt : α → List Nat} {Bk : α → Nat} {Gd : α → Prop} {Wt' : β → List Nat} {Bk' : β → Nat} {Gd' : β → Prop}
    (ho : f.offset = off) (he : Opens P f.type d Wt Bk Gd) (hr : OpensF P fs (off + d.sz) d' Wt' Bk' Gd') :
    OpensF P (f :: fs) off (Kd.pair d d') (fun x => Wt x.1 ++ Wt' x.2) (fun x => Bk x.1 + Bk' x.2) (fun x => Gd x.1 ∧ Gd' x.2) := by
  refine ⟨fun {H enc w base spare held fuel cs xs} hc hl h => ?_⟩
  have hsz : (Kd.pair d d').sz = d.sz + d'.sz := rfl
  rw [hsz] at hc
  match xs, hl with
  | x :: xs, hl =>
    have h0 := h 0 f rfl
    rw [ho, he.sz] at h0
    obtain ⟨a, hK, hw, hb, hg⟩ := he.out h0
    obtain ⟨b, hK', hw', hb', hg'⟩ := hr.out (enc := enc) (w := w) (base := base) (spare := spare) (held := held) (fuel := fuel) (cs := cs) (xs := xs) (by omega) (by simpa using hl) (fun i f' hf => by simpa using h (i + 1) f' (by simpa using hf))
    refine ⟨(a, b), ⟨(cs.drop off).take d.sz, cs.drop (off + d.sz), ?_, hK, hK'⟩, fun n hn => ?_, ?_, hg, hg'⟩
    · rw [← List.drop_drop, List.take_append_drop]
    · simp only [List.map_cons, DataW.weightsEach, List.mem_append]
      rcases List.mem_append.1 hn with hn | hn
      · rcases hw n hn with h | ⟨m, hm, hle⟩
        · exact .inl h
        · exact .inr ⟨m, .inl hm, hle⟩
      · rcases hw' n hn with h | ⟨m, hm, hle⟩
        · exact .inl h
        · exact .inr ⟨m, .inr hm, hle⟩
    · simp only [List.map_cons, Rows.uptoBulkAll]
      omega
theorem opens_struct {fs : Array Field} {d : Kd α} {Wt : α → List Nat} {Bk : α → Nat} {Gd : α → Prop} (ht : P.underlying t = some (.struct fs)) (hs : P.cellsOf t = d.sz) (he : OpensF P fs.toList 0 d Wt Bk Gd) :
    Opens P t d Wt (fun a => Bk a + 1) Gd := by
  refine ⟨hs, fun {H enc w base spare held fuel cs x} h => ?_⟩
  obtain ⟨xs, n, rfl, rfl, hl, hl2, hx⟩ := DataW.trod_struct ht h
  obtain ⟨a, hK, hw, hb, hg⟩ := he.out (enc := enc) (w := w) (base := base) (spare := spare) (held := held) (fuel := n) (cs := cs) (xs := xs) (by omega) (by simpa using hl2) (fun i f hf => hx i f (by simpa using hf))
  refine ⟨a, by simpa using hK, fun n hn => ?_, ?_, hg⟩
  · rcases hw n hn with h | ⟨m, hm, hle⟩
    · exact .inl h
    · refine .inr ⟨m, ?_, hle⟩
      show m ∈ (DataW.agg (xs.map (·.1))).weights P t
      rw [DataW.weights, ht]
      exact hm
  · show _ ≤ Rows.uptoBulk (DataW.agg (xs.map (·.1)))
    rw [Rows.uptoBulk]
    omega
theorem opens_iso {d : Kd α} {Wt : α → List Nat} {Bk : α → Nat} {Gd : α → Prop} (f : β → α) (g : α → β) (hfg : ∀ a, f (g a) = a) (h : Opens P t d Wt Bk Gd) : Opens P t (Kd.iso d f) (fun b => Wt (f b)) (fun b => Bk (f b)) (fun b => Gd (f b)) := by
  refine ⟨h.sz, fun {H enc w base spare held fuel cs x} hx => ?_⟩
  obtain ⟨a, hK, hw, hb, hg⟩ := h.out hx
  refine ⟨g a, ?_, ?_, ?_, ?_⟩
  · show d.K w (f (g a)) cs
    rw [hfg]; exact hK
  · rw [hfg]; exact hw
  · rw [hfg]; exact hb
  · rw [hfg]; exact hg

/-- At an argument: its weights are within the reach. -/
theorem arg {H : Type} {enc : TypeId × Value → H} {w : World} {base : Nat} {spare : Nat → Bool} {held : Bool} {v : Value} {dd : DataW H} {ps : List MemPlace} {d : Kd α} {Wt : α → List Nat} {Bk : α → Nat} {Gd : α → Prop} (h : Opens P t d Wt Bk Gd)
    (hx : DataW.Trod enc P w base spare held t v dd ps) : ∃ a, d.K w a v.cells.toList ∧ (∀ n ∈ Wt a, n = 0 ∨ ∃ m ∈ dd.weights P t, n ≤ m) ∧ Bk a ≤ Rows.uptoBulk dd ∧ Gd a := by
  obtain ⟨fuel, hf⟩ := hx
  obtain ⟨a, h1, h2, h3, h4⟩ := h.out hf
  exact ⟨a, h1, h2, h3, h4⟩
/-- Each weight of an argument is within the reach of the form. -/
theorem reach {H : Type} {ts : List TypeId} {ds : List (DataW H)} (h : (DataW.weightsEach P ts ds).all (· ≤ reachBytes) = true) {j : Nat} {t : TypeId} {dd : DataW H} (ht : ts[j]? = some t) (hd : ds[j]? = some dd) {l : List Nat}
    (hw : ∀ n ∈ l, n = 0 ∨ ∃ m ∈ dd.weights P t, n ≤ m) : ∀ n ∈ l, n ≤ 140737488351232 := by
  intro n hn
  rcases hw n hn with h0 | ⟨m, hm, hle⟩
  · omega
  · have := DataW.weights_mem_each ht hd m hm
    rw [List.all_eq_true] at h
    have h1 := of_decide_eq_true (h m this)
    unfold reachBytes at h1
    omega
end
end Go.Proofs.YtglhbbijoeeclaaDoor.Opens
/- Arrays of numbers, opened; SHA-256's tables out of the row's condition. -/
set_option linter.unusedVariables false
set_option linter.unusedSimpArgs false
namespace Go.Proofs.YtglhbbijoeeclaaDoor.Sha
open Go Go.RowKit Go.Proofs.YtglhbbijoeeclaaDoorW.PrintWords Go.Proofs.YtglhbbijoeeclaaDoor.Bytes

section
variable {H : Type} {enc : TypeId × Value → H} {P : Program} {w : World} {base : Nat} {spare : Nat → Bool} {held : Bool} {fuel : Nat} {t : TypeId} {cs : List Value} {x : DataW H × List MemPlace}
/-- An array of whole numbers: its cells, its data. -/
theorem open_ints {k : IntKind} {n : Nat} {e : TypeId} (ht : P.underlying t = some (.array n e)) (he : P.underlying e = some (.int k)) (hc : P.cellsOf e = 1) (hct : P.cellsOf t = n)
    (h : DataW.trod enc P w base spare held fuel t cs = some x) :
    ∃ l : List Int, l.length = n ∧ cs = l.map (fun i => Value.int k i) ∧ x = (.agg (l.map fun i => .lit (.int k i)), []) ∧ ∀ i ∈ l, (Lit.int k i).wf = true := by
  obtain ⟨xs, m, rfl, rfl, hl, hx, hr⟩ := DataW.trod_array ht h
  rw [hct] at hl
  have each : ∀ i, i < n → ∃ z : Int, cs[i]? = some (.int k z) ∧ xs[i]? = some (.lit (.int k z), []) ∧ (Lit.int k z).wf = true := by
    intro i hi
    have h2 := hr i hi
    rw [hc, Nat.mul_one, List.getElem?_eq_getElem (by omega), List.drop_eq_getElem_cons (by omega), List.take_succ_cons, List.take_zero] at h2
    obtain ⟨z, h3, h4, h5⟩ := DataW.trod_int he h2
    refine ⟨z, ?_, ?_, h5⟩
    · rw [List.getElem?_eq_getElem (by omega)]
      injection h3 with h3 _
      rw [h3]
    · rw [List.getElem?_eq_getElem (by omega), h4]
  obtain ⟨l, hll, hla⟩ := Opens.list_of n each
  have at_ : ∀ i, i < n → ∃ z, l[i]? = some z ∧ cs[i]? = some (.int k z) ∧ xs[i]? = some (.lit (.int k z), []) := fun i hi => by
    have := List.getElem?_eq_getElem (l := l) (i := i) (by omega)
    exact ⟨l[i], this, (hla i _ this).1, (hla i _ this).2.1⟩
  have e1 : cs = l.map (fun i => Value.int k i) := by
    refine List.ext_getElem? fun i => ?_
    rw [List.getElem?_map]
    by_cases hi : i < n
    · obtain ⟨z, h1, h2, _⟩ := at_ i hi
      rw [h1, h2]; rfl
    · rw [List.getElem?_eq_none (by omega), List.getElem?_eq_none (by omega)]; rfl
  have e2 : xs = l.map (fun i => ((.lit (.int k i), []) : DataW H × List MemPlace)) := by
    refine List.ext_getElem? fun i => ?_
    rw [List.getElem?_map]
    by_cases hi : i < n
    · obtain ⟨z, h1, _, h3⟩ := at_ i hi
      rw [h1, h3]; rfl
    · rw [List.getElem?_eq_none (by omega), List.getElem?_eq_none (by omega)]; rfl
  refine ⟨l, hll, e1, ?_, fun i hi => ?_⟩
  · rw [e2, List.map_map]
    congr 1
    clear e2 e1 at_ hla hll
    induction l with
    | nil => rfl
    | cons a l ih => rw [List.map_cons, List.flatMap_cons, ih]; rfl
  · obtain ⟨j, hj⟩ := List.getElem?_of_mem hi
    exact (hla j i hj).2.2
end
/-- Numbers within a byte's range are bytes. -/
theorem bytes_of (l : List Int) (h : ∀ i ∈ l, (Lit.int .u8 i).wf = true) : ∃ d : List UInt8, l = d.map B := by
  refine ⟨l.map fun i => UInt8.ofNat i.toNat, ?_⟩
  rw [List.map_map]
  conv => lhs; rw [← List.map_id l]
  refine List.map_congr_left fun i hi => ?_
  have := bounds_u8 (h i hi)
  show i = ((UInt8.ofNat i.toNat).toNat : Int)
  rw [UInt8.toNat_ofNat']
  omega
theorem lits_inj {k : IntKind} {a b : List Int} (h : (DataW.agg (a.map fun i => .lit (.int k i)) : DataW Unit) = .agg (b.map fun i => .lit (.int k i))) : a = b := by
  injection h with h
  have hinj : Function.Injective (fun i : Int => (DataW.lit (.int k i) : DataW Unit)) := fun x y hxy => by injection hxy with hxy; injection hxy
  exact List.map_inj_right (fun x y hxy => hinj hxy) |>.1 h
theorem rounds_data : (Rows.laid_depot_sha_rounds : DataW Unit) = .agg ((K.map U).map fun i => .lit (.int .u32 i)) := by kernel_rfl
theorem start_data : (Rows.laid_depot_sha_start : DataW Unit) = .agg (([H0.a, H0.b, H0.c, H0.d, H0.e, H0.f, H0.g, H0.k].map U).map fun i => .lit (.int .u32 i)) := by kernel_rfl
theorem gType0 : (Tryd.prog.globals[0]?).map (·.type) = some 70 := by kernel_rfl
theorem gType1 : (Tryd.prog.globals[1]?).map (·.type) = some 85 := by kernel_rfl
/-- One listed table, in the heap. -/
theorem table {w : World} {nm : String} {g n : Nat} {tt e : TypeId} {ws : List Int} {d : DataW Unit} {t : TypeId} {cs : Array Value} {fuel gg : Nat} {p ps : List MemPlace} (hg : Tryd.prog.globalNamed nm = some g) (hgt : (Tryd.prog.globals[g]?).map (·.type) = some tt)
    (htu : Tryd.prog.underlying tt = some (.array n e)) (heu : Tryd.prog.underlying e = some (.int .u32)) (hce : Tryd.prog.cellsOf e = 1) (hct : Tryd.prog.cellsOf tt = n) (hn : 0 < n) (hd : d = .agg (ws.map fun i => .lit (.int .u32 i)))
    (h1 : Tryd.prog.globalNamed nm = some gg) (h2 : (Tryd.prog.globals[gg]?).map (·.type) = some t) (h3 : w.var? Tryd.prog nm = some cs) (h4 : DataW.trod (fun _ => ()) Tryd.prog w 0 (fun _ => true) false fuel t cs.toList = some (d, p))
    (hp : ∀ off, off < cs.size → MemPlace.cell g off ∈ ps) (hall : ∀ b off, MemPlace.cell b off ∈ ps → (∃ c t, w.heap[b]? = some (.cells c t (0, 0)))) :
    ∃ t, w.heap[g]? = some (.cells (ws.map fun i => Value.int .u32 i).toArray t (0, 0)) := by
  rw [hg] at h1
  injection h1 with h1
  subst h1
  rw [hgt] at h2
  injection h2 with h2
  subst h2
  obtain ⟨l, hll, hcs, hx, _⟩ := open_ints htu heu hce hct h4
  injection hx with hx _
  rw [hd] at hx
  have := lits_inj hx
  subst this
  have hsz : cs.size = n := by rw [← Array.length_toList, hcs, List.length_map, hll]
  obtain ⟨c, t, hc⟩ := hall g 0 (hp 0 (by omega))
  unfold World.var? at h3
  rw [hg] at h3
  have h3' : (match w.heap[g]? with | some (.cells cs _ _) => some cs | _ => none) = some cs := h3
  rw [hc] at h3'
  injection h3' with h3'
  subst h3'
  refine ⟨t, ?_⟩
  rw [hc]
  congr 2
  exact Array.toList_inj.1 hcs
theorem row_mem (g : Nat) (n : Nat) : ∀ off, off < n → MemPlace.cell g off ∈ MemPlace.row ⟨g, 0, none⟩ n := by
  intro off h
  unfold MemPlace.row
  refine List.mem_map.2 ⟨off, List.mem_range.2 h, ?_⟩
  simp [Addr.add]
/-- The row's condition gives the tables. -/
theorem glob_of {w : World} (h : laidMetH Tryd.prog Door.laid2 w) : Glob w := by
  have h' : laidMet Tryd.prog Door.laid2 w := h
  obtain ⟨ps, ⟨g1, t1, cs1, fuel1, p1, q1, a1, b1, c1, d1, ⟨g2, t2, cs2, fuel2, p2, q2, a2, b2, c2, d2, hq2, rfl⟩, rfl⟩, _, hall⟩ := h'
  have e1 : g1 = 1 := Option.some.inj (a1.symm.trans Door.gRounds)
  have e2 : g2 = 0 := Option.some.inj (a2.symm.trans Door.gStart)
  have r1 := table (n := 64) (e := 69) (ws := K.map U) Door.gRounds gType1 Tryd.underlying85 Tryd.underlying69 (by kernel_rfl) (by kernel_rfl) (by omega) rounds_data a1 b1 c1 d1 (fun off ho => by
    subst e1
    exact List.mem_append_left _ (List.mem_append_left _ (row_mem _ _ off ho))) (fun b off hb => (hall b off hb).1)
  have r2 := table (n := 8) (e := 69) (ws := [H0.a, H0.b, H0.c, H0.d, H0.e, H0.f, H0.g, H0.k].map U) Door.gStart gType0 Tryd.underlying70 Tryd.underlying69 (by kernel_rfl) (by kernel_rfl) (by omega) start_data a2 b2 c2 d2 (fun off ho => by
    subst e2
    exact List.mem_append_right _ (List.mem_append_left _ (List.mem_append_left _ (row_mem _ _ off ho)))) (fun b off hb => (hall b off hb).1)
  refine ⟨?_, ?_⟩
  · obtain ⟨t, ht⟩ := r1
    exact ⟨t, by rw [ht, List.map_map]; rfl⟩
  · obtain ⟨t, ht⟩ := r2
    exact ⟨t, ht⟩
end Go.Proofs.YtglhbbijoeeclaaDoor.Sha
