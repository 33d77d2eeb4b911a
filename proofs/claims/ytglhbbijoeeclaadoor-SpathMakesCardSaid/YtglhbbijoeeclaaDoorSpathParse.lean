/- A store path, parsed: the program and the document answer the same. -/
import Derived.Test.YtglhbbijoeeclaaDoorSpathPure
import Derived.Test.YtglhbbijoeeclaaDoorQ15
set_option linter.unusedVariables false
set_option linter.unusedSimpArgs false
namespace Go.Proofs.YtglhbbijoeeclaaDoor.SpathPure
open Go.RowKit Go.Proofs.YtglhbbijoeeclaaDoor.Q Go.Proofs.YtglhbbijoeeclaaDoorW.PrintWords Go.Proofs.YtglhbbijoeeclaaDoorW.PrintLast Go.Proofs.YtglhbbijoeeclaaDoorW.PrintMore Go.Proofs.YtglhbbijoeeclaaDoor.Bytes Go.Proofs.YtglhbbijoeeclaaDoor.Evs Go.Proofs.YtglhbbijoeeclaaDoor.B32

def DIR : ByteArray := ⟨#[47, 100, 101, 112, 111, 116, 47, 115, 116, 111, 114, 101, 47]⟩
def dirL : List UInt8 := [47, 100, 101, 112, 111, 116, 47, 115, 116, 111, 114, 101, 47]
def isPath0 (l : List UInt8) : Prop := dirL <+: l ∧ 46 ≤ l.length ∧ l[45]? = some 45
instance (l : List UInt8) : Decidable (isPath0 l) := by unfold isPath0; infer_instance
def nil3 (n : Int) : ByteArray × ByteArray × Int := (⟨#[]⟩, ⟨#[]⟩, n)
def parseB (s : ByteArray) : ByteArray × ByteArray × Int :=
  if isPath0 (bs s) then
    if hashNo (bs (s.extract 13 45)) = 0 then
      if labelNo (bs (s.extract 46 s.size)) = 0 then (s.extract 13 45, s.extract 46 s.size, 0) else nil3 (labelNo (bs (s.extract 46 s.size)))
    else nil3 (hashNo (bs (s.extract 13 45)))
  else nil3 132

theorem hasPrefix (a b : ByteArray) : stringslite_HasPrefix.f a b = some (decide (bs b <+: bs a)) := by
  unfold stringslite_HasPrefix.f
  simp only [toList_bs, bs_extract, size_bs]
  have e : ((((bs b).length : Int) : Int).toNat) = (bs b).length := by omega
  rw [e]
  simp only [List.drop_zero, Nat.sub_zero]
  by_cases h : (bs b).length ≤ (bs a).length
  · rw [if_pos (by omega), if_pos (by omega), if_pos (by omega)]
    rw [Option.some.injEq, Bool.eq_iff_iff]
    simp only [beq_iff_eq, decide_eq_true_eq]
    rw [List.prefix_iff_eq_take]
    exact eq_comm
  · rw [if_neg (by omega), Option.some.injEq]
    symm
    rw [decide_eq_false_iff_not]
    intro hp
    exact h hp.length_le
theorem cutDir (s : ByteArray) : strings_CutPrefix.f s DIR = some (if dirL <+: bs s then (s.extract 13 s.size, true) else (s, false)) := by
  unfold strings_CutPrefix.f stringslite_CutPrefix.f
  rw [hasPrefix]
  have e : bs DIR = dirL := rfl
  have z : DIR.size = 13 := rfl
  rw [e]
  simp only [Option.bind_some]
  by_cases h : dirL <+: bs s
  · have hl := h.length_le
    have z2 : dirL.length = 13 := rfl
    rw [if_pos (decide_eq_true h), if_pos h, z, if_pos (by omega), if_pos (by rw [size_bs]; omega)]
    rfl
  · rw [if_neg (by rw [decide_eq_true_iff]; exact h), if_neg h]
    rfl
theorem head_part (s : ByteArray) : (s.extract 13 s.size).extract 0 32 = s.extract 13 45 := by
  apply bs_inj
  simp only [bs_extract, List.drop_zero, Nat.sub_zero, List.take_take]
  rw [show s.size - 13 = ((bs s).drop 13).length by rw [List.length_drop, ← size_bs]]
  rw [Nat.min_def]
  split
  · rfl
  · rw [List.take_length, List.take_of_length_le (by omega)]
theorem tail_part (s : ByteArray) : (s.extract 13 s.size).extract 33 (s.extract 13 s.size).size = s.extract 46 s.size := by
  apply bs_inj
  rw [size_bs (s.extract 13 s.size)]
  simp only [bs_extract]
  rw [show s.size - 13 = ((bs s).drop 13).length by rw [List.length_drop, ← size_bs], List.take_length, List.drop_drop]
  rw [List.take_of_length_le (by simp only [List.length_drop]; omega), List.take_of_length_le (by rw [List.length_drop, size_bs]; omega)]
theorem size_rest (s : ByteArray) : (s.extract 13 s.size).size = s.size - 13 := by
  rw [size_bs, bs_extract, List.length_take, List.length_drop, ← size_bs]
  omega

theorem rest_get (s : ByteArray) (h : 46 ≤ (bs s).length) : (bs (s.extract 13 s.size))[32]? = some ((bs s)[45]'(by omega)) := by
  rw [bs_extract, List.getElem?_take, if_pos (by rw [size_bs]; omega), List.getElem?_drop, List.getElem?_eq_getElem (by omega)]
theorem bt_rest (s : ByteArray) (h : 46 ≤ (bs s).length) : bt (s.extract 13 s.size) 32 = (((bs s)[45]'(by omega)).toNat : Int) := by
  rw [bt_bs, show ((32 : Int)).toNat = 32 from rfl, List.getD_eq_getElem?_getD, rest_get s h]
  rfl
theorem prog_parse (s : ByteArray) (hs : (bs s).length ≤ 140737488355000) : Ev (fun k => spath_Parse.f k s) (parseB s) := by
  unfold spath_Parse.f
  refine call (cutDir s) ?_
  unfold parseB
  by_cases hp : dirL <+: bs s
  · rw [if_pos hp]
    refine pos rfl ?_
    have hl := hp.length_le
    have z2 : dirL.length = 13 := rfl
    have hsz : s.size = (bs s).length := size_bs s
    have hr := size_rest s
    by_cases h46 : 46 ≤ (bs s).length
    · refine neg (by rw [hr]; omega) (pos (by rw [hr]; omega) ?_)
      rw [bt_rest s h46]
      refine succ ?_
      simp only [spath_Parse.j0]
      by_cases h45 : (bs s)[45]'(by omega) = 45
      · refine neg (by rw [h45]; decide) (pos (by omega) (pos (by rw [hr]; omega) (pos (by rw [hr]; omega) ?_)))
        have hy : isPath0 (bs s) := ⟨hp, h46, by rw [List.getElem?_eq_getElem (by omega), h45]⟩
        rw [if_pos hy, head_part, tail_part]
        have hL : (bs (s.extract 13 45)).length ≤ 140737488351232 := by rw [bs_extract, List.length_take]; omega
        refine Ev.bind (prog_hash _ hL) ?_
        by_cases hh : hashNo (bs (s.extract 13 45)) = 0
        · refine same (if_pos hh) (pos hh (call rfl ?_))
          by_cases hlab : labelNo (bs (s.extract 46 s.size)) = 0
          · exact pos hlab (same (if_pos hlab) (Ev.now _))
          · exact neg hlab (same (if_neg hlab) (Ev.now _))
        · exact same (if_neg hh) (neg hh (Ev.now _))
      · refine pos (by rw [bne_iff_ne]; intro e; exact h45 ((byte_eq_iff _ 45).1 e)) ?_
        have hn : ¬ isPath0 (bs s) := fun h => h45 (by
          have := h.2.2
          rw [List.getElem?_eq_getElem (by omega)] at this
          injection this)
        exact same (if_neg hn) (Ev.now _)
    · refine pos (by rw [hr]; omega) (succ ?_)
      simp only [spath_Parse.j0]
      exact pos trivial (same (if_neg (fun h => h46 h.2.1)) (Ev.now _))
  · rw [if_neg hp]
    refine neg (fun h => Bool.noConfusion h) (succ ?_)
    simp only [spath_Parse.j0]
    exact pos trivial (same (if_neg (fun h => hp h.1)) (Ev.now _))

theorem ref_parse (s : ByteArray) (hs : (bs s).length ≤ 140737488355000) : Ev (fun k => depotref13_Parse.f k s) (parseB s) := by
  unfold depotref13_Parse.f parseB
  have hsz : s.size = (bs s).length := size_bs s
  by_cases h46 : 46 ≤ (bs s).length
  · refine neg (by omega) (pos (by omega) (pos (by omega) ?_))
    have hpre : (s.extract 0 13).toList = ([47, 100, 101, 112, 111, 116, 47, 115, 116, 111, 114, 101, 47] : List UInt8) ↔ dirL <+: bs s := by
      rw [toList_bs, bs_extract, List.drop_zero, List.prefix_iff_eq_take]
      exact eq_comm
    by_cases hp : dirL <+: bs s
    · refine pos (hpre.2 hp) (pos (by omega) ?_)
      have hb : Aside0 (bt s 45 = (((bs s)[45]'(by omega)).toNat : Int)) := ⟨bt_lt s 45 (by omega)⟩
      rw [hb.out]
      refine succ ?_
      simp only [depotref13_Parse.j0]
      by_cases h45 : (bs s)[45]'(by omega) = 45
      · refine neg (by rw [h45]; decide) (pos (by omega) (pos (by omega) (pos (by omega) ?_)))
        have hy : isPath0 (bs s) := ⟨hp, h46, by rw [List.getElem?_eq_getElem (by omega), h45]⟩
        rw [if_pos hy]
        refine Ev.bind (ref_hash _) ?_
        by_cases hh : hashNo (bs (s.extract 13 45)) = 0
        · refine same (if_pos hh) (pos hh (Ev.bind (ref_label _) ?_))
          by_cases hlab : labelNo (bs (s.extract 46 s.size)) = 0
          · exact pos hlab (same (if_pos hlab) (Ev.now _))
          · exact neg hlab (same (if_neg hlab) (Ev.now _))
        · exact same (if_neg hh) (neg hh (Ev.now _))
      · refine pos (by rw [bne_iff_ne]; intro e; exact h45 ((byte_eq_iff _ 45).1 e)) ?_
        have hn : ¬ isPath0 (bs s) := fun h => h45 (by
          have := h.2.2
          rw [List.getElem?_eq_getElem (by omega)] at this
          injection this)
        exact same (if_neg hn) (Ev.now _)
    · refine neg (fun h => hp (hpre.1 h)) (succ ?_)
      simp only [depotref13_Parse.j0]
      exact pos trivial (same (if_neg (fun h => hp h.1)) (Ev.now _))
  · refine pos (by omega) (succ ?_)
    simp only [depotref13_Parse.j0]
    exact pos trivial (same (if_neg (fun h => h46 h.2.1)) (Ev.now _))

theorem awake : Ev (fun k => depotlaw13_awake.f k) true := by
  unfold depotlaw13_awake.f
  refine Ev.bind (prog_parse _ (by decide)) (Ev.bind (prog_parse _ (by decide)) ?_)
  have e1 : (parseB ⟨#[47, 100, 101, 112, 111, 116, 47, 115, 116, 111, 114, 101, 47, 48, 49, 50, 51, 52, 53, 54, 55, 56, 57, 97, 98, 99, 100, 102, 103, 104, 105, 106, 107, 108, 109, 110, 112, 113, 114, 115, 118, 119, 120, 121, 122, 45, 97, 46, 98]⟩).1 = ⟨#[48, 49, 50, 51, 52, 53, 54, 55, 56, 57, 97, 98, 99, 100, 102, 103, 104, 105, 106, 107, 108, 109, 110, 112, 113, 114, 115, 118, 119, 120, 121, 122]⟩ := by decide +kernel
  have e2 : (parseB ⟨#[47, 100, 101, 112, 111, 116, 47, 115, 116, 111, 114, 101, 47, 48, 49, 50, 51, 52, 53, 54, 55, 56, 57, 97, 98, 99, 100, 102, 103, 104, 105, 106, 107, 108, 109, 110, 112, 113, 114, 115, 118, 119, 120, 121, 122, 45, 97, 46, 98]⟩).2.1 = ⟨#[97, 46, 98]⟩ := by decide +kernel
  have e3 : (parseB ⟨#[47, 100, 101, 112, 111, 116, 47, 115, 116, 111, 114, 101, 47, 48, 49, 50, 51, 52, 53, 54, 55, 56, 57, 97, 98, 99, 100, 102, 103, 104, 105, 106, 107, 108, 109, 110, 112, 113, 114, 115, 118, 119, 120, 121, 122, 45, 97, 46, 98]⟩).2.2 = 0 := by decide +kernel
  have e4 : (parseB ⟨#[47, 100, 101, 112, 111, 116, 47, 115, 116, 111, 114, 101, 47, 48, 49, 50, 51, 52, 53, 54, 55, 56, 57, 97, 98, 99, 100, 102, 103, 104, 105, 106, 107, 108, 109, 110, 112, 113, 114, 115, 118, 119, 120, 121, 122, 45]⟩).2.2 = 130 := by decide +kernel
  rw [e1, e2, e3, e4]
  refine pos (by rw [toList_bs]; rfl) (pos (by rw [toList_bs]; rfl) (pos rfl ?_))
  exact Ev.now _
end Go.Proofs.YtglhbbijoeeclaaDoor.SpathPure
