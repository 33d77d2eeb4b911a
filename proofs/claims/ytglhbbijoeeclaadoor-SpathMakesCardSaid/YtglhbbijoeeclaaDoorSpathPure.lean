/- The program's and the document's words on store paths, in plain words. -/
import Derived.Test.YtglhbbijoeeclaaDoorQ14
import Derived.Test.YtglhbbijoeeclaaDoorQ10
import Derived.Test.YtglhbbijoeeclaaDoorQ41
import Derived.Test.YtglhbbijoeeclaaDoorQ40
import Derived.Test.YtglhbbijoeeclaaDoorQ38
import Derived.Test.YtglhbbijoeeclaaDoorQ39
import Derived.Test.YtglhbbijoeeclaaDoorQ37
import Derived.Test.YtglhbbijoeeclaaDoorExtLabel
import Derived.Test.YtglhbbijoeeclaaDoorB32
set_option linter.unusedVariables false
set_option linter.unusedSimpArgs false
namespace Go.Proofs.YtglhbbijoeeclaaDoor.SpathPure
open Go.RowKit Go.Proofs.YtglhbbijoeeclaaDoor.Q Go.Proofs.YtglhbbijoeeclaaDoorW.PrintWords Go.Proofs.YtglhbbijoeeclaaDoorW.PrintLast Go.Proofs.YtglhbbijoeeclaaDoorW.PrintMore Go.Proofs.YtglhbbijoeeclaaDoor.Bytes Go.Proofs.YtglhbbijoeeclaaDoor.Evs Go.Proofs.YtglhbbijoeeclaaDoor.B32

/-! ### the hash -/
def hashNo (l : List UInt8) : Int := if l.length = 32 ∧ ∀ c ∈ l, 0 ≤ val c then 0 else 131
theorem prog_hash (s : ByteArray) (hs : (bs s).length ≤ 140737488351232) : Ev (fun k => spath_CheckHash.f k s) (hashNo (bs s)) := by
  have hb := fromBase32 s hs
  unfold spath_CheckHash.f
  by_cases h : (bs s).length = 32
  · refine pos (by rw [size_bs]; omega) ?_
    by_cases hv : ∃ c ∈ bs s, val c < 0
    · have hn : ¬ ((bs s).length = 32 ∧ ∀ c ∈ bs s, 0 ≤ val c) := by
        rintro ⟨_, h2⟩
        obtain ⟨c, hc, hc2⟩ := hv
        have := h2 c hc
        omega
      have hd : dec (bs s) = (⟨#[]⟩, 20) := by
        unfold dec
        rw [if_neg (by rw [h]; decide), if_pos hv]
      rw [hd] at hb
      refine Ev.bind hb (neg (by decide) (same ?_ (Ev.now _)))
      unfold hashNo
      rw [if_neg hn]
    · have hy : (bs s).length = 32 ∧ ∀ c ∈ bs s, 0 ≤ val c := ⟨h, fun c hc => by
        by_cases h3 : 0 ≤ val c
        · exact h3
        · exact absurd ⟨c, hc, by omega⟩ hv⟩
      have hz : num (bs s).reverse / 256 ^ (5 * (bs s).length / 8) = 0 := by
        have := num_lt (bs s).reverse
        rw [List.length_reverse, h] at this
        rw [h]
        exact Nat.div_eq_of_lt (by rw [show (256 : Nat) ^ (5 * 32 / 8) = 32 ^ 32 by decide +kernel]; exact this)
      have hd : (dec (bs s)).2 = 0 := by
        unfold dec
        rw [if_neg (by rw [h]; decide), if_neg hv, if_pos hz]
      refine Ev.bind hb (pos hd (same ?_ (Ev.now _)))
      unfold hashNo
      rw [if_pos hy]
  · refine neg (by rw [size_bs]; omega) (same ?_ (Ev.now _))
    unfold hashNo
    rw [if_neg (fun h2 => h h2.1)]
def LT : ByteArray := ⟨#[48, 49, 50, 51, 52, 53, 54, 55, 56, 57, 97, 98, 99, 100, 102, 103, 104, 105, 106, 107, 108, 109, 110, 112, 113, 114, 115, 118, 119, 120, 121, 122]⟩
theorem val_mem (c : UInt8) : 0 ≤ val c ↔ c ∈ letters := by
  have := Lib.contains_iff_indexByte letters c
  unfold val
  rw [← List.contains_iff_mem, this, decide_eq_true_iff]
theorem ref_val_l0 (c : UInt8) (d : Nat) : ∀ i, i + d = 32 → ∃ r, Ev (fun k => depotref02_Value.l0 k (c.toNat : Int) (i : Int)) r ∧ (0 ≤ r ↔ c ∈ letters.drop i) := by
  induction d with
  | zero =>
    intro i hi
    refine ⟨-1, ?_, ?_⟩
    · refine succ ?_
      simp only [depotref02_Value.l0]
      exact neg (by omega) (Ev.now _)
    · have : letters.length = 32 := rfl
      rw [List.drop_of_length_le (by omega)]
      simp
  | succ d ih =>
    intro i hi
    have hl : (bs LT).length = 32 := rfl
    have hlt : i < (bs LT).length := by omega
    have hlt2 : i < letters.length := hlt
    have hd : letters.drop i = (bs LT)[i] :: letters.drop (i + 1) := List.drop_eq_getElem_cons hlt2
    by_cases h : (bs LT)[i] = c
    · refine ⟨(i : Int), ?_, ?_⟩
      · refine succ ?_
        simp only [depotref02_Value.l0]
        exact pos (by omega) (pos (by omega) (pos ((bt_lt LT i hlt).trans (congrArg (fun x : UInt8 => (x.toNat : Int)) h)) (Ev.now _)))
      · rw [hd, h]
        simp
    · obtain ⟨r, hr, hm⟩ := ih (i + 1) (by omega)
      refine ⟨r, ?_, ?_⟩
      · refine succ ?_
        simp only [depotref02_Value.l0]
        refine pos (by omega) (pos (by omega) (neg (fun e => h ((byte_eq_iff _ _).1 ((bt_lt LT i hlt).symm.trans e))) ?_))
        rw [wr i (by omega)]
        exact hr
      · rw [hm, hd, List.mem_cons]
        constructor
        · exact .inr
        · rintro (e | e)
          · exact absurd e.symm h
          · exact e
theorem ref_val (c : UInt8) : ∃ r, Ev (fun k => depotref02_Value.f k (c.toNat : Int)) r ∧ (0 ≤ r ↔ 0 ≤ val c) := by
  obtain ⟨r, hr, hm⟩ := ref_val_l0 c 32 0 (by omega)
  exact ⟨r, hr, by rw [hm, val_mem]; rfl⟩
theorem ref_hash_l0 (s : ByteArray) (h : (bs s).length = 32) (d : Nat) : ∀ i, i + d = 32 → Ev (fun k => depotref13_CheckHash.l0 k s (i : Int)) (if ∀ c ∈ (bs s).drop i, 0 ≤ val c then 0 else 131) := by
  induction d with
  | zero =>
    intro i hi
    refine succ ?_
    simp only [depotref13_CheckHash.l0]
    rw [List.drop_of_length_le (by omega)]
    refine neg (by omega) ?_
    exact same (if_pos (by simp)) (Ev.now _)
  | succ d ih =>
    intro i hi
    have hlt : i < (bs s).length := by omega
    obtain ⟨r, hr, hm⟩ := ref_val ((bs s)[i])
    refine succ ?_
    simp only [depotref13_CheckHash.l0]
    refine pos (by omega) (pos (by omega) (pos (by rw [size_bs]; omega) ?_))
    rw [bt_lt s i hlt]
    refine Ev.bind hr ?_
    have hd : (bs s).drop i = (bs s)[i] :: (bs s).drop (i + 1) := List.drop_eq_getElem_cons hlt
    by_cases hv : 0 ≤ val (bs s)[i]
    · refine neg (by have := hm.2 hv; omega) ?_
      rw [wr i (by omega)]
      have e : (∀ c ∈ (bs s).drop i, 0 ≤ val c) ↔ (∀ c ∈ (bs s).drop (i + 1), 0 ≤ val c) := by
        rw [hd]
        constructor
        · exact fun h2 c hc => h2 c (List.mem_cons_of_mem _ hc)
        · intro h2 c hc
          rcases List.mem_cons.1 hc with rfl | hc
          · exact hv
          · exact h2 c hc
      refine same ?_ (ih (i + 1) (by omega))
      by_cases h2 : ∀ c ∈ (bs s).drop (i + 1), 0 ≤ val c
      · rw [if_pos h2, if_pos (e.2 h2)]
      · rw [if_neg h2, if_neg (fun h3 => h2 (e.1 h3))]
    · refine pos (by
        by_cases h3 : r < 0
        · exact h3
        · exact absurd (hm.1 (by omega)) hv) ?_
      exact same (if_neg (fun h2 => hv (h2 _ (by rw [hd]; exact List.mem_cons_self)))) (Ev.now _)
theorem ref_hash (s : ByteArray) : Ev (fun k => depotref13_CheckHash.f k s) (hashNo (bs s)) := by
  unfold depotref13_CheckHash.f hashNo
  by_cases h : (bs s).length = 32
  · refine pos (by rw [size_bs]; omega) ?_
    refine same ?_ (ref_hash_l0 s h 32 0 (by omega))
    rw [List.drop_zero]
    by_cases h2 : ∀ c ∈ bs s, 0 ≤ val c
    · rw [if_pos h2, if_pos ⟨h, h2⟩]
    · rw [if_neg h2, if_neg (fun h3 => h2 h3.2)]
  · exact neg (by rw [size_bs]; omega) (same (if_neg (fun h2 => h h2.1)) (Ev.now _))

/-! ### the label -/
def LL : ByteArray := ⟨#[48, 49, 50, 51, 52, 53, 54, 55, 56, 57, 65, 66, 67, 68, 69, 70, 71, 72, 73, 74, 75, 76, 77, 78, 79, 80, 81, 82, 83, 84, 85, 86, 87, 88, 89, 90, 97, 98, 99, 100, 101, 102, 103, 104, 105, 106, 107, 108, 109, 110, 111, 112, 113, 114, 115, 116, 117, 118, 119, 120, 121, 122, 43, 45, 95, 63, 61, 46]⟩
theorem among_l0 (c : UInt8) (t : ByteArray) (ht : (bs t).length ≤ 1000) (d : Nat) : ∀ i, i + d = (bs t).length → Ev (fun k => depotref13_among.l0 k (c.toNat : Int) t (i : Int)) (((bs t).drop i).contains c) := by
  induction d with
  | zero =>
    intro i hi
    refine succ ?_
    simp only [depotref13_among.l0]
    refine neg (by rw [size_bs]; omega) ?_
    rw [List.drop_of_length_le (by omega)]
    exact Ev.now _
  | succ d ih =>
    intro i hi
    have hlt : i < (bs t).length := by omega
    have hd : (bs t).drop i = (bs t)[i] :: (bs t).drop (i + 1) := List.drop_eq_getElem_cons hlt
    refine succ ?_
    simp only [depotref13_among.l0]
    refine pos (by rw [size_bs]; omega) (pos (by omega) ?_)
    rw [bt_lt t i hlt, hd]
    by_cases h : (bs t)[i] = c
    · refine pos (by rw [h]) (same ?_ (Ev.now _))
      rw [h]; simp
    · refine neg (fun e => h ((byte_eq_iff _ _).1 e)) ?_
      rw [wr i (by omega)]
      refine same ?_ (ih (i + 1) (by omega))
      rw [List.contains_cons]
      rw [beq_eq_false_iff_ne.2 (fun e => h e.symm), Bool.false_or]
theorem lab_all : ∀ n, n < 256 → (bs LL).contains (UInt8.ofNat n) = lab (UInt8.ofNat n) := by decide +kernel
theorem lab_is (c : UInt8) : (bs LL).contains c = lab c := by
  have := lab_all c.toNat c.toNat_lt
  rw [UInt8.ofNat_toNat] at this
  exact this
theorem among_lab (c : UInt8) : Ev (fun k => depotref13_among.f k (c.toNat : Int) LL) (lab c) := by
  have := among_l0 c LL (by decide) (bs LL).length 0 (by omega)
  rw [List.drop_zero, lab_is] at this
  exact this
theorem ref_label_l0 (s : ByteArray) (hs : (bs s).length ≤ 1000) (d : Nat) : ∀ i, i + d = (bs s).length → Ev (fun k => depotref13_CheckLabel.l0 k s (i : Int)) (if (i = 0 ∧ (bs s).head? = some 46) then 130 else if ((bs s).drop i).all lab then 0 else 130) := by
  induction d with
  | zero =>
    intro i hi
    refine succ ?_
    simp only [depotref13_CheckLabel.l0]
    refine neg (by rw [size_bs]; omega) ?_
    rw [List.drop_of_length_le (by omega)]
    refine same ?_ (Ev.now _)
    rw [if_neg]
    · rfl
    · rintro ⟨h1, h2⟩
      have : bs s = [] := List.length_eq_zero_iff.1 (by omega)
      rw [this] at h2
      exact absurd h2 (by simp)
  | succ d ih =>
    intro i hi
    have hlt : i < (bs s).length := by omega
    have hd : (bs s).drop i = (bs s)[i] :: (bs s).drop (i + 1) := List.drop_eq_getElem_cons hlt
    refine succ ?_
    simp only [depotref13_CheckLabel.l0]
    refine pos (by rw [size_bs]; omega) (pos (by omega) ?_)
    rw [bt_lt s i hlt]
    refine Ev.bind (among_lab (bs s)[i]) ?_
    have ih2 := ih (i + 1) (by omega)
    rw [if_neg (fun h => by omega)] at ih2
    rw [hd, List.all_cons, wr i (by omega)]
    by_cases hl : lab (bs s)[i] = true
    · refine pos hl ?_
      rw [hl, Bool.true_and]
      by_cases h0 : i = 0
      · subst h0
        refine pos (by rfl) ?_
        have hh : (bs s).head? = some (bs s)[0] := by rw [List.head?_eq_getElem?, List.getElem?_eq_getElem hlt]
        by_cases h46 : (bs s)[0] = 46
        · exact pos (by rw [h46]; rfl) (same (if_pos ⟨rfl, by rw [hh, h46]⟩) (Ev.now _))
        · refine neg (fun e => h46 ((byte_eq_iff _ 46).1 e)) (same (if_neg (fun h => ?_)) ih2)
          rw [hh] at h
          have := h.2
          injection this with this
          exact h46 this
      · exact neg (by omega) (same (if_neg (fun h => h0 h.1)) ih2)
    · refine neg hl (same ?_ (Ev.now _))
      rw [Bool.eq_false_iff.2 hl, Bool.false_and]
      split <;> rfl
theorem ref_label (s : ByteArray) : Ev (fun k => depotref13_CheckLabel.f k s) (labelNo (bs s)) := by
  unfold depotref13_CheckLabel.f labelNo
  by_cases h0 : bs s = []
  · refine pos (by rw [size_bs, h0]; decide) (succ ?_)
    simp only [depotref13_CheckLabel.j0]
    exact pos trivial (same (if_pos (.inl h0)) (Ev.now _))
  · have hl : 0 < (bs s).length := List.length_pos_iff.2 h0
    refine neg (by rw [size_bs]; omega) (succ ?_)
    simp only [depotref13_CheckLabel.j0]
    by_cases h1 : 211 < (bs s).length
    · exact pos (decide_eq_true (by rw [size_bs]; omega)) (same (if_pos (.inr (.inl h1))) (Ev.now _))
    · refine neg (by rw [decide_eq_true_iff, size_bs]; omega) ?_
      refine same ?_ (ref_label_l0 s (by omega) (bs s).length 0 (by omega))
      rw [List.drop_zero]
      by_cases h2 : (bs s).head? = some 46
      · rw [if_pos (.inr (.inr h2)), if_pos ⟨rfl, h2⟩]
      · have n1 : ¬ (bs s = [] ∨ 211 < (bs s).length ∨ (bs s).head? = some 46) := by
          rintro (h | h | h)
          · exact h0 h
          · exact h1 h
          · exact h2 h
        have n2 : ¬ (0 = 0 ∧ (bs s).head? = some 46) := fun h => h2 h.2
        exact (if_neg n1).trans (if_neg n2).symm
end Go.Proofs.YtglhbbijoeeclaaDoor.SpathPure
