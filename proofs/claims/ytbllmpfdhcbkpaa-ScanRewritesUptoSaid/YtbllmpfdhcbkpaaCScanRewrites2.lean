/- Texts of this claim, put together: ScanAwake, Q49, Q50, Q51, Q52, ScanRefs, ExtScRw, Opens, Upto. -/
import Derived.Test.YtbllmpfdhcbkpaaCScanRewrites1
import Derived.Lib.SlBytesConst
import Derived.Test.YtbllmpfdhcbkpaaRows
import Derived.Test.YtbllmpfdhcbkpaaWWords
import Derived.Test.YtbllmpfdhcbkpaaWLast
import Derived.Deep.Slices
import Derived.ProofKit
import Derived.SizedLaws
/- The laws' awake over scan. -/
namespace Go.Proofs.Ytbllmpfdhcbkpaa.Scan
open Go.Shelf Go.RowKit Go.Proofs.Ytbllmpfdhcbkpaa.Q Go.Proofs.Ytbllmpfdhcbkpaa.Tail Go.Proofs.Ytbllmpfdhcbkpaa.OrdersBut Go.Proofs.Ytbllmpfdhcbkpaa.SpathPure Go.Proofs.Ytbllmpfdhcbkpaa.Rise Go.Proofs.YtbllmpfdhcbkpaaW.PrintWords Go.Proofs.YtbllmpfdhcbkpaaW.PrintLast Go.Proofs.YtbllmpfdhcbkpaaW.PrintMore Go.Proofs.Ytbllmpfdhcbkpaa.Bytes
set_option linter.unusedVariables false
set_option linter.unusedSimpArgs false
def sOne : ByteArray := ⟨#[48, 49, 50, 51, 52, 53, 54, 55, 56, 57, 97, 98, 99, 100, 102, 103, 104, 105, 106, 107, 108, 109, 110, 112, 113, 114, 115, 118, 119, 120, 121, 122]⟩
def sTwo : ByteArray := ⟨#[49, 49, 49, 49, 49, 49, 49, 49, 49, 49, 49, 49, 49, 49, 49, 49, 49, 49, 49, 49, 49, 49, 49, 49, 49, 49, 49, 49, 49, 49, 49, 49]⟩
def sTxt : ByteArray := ⟨#[120, 48, 49, 50, 51, 52, 53, 54, 55, 56, 57, 97, 98, 99, 100, 102, 103, 104, 105, 106, 107, 108, 109, 110, 112, 113, 114, 115, 118, 119, 120, 121, 122, 121]⟩
def sChg : ByteArray := ⟨#[120, 49, 49, 49, 49, 49, 49, 49, 49, 49, 49, 49, 49, 49, 49, 49, 49, 49, 49, 49, 49, 49, 49, 49, 49, 49, 49, 49, 49, 49, 49, 49, 49, 121]⟩
theorem one_ok : hashNo (bs sOne) = 0 := by decide +kernel
theorem two_ok : hashNo (bs sTwo) = 0 := by decide +kernel
theorem wanted_ok : wantedL [sTwo, sOne] = 0 := by
  unfold wantedL wantedL wantedL
  rw [if_neg (fun h => h two_ok), if_neg (fun h => h one_ok)]
theorem wanted2_ok : wanted2 sOne sTwo = 0 := by
  unfold wanted2
  rw [if_neg (fun h => h one_ok)]
  exact two_ok
theorem one_in : ((bs sTxt).drop 1).take 32 = bs sOne := by decide +kernel
theorem two_out : ∀ a, a < 34 → ((bs sTxt).drop a).take 32 ≠ bs sTwo := by decide +kernel
theorem idx_one : Lib.index (bs sTxt) (bs sOne) = (1 : Nat) := by decide +kernel
theorem chg_ok : R (bs sOne) (bs sTwo) (bs sTxt) = bs sChg ∧ Pl (bs sOne) (bs sTxt) 0 = [1] := by
  obtain ⟨_, h1, h2⟩ := found (t := bs sTwo) (by decide +kernel) idx_one [] 0
  rw [List.append_nil, List.append_nil] at h1 h2
  obtain ⟨h3, h4⟩ := short (f := bs sOne) (t := bs sTwo) (by decide +kernel) ((bs sTxt).drop (1 + 32)) (by decide +kernel) (0 + 1 + 32)
  rw [h3] at h1
  rw [h4] at h2
  refine ⟨h1.trans (by decide +kernel), h2.trans rfl⟩
theorem aw_found {D : DataW Unit} {Hs : List ByteArray} {seen' : List Bool} {L : List ByteArray} (hw : Nw [sTwo, sOne] 2 D Hs) (hs : Seen Hs (List.replicate Hs.length false) seen' (bs sTxt) (bs sTxt).length) (hL : Sorted L) (hm : ∀ x, x ∈ L ↔ ∃ k : Nat, Hs[k]? = some x ∧ seen'[k]? = some true) : L = [sOne] := by
  have hocc : ∀ (k : Nat) (x : ByteArray), Hs[k]? = some x → (seen'[k]? = some true ↔ ∃ a, a < 34 ∧ ((bs sTxt).drop a).take 32 = bs x) := fun k x hk => by
    rw [hs.2 k x hk]
    constructor
    · rintro (h | h)
      · rw [List.getElem?_replicate] at h
        split at h
        · injection h with h
          cases h
        · cases h
      · exact h
    · exact Or.inr
  refine sorted_ext hL (List.pairwise_singleton _ _) (fun x => ?_)
  rw [hm x, List.mem_singleton]
  constructor
  · rintro ⟨k, hk, hsk⟩
    have hx := (hw.mem x).1 (List.mem_of_getElem? hk)
    simp only [List.take_succ_cons, List.take_zero, List.mem_cons, List.not_mem_nil, or_false] at hx
    rcases hx with rfl | rfl
    · obtain ⟨a, ha, e⟩ := (hocc k _ hk).1 hsk
      exact absurd e (two_out a ha)
    · rfl
  · rintro rfl
    obtain ⟨k, hk, e⟩ := List.getElem_of_mem ((hw.mem sOne).2 (by simp))
    have hk' : Hs[k]? = some sOne := by rw [List.getElem?_eq_getElem hk, e]
    exact ⟨k, hk', (hocc k _ hk').2 ⟨1, by decide, one_in⟩⟩
theorem hs_len {D : DataW Unit} {Hs : List ByteArray} (h : Nw [sTwo, sOne] 2 D Hs) : Hs.length ≤ 1099511627776 := by
  have hln := len_sub Hs [sTwo, sOne] h.nd (fun x hx => by have := (h.mem x).1 hx; simpa using this)
  simp only [List.length_cons, List.length_nil] at hln
  omega
theorem bytes_row (W : World) (l : List UInt8) (fz : Nat × Nat) : ∀ j x, l[j]? = some x → (W.alloc (.cells (l.map bc).toArray 5 fz)).cell? ⟨W.heap.size, 0 + j, none⟩ = some (bc x) := fun j x hx => by
  rw [Nat.zero_add]
  unfold World.cell?
  rw [heap_alloc_new]
  simp [hx]
set_option maxRecDepth 100000 in
set_option maxHeartbeats 8000000 in
theorem awake_calls (w : World) (m : Int) (hm : w.cell? ⟨0, 0, none⟩ = some (.int .i64 m)) : Calls Try.prog 9 #[] w fun e w' => e = .returned (.bool true) ∧ Below w.heap.size w w' := by
  have hz := mx_pos hm
  obtain ⟨w1, hW1⟩ : ∃ w1, w.alloc (.cells #[.string sTwo, .string sOne] 9) = w1 := ⟨_, rfl⟩
  have hb1 := below_alloc (Below.refl w.heap.size w) (.cells #[.string sTwo, .string sOne] 9)
  have hq1 : SQ (w.alloc (.cells #[.string sTwo, .string sOne] 9)) w.heap.size 2 [sTwo, sOne] := ⟨⟨_, World.alloc_heap_new w _, rfl, rfl⟩, Nat.le_refl _, by decide⟩
  have CN := Aside0.mk (((new_calls w1 (some ⟨w.heap.size, 0, none⟩) 2 [sTwo, sOne] (by rw [← hW1]; exact hq1.all) (Nat.le_refl _) (fun h hh => by simp only [List.mem_cons, List.not_mem_nil, or_false] at hh; rcases hh with rfl | rfl <;> decide) (by decide)).mono (R' := fun e w' => Below w1.heap.size w1 w' ∧ ∃ (n : Nat) (vs : Value) (D : DataW Unit) (Hs : List ByteArray), e = .returned (.tuple #[.pointer (some ⟨w1.heap.size + 1, 0, none⟩), .int .i64 0]) ∧ ScM w' w1.heap.size (w1.heap.size + 1) w1.heap.size n (.slice none 0 0) vs [] 0 D (List.replicate Hs.length false) ∧ n ≤ 2 ∧ Nw [sTwo, sOne] 2 D Hs) (fun e w' h => ⟨h.1, by
    rcases h.2 with h | h
    · exact absurd wanted_ok h.1
    · exact h.2⟩)))
  have CN : Aside0 (Calls Try.prog 13 #[.slice (some ⟨w.heap.size, 0, none⟩) 2 2] w1 (fun e w' => Below w1.heap.size w1 w' ∧ ∃ (n : Nat) (vs : Value) (D : DataW Unit) (Hs : List ByteArray), e = .returned (.tuple #[.pointer (some ⟨w1.heap.size + 1, 0, none⟩), .int .i64 0]) ∧ ScM w' w1.heap.size (w1.heap.size + 1) w1.heap.size n (.slice none 0 0) vs [] 0 D (List.replicate Hs.length false) ∧ n ≤ 2 ∧ Nw [sTwo, sOne] 2 D Hs)) := CN
  rw [hW1] at hb1
  have HB1 := Aside0.mk hb1
  have HM := Aside0.mk hm
  have hcc := fun (W : World) => Lib.run_convert_bytes_const (P := Try.prog) W 36 5 #[Value.int .u8 120, Value.int .u8 48, Value.int .u8 49, Value.int .u8 50, Value.int .u8 51, Value.int .u8 52, Value.int .u8 53, Value.int .u8 54, Value.int .u8 55, Value.int .u8 56, Value.int .u8 57, Value.int .u8 97, Value.int .u8 98, Value.int .u8 99, Value.int .u8 100, Value.int .u8 102, Value.int .u8 103, Value.int .u8 104, Value.int .u8 105, Value.int .u8 106, Value.int .u8 107, Value.int .u8 108, Value.int .u8 109, Value.int .u8 110, Value.int .u8 112, Value.int .u8 113, Value.int .u8 114, Value.int .u8 115, Value.int .u8 118, Value.int .u8 119, Value.int .u8 120, Value.int .u8 121, Value.int .u8 122, Value.int .u8 121] 34 34 Try.underlying36 Try.underlying5
  have CRW := Aside0.mk (fun (W : World) (hW : W.cell? ⟨0, 0, none⟩ = some (.int .i64 m)) => (rewrite_calls W m sTxt sOne sTwo hW (by decide) (by decide) (by decide)).mono (R' := fun e w' => Below W.heap.size W w' ∧ ∃ (A : Option Addr) (c : Nat), e = .returned (.tuple #[.string sChg, .slice A 1 c, .int .i64 0]) ∧ ∃ ad, A = some ad ∧ w'.cell? ad = some (.int .i64 1)) (fun e w' h => ⟨h.1, by
    rcases h.2 with h | ⟨_, v', rfl, hr⟩
    · exact absurd wanted2_ok h.1
    · rw [chg_ok.2] at hr
      obtain ⟨A, c, rfl, _, hC⟩ := Kd.R_reads hr
      obtain ⟨ad, e, hc⟩ := (Kd.reads_of_C (enc := Value.int .i64) (d := (0 : Int)) hC).2.2 (by decide)
      refine ⟨A, c, by rw [chg_ok.1]; rfl, ad, e, ?_⟩
      have := hc 0 (by decide)
      rw [Addr.add_zero'] at this
      exact this⟩))
  clear hb1 hq1 hm
  have hT : sTxt = sTxt := rfl
  unfold sTwo sOne at CN hW1
  have CRW : Aside0 (∀ (W : World) (hW : W.cell? ⟨0, 0, none⟩ = some (.int .i64 m)), Calls Try.prog 10 #[.string ⟨#[120, 48, 49, 50, 51, 52, 53, 54, 55, 56, 57, 97, 98, 99, 100, 102, 103, 104, 105, 106, 107, 108, 109, 110, 112, 113, 114, 115, 118, 119, 120, 121, 122, 121]⟩, .string ⟨#[48, 49, 50, 51, 52, 53, 54, 55, 56, 57, 97, 98, 99, 100, 102, 103, 104, 105, 106, 107, 108, 109, 110, 112, 113, 114, 115, 118, 119, 120, 121, 122]⟩, .string ⟨#[49, 49, 49, 49, 49, 49, 49, 49, 49, 49, 49, 49, 49, 49, 49, 49, 49, 49, 49, 49, 49, 49, 49, 49, 49, 49, 49, 49, 49, 49, 49, 49]⟩] W (fun e w' => Below W.heap.size W w' ∧ ∃ (A : Option Addr) (c : Nat), e = .returned (.tuple #[.string ⟨#[120, 49, 49, 49, 49, 49, 49, 49, 49, 49, 49, 49, 49, 49, 49, 49, 49, 49, 49, 49, 49, 49, 49, 49, 49, 49, 49, 49, 49, 49, 49, 49, 49, 121]⟩, .slice A 1 c, .int .i64 0]) ∧ ∃ ad, A = some ad ∧ w'.cell? ad = some (.int .i64 1))) := CRW
  go_enter Try.func9, Try.ntmps9
  go_wp2_with (first
    | (go_at_call 13; ((with_reducible refine CN.out.mono ?_)); rintro e w2 ⟨hb, n, vs, D, Hs, rfl, hsm, hn2, hnw⟩; have HB2 := Aside0.mk (HB1.out.trans (hb.mono HB1.out.size)); have HS2 := Aside0.mk hsm; have HNW := Aside0.mk (show Nw [sTwo, sOne] 2 D Hs from hnw); have HN2 := Aside0.mk hn2; clear hb hsm hn2 hnw)
    | (go_at_call 14; change Calls _ _ _ (w2.alloc (.cells ((bs sTxt).map bc).toArray 5 (34, 35))) _; have hba := below_alloc (Below.refl w2.heap.size w2) (.cells ((bs sTxt).map bc).toArray 5 (34, 35)); have hby := bytes_row w2 (bs sTxt) (34, 35); generalize w2.alloc (.cells ((bs sTxt).map bc).toArray 5 (34, 35)) = w3 at hba hby ⊢; have HS3 := Aside0.mk (HS2.out.less hba); have HB3 := Aside0.mk (HB2.out.trans (hba.mono HB2.out.size)); have hne : w2.heap.size ≠ w1.heap.size + 1 := (fun e => by have := (Array.getElem?_eq_some_iff.1 HS2.out.lies).1; omega); ((with_reducible refine (scFeed_calls w3 _ _ _ _ _ _ [] 0 D Hs _ HS3.out HNW.out.mo HNW.out.nd (fun x hx => HNW.out.ok x ((HNW.out.mem x).1 hx)) (List.length_replicate) (by have := HN2.out; omega) w2.heap.size 0 34 34 (bs sTxt) rfl (Nat.le_refl _) hby hne (by decide) (by decide)).mono ?_)); rintro e w4 ⟨vt', seen', rfl, hs4, hsn, hf4, _⟩; have HS4 := Aside0.mk hs4; have HSN := Aside0.mk hsn; have HLN := Aside0.mk (hs_len HNW.out); have HB4 := Aside0.mk (below_fr HB3.out hf4 (fun g hg => by rcases hg with rfl | hg; exact Nat.le_trans HB1.out.size (Nat.le_succ _); exact Nat.le_trans HB1.out.size (s_block HS3.out.rs hg).1) HB3.out.size); clear hba hby hne hs4 hsn hf4))
  refine (found_calls w4 _ _ _ _ _ _ _ _ D Hs seen' HS4.out HNW.out.mo HNW.out.nd (by rw [HSN.out.1, List.length_replicate]) HLN.out).mono ?_
  rintro e w5 ⟨v5, L, rfl, hr5, hb5, hso, hmem⟩
  have hL := aw_found HNW.out HSN.out hso hmem
  subst hL
  obtain ⟨A5, c5, rfl, _, hC5⟩ := Kd.R_reads hr5
  obtain ⟨ad5, rfl, hc5⟩ := Kd.at_string hC5 (0 : Int) (by decide) (by decide)
  have HC5 := Aside0.mk (show w5.cell? ad5 = some (.string sOne) from by have := hc5; rwa [show (0 : Int).toNat = 0 from rfl, Addr.add_zero'] at this)
  have HB5 := Aside0.mk (HB4.out.trans (hb5.mono HB4.out.size))
  clear hr5 hb5 hso hmem hC5 hc5
  go_wp2_with (first
    | (go_at_call 10; ((with_reducible refine (CRW.out w5 (mx_below HM.out HB5.out hz)).mono ?_)); rintro e w6 ⟨hb6, A6, c6, rfl, ad6, rfl, hc6⟩; have hc5 := (Fr.of_below (S := fun _ => False) hb6).cell HC5.out (fun h => h); unfold sOne at hc5; have HB6 := Aside0.mk (HB5.out.trans (hb6.mono HB5.out.size)); clear hb6))
  go_ret
  exact ⟨rfl, HB6.out⟩
end Go.Proofs.Ytbllmpfdhcbkpaa.Scan
/- By a program of this session's: a plain Lean function for a Go function, and its contract. -/
namespace Go.Proofs.Ytbllmpfdhcbkpaa.Q
open Go.RowKit Go.Proofs.YtbllmpfdhcbkpaaW.PrintWords Go.Proofs.YtbllmpfdhcbkpaaW.PrintLast Go.Proofs.YtbllmpfdhcbkpaaW.PrintMore
attribute [local go_sem] max2_int min2_int max_two min_two max_three min_three max_four min_four Go.Proofs.Ytbllmpfdhcbkpaa.Ord.str_leq Go.Proofs.Ytbllmpfdhcbkpaa.Ord.str_gtr Go.Proofs.Ytbllmpfdhcbkpaa.Ord.str_geq   -- for this text's walks alone
set_option linter.unusedVariables false
set_option linter.unusedSimpArgs false

/-! ### depotref14_Wanted: function 21 -/
def depotref14_Wanted.l0 : Nat → List ByteArray → Int → Option (Int)
  | 0, _, _ => none
  | k + 1, x0, x3 => if x3 < (x0.length : Int) then (if 0 ≤ x3 then ((depotref13_CheckHash.f k (rdOf ByteArray.empty x0 x3)).bind fun t238 => (if t238 = 0 then (depotref14_Wanted.l0 k x0 (wrap64 (x3 + 1))) else (some t238))) else (none)) else (some 0)
def depotref14_Wanted.f (k : Nat) (l0 : List ByteArray) : Option (Int) := depotref14_Wanted.l0 k l0 0
theorem depotref14_Wanted.mono_l : ∀ k, (∀ y0 y1, LeO (depotref14_Wanted.l0 k y0 y1) (depotref14_Wanted.l0 (k + 1) y0 y1))
  | 0 => fun _ _ r h => by simp [depotref14_Wanted.l0] at h
  | k + 1 => by
    have ih0 := depotref14_Wanted.mono_l k
    · intro y0 y1
      unfold depotref14_Wanted.l0
      repeat' first
      | (with_reducible exact ih0 _ _)
      | (with_reducible exact depotref13_CheckHash.mono _ _)
      | (with_reducible exact LeO.refl _)
      | (with_reducible exact LeO.none _)
      | (with_reducible refine LeO.ite ?_ ?_)
      | (with_reducible refine LeO.bind ?_ (fun _ => ?_))
      | exact ih0 _ _
      | exact depotref13_CheckHash.mono _ _
      | exact LeO.none _
      | refine LeO.ite ?_ ?_
      | refine LeO.bind ?_ (fun _ => ?_)
theorem depotref14_Wanted.mono : ∀ a0 k, LeO (depotref14_Wanted.f k a0) (depotref14_Wanted.f (k + 1) a0) := by
  intro a0 k
  have ih0 := depotref14_Wanted.mono_l k
  unfold depotref14_Wanted.f
  repeat' first
      | (with_reducible exact ih0 _ _)
      | (with_reducible exact depotref13_CheckHash.mono _ _)
      | (with_reducible exact LeO.refl _)
      | (with_reducible exact LeO.none _)
      | (with_reducible refine LeO.ite ?_ ?_)
      | (with_reducible refine LeO.bind ?_ (fun _ => ?_))
      | exact ih0 _ _
      | exact depotref13_CheckHash.mono _ _
      | exact LeO.none _
      | refine LeO.ite ?_ ?_
      | refine LeO.bind ?_ (fun _ => ?_)
set_option maxHeartbeats 8000000 in
set_option maxRecDepth 100000 in
theorem depotref14_Wanted.calls (k : Nat) (A0 : Option Addr) (c0 : Nat) (l0 : List ByteArray) (r : Int) (w : World) (hr0 : Kd.C Kd.string w A0 l0.length l0) (hc0 : l0.length ≤ c0) (h : depotref14_Wanted.f k l0 = some r) :
    Calls Try.prog 21 #[.slice A0 l0.length c0] w fun e w' => e = .returned (.int .i64 r) ∧ Drawn0 w w' := by
  have HR0 := Aside0.mk hr0
  have HC0 := Aside0.mk hc0
  clear hr0 hc0
  have H : (depotref14_Wanted.l0 k l0 0) = some r := h
  clear h
  have H' := Aside0.mk H
  clear H
  go_enter Try.func21, Try.ntmps21
  go_wp2
  go_loopg [3] k (fun kq v3 w' => ∃ (x3_1 : Int), v3 = .int .i64 x3_1 ∧ Aside0 (depotref14_Wanted.l0 kq l0 x3_1 = some r) ∧ Aside0 (kq ≤ k) ∧ Drawn0 w w')
  case atStart => exact ⟨(0), (by first | rfl | (simp; done) | (simp [*]; done)), H', ⟨Nat.le_refl _⟩, by repeat (first | exact Drawn0.refl _ | apply Drawn0.step)⟩
  case round =>
    clear H'
    obtain ⟨x3_1, rfl, HA, HK1, ⟨m1, rfl⟩⟩ := hrel
    cases gk with
    | zero => exact absurd HA.out (by simp [depotref14_Wanted.l0])
    | succ k1 =>
      have H := HA.out
      clear HA
      simp only [depotref14_Wanted.l0] at H
      by_cases c2 : x3_1 < (l0.length : Int)
      · rw [if_pos c2] at H
        have c2b0 : decide (x3_1 < (l0.length : Int)) = true := decide_eq_true c2
        clear c2
        by_cases c3 : 0 ≤ x3_1
        · rw [if_pos c3] at H
          have c3b0 : decide (0 ≤ x3_1) = true := decide_eq_true c3
          clear c3
          replace H := Option.bind_eq_some_iff.mp H
          obtain ⟨t238, A40, H⟩ := H
          replace H : (if t238 = 0 then (depotref14_Wanted.l0 k1 l0 (wrap64 (x3_1 + 1))) else (some t238)) = some r := H
          have A4 := Aside0.mk A40
          clear A40
          by_cases c5 : t238 = 0
          · rw [if_pos c5] at H
            have c5b0 : (t238 == 0) = true := beq_iff_eq.mpr c5
            have c5b1 : (t238 != 0) = false := bne_eq_false_iff_eq.mpr c5
            clear c5
            have H' := Aside0.mk H
            clear H
            have p237 : 0 ≤ (x3_1 : Int) := of_decide_eq_true (by first | (with_reducible assumption) | assumption)
            have q237 : x3_1 < (l0.length : Int) := of_decide_eq_true (by first | (with_reducible assumption) | assumption)
            obtain ⟨ad237, e237, hx237_0⟩ := Kd.at_string HR0.out x3_1 p237 q237
            cases e237
            replace p237 := eq_true p237
            replace q237 := eq_true q237
            go_wp2_with (first | ((with_reducible refine gate_callee (f := 33) rfl ?_); refine goesL_ (some 15) rfl rfl Try.func33 (by kernel_rfl) rfl #[.string (rdOf ByteArray.empty l0 x3_1)] rfl (by (try simp only [List.map_toArray, List.map_cons, List.map_nil]); first | done | rfl | (simp only [List.length_drop, List.length_take]; rfl)) ?_; (with_reducible refine (depotref13_CheckHash.calls k1 (rdOf ByteArray.empty l0 x3_1) t238 _ A4.out).mono ?_); rintro e w' ⟨rfl, ⟨nd, rfl⟩⟩; refine ⟨_, rfl, ?_⟩))
            go_roundg k1
            case measure => have := HK1.out; omega
            case rel => exact ⟨(wrap64 (x3_1 + 1)), (by first | rfl | (simp; done) | (simp [*]; done)), H', ⟨by have := HK1.out; omega⟩, by repeat (first | exact Drawn0.refl _ | apply Drawn0.step)⟩
          · rw [if_neg c5] at H
            have c5b0 : (t238 == 0) = false := beq_eq_false_iff_ne.mpr c5
            have c5b1 : (t238 != 0) = true := bne_iff_ne.mpr c5
            obtain rfl := Option.some.inj H
            have p237 : 0 ≤ (x3_1 : Int) := of_decide_eq_true (by first | (with_reducible assumption) | assumption)
            have q237 : x3_1 < (l0.length : Int) := of_decide_eq_true (by first | (with_reducible assumption) | assumption)
            obtain ⟨ad237, e237, hx237_0⟩ := Kd.at_string HR0.out x3_1 p237 q237
            cases e237
            replace p237 := eq_true p237
            replace q237 := eq_true q237
            go_wp2_with (first | ((with_reducible refine gate_callee (f := 33) rfl ?_); refine goesL_ (some 15) rfl rfl Try.func33 (by kernel_rfl) rfl #[.string (rdOf ByteArray.empty l0 x3_1)] rfl (by (try simp only [List.map_toArray, List.map_cons, List.map_nil]); first | done | rfl | (simp only [List.length_drop, List.length_take]; rfl)) ?_; (with_reducible refine (depotref13_CheckHash.calls k1 (rdOf ByteArray.empty l0 x3_1) t238 _ A4.out).mono ?_); rintro e w' ⟨rfl, ⟨nd, rfl⟩⟩; refine ⟨_, rfl, ?_⟩))
            go_ret
            exact ⟨by first | rfl | (simp; done) | (simp [*]; done), by repeat (first | exact Drawn0.refl _ | apply Drawn0.step)⟩
        · rw [if_neg c3] at H
          exact absurd H (by simp)
      · rw [if_neg c2] at H
        have c2b0 : decide (x3_1 < (l0.length : Int)) = false := decide_eq_false c2
        clear c2
        obtain rfl := Option.some.inj H
        go_wp2
        go_ret
        exact ⟨by first | rfl | (simp; done) | (simp [*]; done), by repeat (first | exact Drawn0.refl _ | apply Drawn0.step)⟩

end Go.Proofs.Ytbllmpfdhcbkpaa.Q
/- By a program of this session's: a plain Lean function for a Go function, and its contract. -/
namespace Go.Proofs.Ytbllmpfdhcbkpaa.Q
open Go.RowKit Go.Proofs.YtbllmpfdhcbkpaaW.PrintWords Go.Proofs.YtbllmpfdhcbkpaaW.PrintLast Go.Proofs.YtbllmpfdhcbkpaaW.PrintMore
attribute [local go_sem] max2_int min2_int max_two min_two max_three min_three max_four min_four Go.Proofs.Ytbllmpfdhcbkpaa.Ord.str_leq Go.Proofs.Ytbllmpfdhcbkpaa.Ord.str_gtr Go.Proofs.Ytbllmpfdhcbkpaa.Ord.str_geq   -- for this text's walks alone
set_option linter.unusedVariables false
set_option linter.unusedSimpArgs false

/-! ### depotref14_At: function 24 -/
def depotref14_At.f (a0 : ByteArray) (a1 : ByteArray) (a2 : Int) : Option (Bool) := if (wrap64 (a2 + (a1.size : Int))) ≤ (a0.size : Int) then (if 0 ≤ a2 then (if a2 ≤ (wrap64 (a2 + (a1.size : Int))) then (some ((a0.extract (a2 : Int).toNat ((wrap64 (a2 + (a1.size : Int))) : Int).toNat).toList == a1.toList)) else (none)) else (none)) else (some false)
set_option maxHeartbeats 8000000 in
set_option maxRecDepth 100000 in
theorem depotref14_At.calls (a0 : ByteArray) (a1 : ByteArray) (a2 : Int) (r : Bool) (w : World) (h : depotref14_At.f a0 a1 a2 = some r) :
    Calls Try.prog 24 #[.string a0, .string a1, .int .i64 a2] w fun e w' => e = .returned (.bool r) ∧ Drawn0 w w' := by
  have H : (if (wrap64 (a2 + (a1.size : Int))) ≤ (a0.size : Int) then (if 0 ≤ a2 then (if a2 ≤ (wrap64 (a2 + (a1.size : Int))) then (some ((a0.extract (a2 : Int).toNat ((wrap64 (a2 + (a1.size : Int))) : Int).toNat).toList == a1.toList)) else (none)) else (none)) else (some false)) = some r := h
  clear h
  by_cases c4 : (wrap64 (a2 + (a1.size : Int))) ≤ (a0.size : Int)
  · rw [if_pos c4] at H
    have c4b0 : decide ((wrap64 (a2 + (a1.size : Int))) ≤ (a0.size : Int)) = true := decide_eq_true c4
    clear c4
    by_cases c5 : 0 ≤ a2
    · rw [if_pos c5] at H
      have c5b0 := eq_true c5
      have c5b1 : decide (0 ≤ a2) = true := decide_eq_true c5
      clear c5
      by_cases c6 : a2 ≤ (wrap64 (a2 + (a1.size : Int)))
      · rw [if_pos c6] at H
        have c6b0 := eq_true c6
        have c6b1 : decide (a2 ≤ (wrap64 (a2 + (a1.size : Int)))) = true := decide_eq_true c6
        have c7b0 := eq_true (of_decide_eq_true (by first | (with_reducible assumption) | assumption) : (wrap64 (a2 + (a1.size : Int))) ≤ (a0.size : Int))
        obtain rfl := Option.some.inj H
        go_enter Try.func24, Try.ntmps24
        go_wp2
        go_ret
        exact ⟨by first | rfl | (simp; done) | (simp [*]; done), by repeat (first | exact Drawn0.refl _ | apply Drawn0.step)⟩
      · rw [if_neg c6] at H
        exact absurd H (by simp)
    · rw [if_neg c5] at H
      exact absurd H (by simp)
  · rw [if_neg c4] at H
    have c4b0 : decide ((wrap64 (a2 + (a1.size : Int))) ≤ (a0.size : Int)) = false := decide_eq_false c4
    clear c4
    obtain rfl := Option.some.inj H
    go_enter Try.func24, Try.ntmps24
    go_wp2
    go_ret
    exact ⟨by first | rfl | (simp; done) | (simp [*]; done), by repeat (first | exact Drawn0.refl _ | apply Drawn0.step)⟩

end Go.Proofs.Ytbllmpfdhcbkpaa.Q
/- By a program of this session's: a plain Lean function for a Go function, and its contract. -/
namespace Go.Proofs.Ytbllmpfdhcbkpaa.Q
open Go.RowKit Go.Proofs.YtbllmpfdhcbkpaaW.PrintWords Go.Proofs.YtbllmpfdhcbkpaaW.PrintLast Go.Proofs.YtbllmpfdhcbkpaaW.PrintMore
attribute [local go_sem] max2_int min2_int max_two min_two max_three min_three max_four min_four Go.Proofs.Ytbllmpfdhcbkpaa.Ord.str_leq Go.Proofs.Ytbllmpfdhcbkpaa.Ord.str_gtr Go.Proofs.Ytbllmpfdhcbkpaa.Ord.str_geq   -- for this text's walks alone
set_option linter.unusedVariables false
set_option linter.unusedSimpArgs false

/-! ### depotref14_Rewrite: function 11 -/
def depotref14_Rewrite.l0 : Nat → ByteArray → ByteArray → ByteArray → List Int → List Int → Int → Option (ByteArray × List Int × Int)
  | 0, _, _, _, _, _, _ => none
  | k + 1, x0, x1, x2, x10, x11, x12 => if x12 < (x0.size : Int) then ((depotref14_At.f x0 x1 x12).bind fun t243 => (if t243 = true then (if x10.length + x2.size < 140737488355328 then (if x11.length < 17592186044416 then (depotref14_Rewrite.l0 k x0 x1 x2 (x10 ++ bytesOf x2) (x11 ++ [x12]) (wrap64 (x12 + 32))) else (none)) else (none)) else (if 0 ≤ x12 then (if x10.length < 140737488355328 then (depotref14_Rewrite.l0 k x0 x1 x2 (x10 ++ [bt x0 x12]) x11 (wrap64 (x12 + 1))) else (none)) else (none)))) else (some (strOfNums x10, x11, 0))
def depotref14_Rewrite.f (k : Nat) (a0 : ByteArray) (a1 : ByteArray) (a2 : ByteArray) : Option (ByteArray × List Int × Int) := (depotref14_Wanted.f k (([a1, a2] : List ByteArray))).bind fun t242 => (if t242 = 0 then (depotref14_Rewrite.l0 k a0 a1 a2 ([] : List Int) ([] : List Int) 0) else (some ((⟨#[]⟩ : ByteArray), ([] : List Int), t242)))
theorem depotref14_Rewrite.mono_l : ∀ k, (∀ y0 y1 y2 y3 y4 y5, LeO (depotref14_Rewrite.l0 k y0 y1 y2 y3 y4 y5) (depotref14_Rewrite.l0 (k + 1) y0 y1 y2 y3 y4 y5))
  | 0 => fun _ _ _ _ _ _ r h => by simp [depotref14_Rewrite.l0] at h
  | k + 1 => by
    have ih0 := depotref14_Rewrite.mono_l k
    · intro y0 y1 y2 y3 y4 y5
      unfold depotref14_Rewrite.l0
      repeat' first
      | (with_reducible exact ih0 _ _ _ _ _ _)
      | (with_reducible exact depotref14_Wanted.mono _ _)
      | (with_reducible exact LeO.refl _)
      | (with_reducible exact LeO.none _)
      | (with_reducible refine LeO.ite ?_ ?_)
      | (with_reducible refine LeO.bind ?_ (fun _ => ?_))
      | exact ih0 _ _ _ _ _ _
      | exact depotref14_Wanted.mono _ _
      | exact LeO.none _
      | refine LeO.ite ?_ ?_
      | refine LeO.bind ?_ (fun _ => ?_)
theorem depotref14_Rewrite.mono : ∀ a0 a1 a2 k, LeO (depotref14_Rewrite.f k a0 a1 a2) (depotref14_Rewrite.f (k + 1) a0 a1 a2) := by
  intro a0 a1 a2 k
  have ih0 := depotref14_Rewrite.mono_l k
  unfold depotref14_Rewrite.f
  repeat' first
      | (with_reducible exact ih0 _ _ _ _ _ _)
      | (with_reducible exact depotref14_Wanted.mono _ _)
      | (with_reducible exact LeO.refl _)
      | (with_reducible exact LeO.none _)
      | (with_reducible refine LeO.ite ?_ ?_)
      | (with_reducible refine LeO.bind ?_ (fun _ => ?_))
      | exact ih0 _ _ _ _ _ _
      | exact depotref14_Wanted.mono _ _
      | exact LeO.none _
      | refine LeO.ite ?_ ?_
      | refine LeO.bind ?_ (fun _ => ?_)
set_option maxHeartbeats 8000000 in
set_option maxRecDepth 100000 in
theorem depotref14_Rewrite.calls (k : Nat) (a0 : ByteArray) (a1 : ByteArray) (a2 : ByteArray) (r1 : ByteArray) (r2 : List Int) (r3 : Int) (w : World) (h : depotref14_Rewrite.f k a0 a1 a2 = some (r1, r2, r3)) :
    Calls Try.prog 11 #[.string a0, .string a1, .string a2] w fun e w' => ∃ v1_ : Value, e = .returned (.tuple #[.string r1, v1_, .int .i64 r3]) ∧ Kd.R (Kd.int .i64) 3 w' w.heap.size (fun _ => True) v1_ r2 ∧ Below w.heap.size w w' := by
  have HB := Aside0.mk (Below.refl w.heap.size w)
  have H : ((depotref14_Wanted.f k (([a1, a2] : List ByteArray))).bind fun t242 => (if t242 = 0 then (depotref14_Rewrite.l0 k a0 a1 a2 ([] : List Int) ([] : List Int) 0) else (some ((⟨#[]⟩ : ByteArray), ([] : List Int), t242)))) = some (r1, r2, r3) := h
  clear h
  obtain ⟨y239, hy239⟩ : ∃ y_ : List ByteArray, y_ = (([a1, a2] : List ByteArray)) := ⟨_, rfl⟩
  replace H : ((depotref14_Wanted.f k y239).bind fun t242 => (if t242 = 0 then (depotref14_Rewrite.l0 k a0 a1 a2 ([] : List Int) ([] : List Int) 0) else (some ((⟨#[]⟩ : ByteArray), ([] : List Int), t242)))) = some (r1, r2, r3) := by first | (rw [hy239]; with_reducible exact H) | (have H2_ := (Option.bind_some _ _).symm.trans H; rw [hy239]; with_reducible exact H2_) | (have H2_ := (Option.bind_some _ _).symm.trans H; with_reducible exact H2_) | with_reducible exact H | (rw [hy239]; exact H) | exact H
  have Ny239 := Aside0.mk hy239
  clear hy239
  replace H := Option.bind_eq_some_iff.mp H
  obtain ⟨t242, A40, H⟩ := H
  replace H : (if t242 = 0 then (depotref14_Rewrite.l0 k a0 a1 a2 ([] : List Int) ([] : List Int) 0) else (some ((⟨#[]⟩ : ByteArray), ([] : List Int), t242))) = some (r1, r2, r3) := H
  have A4 := Aside0.mk A40
  clear A40
  by_cases c5 : t242 = 0
  · rw [if_pos c5] at H
    have c5b0 : (t242 == 0) = true := beq_iff_eq.mpr c5
    have c5b1 : (t242 != 0) = false := bne_eq_false_iff_eq.mpr c5
    clear c5
    have H' := Aside0.mk H
    clear H
    go_enter Try.func11, Try.ntmps11
    go_wp2_with (first | ((with_reducible refine gate_dst (N := 15) rfl ?_); refine Kd.R_lit Kd.string _ 9 ?hg (N := 15) ?hd (xs := ([a1, a2] : List ByteArray)) (inner := [.string a1, .string a2]) (ok := fun _ => True) (okp := fun _ => True) ?hr ?hp (fun _ hk => hk) trivial (Below.refl _ _) (Nat.le_refl _) (by simp) ?_; (case hd => rfl); (case hg => rfl); (case hr => first | (go_simp; done) | (go_simp; rfl)); (case hp => exact (Reps.one (show Kd.M Kd.string _ _ _ a1 [.string a1] from rfl) (Reps.one (show Kd.M Kd.string _ _ _ a2 [.string a2] from rfl) (Reps.none _ _)))); intro v240 w6 ho7 hb hg_ hnew_; clear hg_ hnew_; (first | rw [← Ny239.out] at ho7 | (simp only [Int.reduceToNat] at ho7; rw [← Ny239.out] at ho7)); have n0_ := Aside0.mk (Kd.R_lower ho7 (below_size (by repeat (first | (with_reducible first | exact HB.out | apply below_alloc | apply pw_below_drewN | apply below_drew1) | exact HB.out)))); have n1_ := Aside0.mk (below_step (by repeat (first | (with_reducible first | exact HB.out | apply below_alloc | apply pw_below_drewN | apply below_drew1) | exact HB.out)) hb); clear HB; have HO241 := n0_; have HB := n1_; clear n0_ n1_; clear hb ho7; obtain ⟨Ao8, co8, eo8⟩ := Kd.R_slice HO241.out; subst eo8) | ((with_reducible refine gate_callee (f := 21) rfl ?_); refine goesL_ (some 16) rfl rfl Try.func21 (by kernel_rfl) rfl #[.slice Ao8 y239.length co8] rfl (by (try simp only [List.map_toArray, List.map_cons, List.map_nil]); first | done | rfl | (simp only [List.length_drop, List.length_take]; rfl)) ?_; (with_reducible refine (depotref14_Wanted.calls k _ _ y239 t242 _ ?side1 ?side2 A4.out).mono ?_); (case side1 => repeat (first | exact (Kd.R_reads' HO241.out).2.2 | (with_reducible refine Kd.C_alloc ?_ _) | (with_reducible refine Kd.C_drewN ?_ _) | (with_reducible refine Kd.C_drew ?_))); (case side2 => exact (Kd.R_reads' HO241.out).2.1); rintro e w' ⟨rfl, ⟨nd, rfl⟩⟩; refine ⟨_, rfl, ?_⟩))
    go_loopg [10, 11, 12] k (fun kq v10 v11 v12 w' => ∃ (x10_1 : List Int) (x11_1 : List Int) (x12_1 : Int), v12 = .int .i64 x12_1 ∧ Aside0 (depotref14_Rewrite.l0 kq a0 a1 a2 x10_1 x11_1 x12_1 = some (r1, r2, r3)) ∧ Aside0 (kq ≤ k) ∧ Aside0 (Kd.R (Kd.int .u8) 5 w' w.heap.size (fun _ => True) v10 x10_1) ∧ Aside0 (Kd.R (Kd.int .i64) 3 w' w.heap.size (fun _ => True) v11 x11_1) ∧ Aside0 (Below w.heap.size w w'))
    case atStart => exact ⟨(([] : List Int)), (([] : List Int)), (0), (by first | rfl | (simp; done) | (simp [*]; done)), H', ⟨Nat.le_refl _⟩, ⟨by first | exact Kd.R_nil _ _ _ _ _ | exact Kd.N_nil _ _ _ _ _ | exact Kd.V_nil _ _ _ _ _ | exact Kd.Q_nil _ _ _ _ _ | exact Kd.S_nil _ _ _ _ _⟩, ⟨by first | exact Kd.R_nil _ _ _ _ _ | exact Kd.N_nil _ _ _ _ _ | exact Kd.V_nil _ _ _ _ _ | exact Kd.Q_nil _ _ _ _ _ | exact Kd.S_nil _ _ _ _ _⟩, ⟨by repeat (first | (with_reducible first | exact HB.out | apply below_alloc | apply pw_below_drewN | apply below_drew1) | exact HB.out)⟩⟩
    case round =>
      clear H'
      try clear c1
      try clear c2
      try clear p2
      try clear c5
      try clear c5b0
      try clear c5b1
      obtain ⟨x10_1, x11_1, x12_1, rfl, HA, HK1, HO_10, HO_11, HB⟩ := hrel
      cases gk with
      | zero => exact absurd HA.out (by simp [depotref14_Rewrite.l0])
      | succ k1 =>
        have H := HA.out
        clear HA
        simp only [depotref14_Rewrite.l0] at H
        by_cases c9 : x12_1 < (a0.size : Int)
        · rw [if_pos c9] at H
          have c9b0 : decide (x12_1 < (a0.size : Int)) = true := decide_eq_true c9
          clear c9
          replace H := Option.bind_eq_some_iff.mp H
          obtain ⟨t243, A100, H⟩ := H
          replace H : (if t243 = true then (if x10_1.length + a2.size < 140737488355328 then (if x11_1.length < 17592186044416 then (depotref14_Rewrite.l0 k1 a0 a1 a2 (x10_1 ++ bytesOf a2) (x11_1 ++ [x12_1]) (wrap64 (x12_1 + 32))) else (none)) else (none)) else (if 0 ≤ x12_1 then (if x10_1.length < 140737488355328 then (depotref14_Rewrite.l0 k1 a0 a1 a2 (x10_1 ++ [bt a0 x12_1]) x11_1 (wrap64 (x12_1 + 1))) else (none)) else (none))) = some (r1, r2, r3) := H
          have A10 := Aside0.mk A100
          clear A100
          by_cases c11 : t243 = true
          · subst c11
            have H1 : (if x10_1.length + a2.size < 140737488355328 then (if x11_1.length < 17592186044416 then (depotref14_Rewrite.l0 k1 a0 a1 a2 (x10_1 ++ bytesOf a2) (x11_1 ++ [x12_1]) (wrap64 (x12_1 + 32))) else (none)) else (none)) = some (r1, r2, r3) := by rw [if_pos rfl] at H; exact H
            clear H
            have H := H1
            clear H1
            by_cases c12 : x10_1.length + a2.size < 140737488355328
            · rw [if_pos c12] at H
              have LMc12 := Aside0.mk c12
              clear c12
              obtain ⟨y244, hy244⟩ : ∃ y_ : List Int, y_ = (x10_1 ++ bytesOf a2) := ⟨_, rfl⟩
              replace H : (if x11_1.length < 17592186044416 then (depotref14_Rewrite.l0 k1 a0 a1 a2 y244 (x11_1 ++ [x12_1]) (wrap64 (x12_1 + 32))) else (none)) = some (r1, r2, r3) := by first | (rw [hy244]; with_reducible exact H) | (have H2_ := (Option.bind_some _ _).symm.trans H; rw [hy244]; with_reducible exact H2_) | (have H2_ := (Option.bind_some _ _).symm.trans H; with_reducible exact H2_) | with_reducible exact H | (rw [hy244]; exact H) | exact H
              have Ny244 := Aside0.mk hy244
              clear hy244
              by_cases c13 : x11_1.length < 17592186044416
              · rw [if_pos c13] at H
                have LMc13 := Aside0.mk c13
                clear c13
                obtain ⟨y247, hy247⟩ : ∃ y_ : List Int, y_ = (x11_1 ++ [x12_1]) := ⟨_, rfl⟩
                replace H : (depotref14_Rewrite.l0 k1 a0 a1 a2 y244 y247 (wrap64 (x12_1 + 32))) = some (r1, r2, r3) := by first | (rw [hy247]; with_reducible exact H) | (have H2_ := (Option.bind_some _ _).symm.trans H; rw [hy247]; with_reducible exact H2_) | (have H2_ := (Option.bind_some _ _).symm.trans H; with_reducible exact H2_) | with_reducible exact H | (rw [hy247]; exact H) | exact H
                have Ny247 := Aside0.mk hy247
                clear hy247
                have H' := Aside0.mk H
                clear H
                go_wp2_with (first | ((with_reducible refine gate_callee (f := 24) rfl ?_); refine goesL_ (some 27) rfl rfl Try.func24 (by kernel_rfl) rfl #[.string a0, .string a1, .int .i64 x12_1] rfl (by (try simp only [List.map_toArray, List.map_cons, List.map_nil]); first | done | rfl | (simp only [List.length_drop, List.length_take]; rfl)) ?_; (with_reducible refine (depotref14_At.calls a0 a1 x12_1 true _ A10.out).mono ?_); rintro e w' ⟨rfl, ⟨nd, rfl⟩⟩; refine ⟨_, rfl, ?_⟩) | (at_builtin; refine print_append_str (w0 := w) w.heap.size rfl (.tmp 28) _ 36 9 5 rfl Try.underlying36 Try.underlying9 info5 u10 x10_1 a2 rfl rfl ?aO ?aB ?aS ?aL ?_; (case aB => exact (by repeat (first | (with_reducible first | exact HB.out | apply below_alloc | apply pw_below_drewN | apply below_drew1) | exact HB.out))); (case aO => exact (Kd.own_of_R (by (with_reducible repeat (first | apply Kd.R_alloc | apply Kd.R_drewN | apply Kd.R_drew)); exact HO_10.out))); (case aS => exact (below_size (by repeat (first | (with_reducible first | exact HB.out | apply below_alloc | apply pw_below_drewN | apply below_drew1) | exact HB.out)))); (case aL => have := LMc12.out; omega); intro v245 w14 ho0 hb hg; have ho := Kd.R_of_own (h1 := fun _ => rfl) (ok := fun _ => True) ho0 (fun _ _ => trivial); clear ho0; have hat := True.intro; rw [← Ny244.out] at ho; change Kd.R (Kd.int .u8) 5 w14 w.heap.size (fun _ => True) v245 y244 at ho; have n0_ := Aside0.mk (Kd.R_over' (by (with_reducible repeat (first | apply Kd.R_alloc | apply Kd.R_drewN | apply Kd.R_drew)); exact HO_11.out) (Kd.R_typed (by (with_reducible repeat (first | apply Kd.R_alloc | apply Kd.R_drewN | apply Kd.R_drew)); exact HO_10.out)) (by decide) hg); have n1_ := Aside0.mk (hb); have n2_ := Aside0.mk (ho); clear HO_11; clear HB; clear HO_10; have HO_11 := n0_; have HB := n1_; have HO246 := n2_; clear n0_ n1_ n2_; clear ho hb hg hat) | ((with_reducible refine gate_builtin (b := .append) (xs := #[.tmp 31, .tmp 33]) rfl ?_); at_builtin; refine Kd.R_append (Kd.int .i64) (w0 := w) w.heap.size rfl (.tmp 31) (.tmp 33) 23 3 (.int .i64 0) 8 rfl Try.underlying23 info3 rfl (by decide) (by omega) u11 x11_1 x12_1 [.int .i64 x12_1] (fun _ => True) (fun _ => False) rfl rfl ?aP (fun _ hk => hk.elim) ?aF ?aO ?aB ?aS ?aL ?_; (case aP => exact rfl); (case aB => exact (by repeat (first | (with_reducible first | exact HB.out | apply below_alloc | apply pw_below_drewN | apply below_drew1) | exact HB.out))); (case aF => exact (fun _ _ => trivial)); (case aO => exact (by (with_reducible repeat (first | apply Kd.R_alloc | apply Kd.R_drewN | apply Kd.R_drew)); exact HO_11.out)); (case aS => exact (below_size (by repeat (first | (with_reducible first | exact HB.out | apply below_alloc | apply pw_below_drewN | apply below_drew1) | exact HB.out)))); (case aL => have := LMc13.out; omega); intro v248 w15 ho hb hg hat; rw [← Ny247.out] at ho; have n0_ := Aside0.mk (Kd.R_over' (by (with_reducible repeat (first | apply Kd.R_alloc | apply Kd.R_drewN | apply Kd.R_drew)); exact HO246.out) (Kd.R_typed (by (with_reducible repeat (first | apply Kd.R_alloc | apply Kd.R_drewN | apply Kd.R_drew)); exact HO_11.out)) (by decide) hg); have n1_ := Aside0.mk (hb); have n2_ := Aside0.mk (ho); clear HO246; clear HB; clear HO_11; have HO246 := n0_; have HB := n1_; have HO249 := n2_; clear n0_ n1_ n2_; clear ho hb hg hat))
                go_roundg k1
                case measure => have := HK1.out; omega
                case rel => exact ⟨(y244), (y247), (wrap64 (x12_1 + 32)), (by first | rfl | (simp; done) | (simp [*]; done)), H', ⟨by have := HK1.out; omega⟩, ⟨by (with_reducible repeat (first | apply Kd.R_alloc | apply Kd.R_drewN | apply Kd.R_drew)); exact HO246.out⟩, ⟨by (with_reducible repeat (first | apply Kd.R_alloc | apply Kd.R_drewN | apply Kd.R_drew)); exact HO249.out⟩, ⟨by repeat (first | (with_reducible first | exact HB.out | apply below_alloc | apply pw_below_drewN | apply below_drew1) | exact HB.out)⟩⟩
              · rw [if_neg c13] at H
                exact absurd H (by simp)
            · rw [if_neg c12] at H
              exact absurd H (by simp)
          · replace c11 := Bool.eq_false_iff.mpr c11
            subst c11
            have H1 : (if 0 ≤ x12_1 then (if x10_1.length < 140737488355328 then (depotref14_Rewrite.l0 k1 a0 a1 a2 (x10_1 ++ [bt a0 x12_1]) x11_1 (wrap64 (x12_1 + 1))) else (none)) else (none)) = some (r1, r2, r3) := by rw [if_neg (show ¬ (false = true) by decide)] at H; exact H
            clear H
            have H := H1
            clear H1
            by_cases c16 : 0 ≤ x12_1
            · rw [if_pos c16] at H
              have c16b0 : decide (0 ≤ x12_1) = true := decide_eq_true c16
              clear c16
              by_cases c18 : x10_1.length < 140737488355328
              · rw [if_pos c18] at H
                have LMc18 := Aside0.mk c18
                clear c18
                obtain ⟨y250, hy250⟩ : ∃ y_ : List Int, y_ = (x10_1 ++ [bt a0 x12_1]) := ⟨_, rfl⟩
                replace H : (depotref14_Rewrite.l0 k1 a0 a1 a2 y250 x11_1 (wrap64 (x12_1 + 1))) = some (r1, r2, r3) := by first | (rw [hy250]; with_reducible exact H) | (have H2_ := (Option.bind_some _ _).symm.trans H; rw [hy250]; with_reducible exact H2_) | (have H2_ := (Option.bind_some _ _).symm.trans H; with_reducible exact H2_) | with_reducible exact H | (rw [hy250]; exact H) | exact H
                have Ny250 := Aside0.mk hy250
                clear hy250
                have H' := Aside0.mk H
                clear H
                go_wp2_with (first | ((with_reducible refine gate_callee (f := 24) rfl ?_); refine goesL_ (some 27) rfl rfl Try.func24 (by kernel_rfl) rfl #[.string a0, .string a1, .int .i64 x12_1] rfl (by (try simp only [List.map_toArray, List.map_cons, List.map_nil]); first | done | rfl | (simp only [List.length_drop, List.length_take]; rfl)) ?_; (with_reducible refine (depotref14_At.calls a0 a1 x12_1 false _ A10.out).mono ?_); rintro e w' ⟨rfl, ⟨nd, rfl⟩⟩; refine ⟨_, rfl, ?_⟩; have p17 : 0 ≤ (x12_1 : Int) := of_decide_eq_true (by first | (with_reducible assumption) | assumption); have q17 : x12_1 < (a0.size : Int) := of_decide_eq_true (by first | (with_reducible assumption) | assumption); have hx17 := bt_at a0 x12_1; replace p17 := eq_true p17; replace q17 := eq_true q17) | ((with_reducible refine gate_builtin (b := .append) (xs := #[.tmp 37, .tmp 41]) rfl ?_); at_builtin; refine Kd.R_append (Kd.int .u8) (w0 := w) w.heap.size rfl (.tmp 37) (.tmp 41) 36 5 (.int .u8 0) 1 rfl Try.underlying36 info5 rfl (by decide) (by omega) u10 x10_1 (bt a0 x12_1) [.int .u8 (bt a0 x12_1)] (fun _ => True) (fun _ => False) rfl rfl ?aP (fun _ hk => hk.elim) ?aF ?aO ?aB ?aS ?aL ?_; (case aP => exact rfl); (case aB => exact (by repeat (first | (with_reducible first | exact HB.out | apply below_alloc | apply pw_below_drewN | apply below_drew1) | exact HB.out))); (case aF => exact (fun _ _ => trivial)); (case aO => exact (by (with_reducible repeat (first | apply Kd.R_alloc | apply Kd.R_drewN | apply Kd.R_drew)); exact HO_10.out)); (case aS => exact (below_size (by repeat (first | (with_reducible first | exact HB.out | apply below_alloc | apply pw_below_drewN | apply below_drew1) | exact HB.out)))); (case aL => have := LMc18.out; omega); intro v251 w19 ho hb hg hat; rw [← Ny250.out] at ho; have n0_ := Aside0.mk (Kd.R_over' (by (with_reducible repeat (first | apply Kd.R_alloc | apply Kd.R_drewN | apply Kd.R_drew)); exact HO_11.out) (Kd.R_typed (by (with_reducible repeat (first | apply Kd.R_alloc | apply Kd.R_drewN | apply Kd.R_drew)); exact HO_10.out)) (by decide) hg); have n1_ := Aside0.mk (hb); have n2_ := Aside0.mk (ho); clear HO_11; clear HB; clear HO_10; have HO_11 := n0_; have HB := n1_; have HO252 := n2_; clear n0_ n1_ n2_; clear ho hb hg hat))
                go_roundg k1
                case measure => have := HK1.out; omega
                case rel => exact ⟨(y250), (x11_1), (wrap64 (x12_1 + 1)), (by first | rfl | (simp; done) | (simp [*]; done)), H', ⟨by have := HK1.out; omega⟩, ⟨by (with_reducible repeat (first | apply Kd.R_alloc | apply Kd.R_drewN | apply Kd.R_drew)); exact HO252.out⟩, ⟨by (with_reducible repeat (first | apply Kd.R_alloc | apply Kd.R_drewN | apply Kd.R_drew)); exact HO_11.out⟩, ⟨by repeat (first | (with_reducible first | exact HB.out | apply below_alloc | apply pw_below_drewN | apply below_drew1) | exact HB.out)⟩⟩
              · rw [if_neg c18] at H
                exact absurd H (by simp)
            · rw [if_neg c16] at H
              exact absurd H (by simp)
        · rw [if_neg c9] at H
          have c9b0 : decide (x12_1 < (a0.size : Int)) = false := decide_eq_false c9
          clear c9
          simp only [Option.some.injEq, Prod.mk.injEq] at H
          obtain ⟨rfl, rfl, rfl⟩ := H
          have hcv20 := own_string (P := Try.prog) Try.underlying36 Try.underlying5 Try.underlying9 (Kd.own_of_R HO_10.out)
          go_wp2
          go_ret3
          exact ⟨_, by first | rfl | (simp [errW_none, errW_some] <;> rfl) | (simp [*, errW_none, errW_some] <;> rfl), by (with_reducible repeat (first | apply Kd.R_alloc | apply Kd.R_drewN | apply Kd.R_drew)); exact HO_11.out, by repeat (first | (with_reducible first | exact HB.out | apply below_alloc | apply pw_below_drewN | apply below_drew1) | exact HB.out)⟩
  · rw [if_neg c5] at H
    have c5b0 : (t242 == 0) = false := beq_eq_false_iff_ne.mpr c5
    have c5b1 : (t242 != 0) = true := bne_iff_ne.mpr c5
    simp only [Option.some.injEq, Prod.mk.injEq] at H
    obtain ⟨rfl, rfl, rfl⟩ := H
    go_enter Try.func11, Try.ntmps11
    go_wp2_with (first | ((with_reducible refine gate_dst (N := 15) rfl ?_); refine Kd.R_lit Kd.string _ 9 ?hg (N := 15) ?hd (xs := ([a1, a2] : List ByteArray)) (inner := [.string a1, .string a2]) (ok := fun _ => True) (okp := fun _ => True) ?hr ?hp (fun _ hk => hk) trivial (Below.refl _ _) (Nat.le_refl _) (by simp) ?_; (case hd => rfl); (case hg => rfl); (case hr => first | (go_simp; done) | (go_simp; rfl)); (case hp => exact (Reps.one (show Kd.M Kd.string _ _ _ a1 [.string a1] from rfl) (Reps.one (show Kd.M Kd.string _ _ _ a2 [.string a2] from rfl) (Reps.none _ _)))); intro v240 w21 ho22 hb hg_ hnew_; clear hg_ hnew_; (first | rw [← Ny239.out] at ho22 | (simp only [Int.reduceToNat] at ho22; rw [← Ny239.out] at ho22)); have n0_ := Aside0.mk (Kd.R_lower ho22 (below_size (by repeat (first | (with_reducible first | exact HB.out | apply below_alloc | apply pw_below_drewN | apply below_drew1) | exact HB.out)))); have n1_ := Aside0.mk (below_step (by repeat (first | (with_reducible first | exact HB.out | apply below_alloc | apply pw_below_drewN | apply below_drew1) | exact HB.out)) hb); clear HB; have HO241 := n0_; have HB := n1_; clear n0_ n1_; clear hb ho22; obtain ⟨Ao23, co23, eo23⟩ := Kd.R_slice HO241.out; subst eo23) | ((with_reducible refine gate_callee (f := 21) rfl ?_); refine goesL_ (some 16) rfl rfl Try.func21 (by kernel_rfl) rfl #[.slice Ao23 y239.length co23] rfl (by (try simp only [List.map_toArray, List.map_cons, List.map_nil]); first | done | rfl | (simp only [List.length_drop, List.length_take]; rfl)) ?_; (with_reducible refine (depotref14_Wanted.calls k _ _ y239 t242 _ ?side1 ?side2 A4.out).mono ?_); (case side1 => repeat (first | exact (Kd.R_reads' HO241.out).2.2 | (with_reducible refine Kd.C_alloc ?_ _) | (with_reducible refine Kd.C_drewN ?_ _) | (with_reducible refine Kd.C_drew ?_))); (case side2 => exact (Kd.R_reads' HO241.out).2.1); rintro e w' ⟨rfl, ⟨nd, rfl⟩⟩; refine ⟨_, rfl, ?_⟩))
    go_ret3
    exact ⟨_, by first | rfl | (simp [errW_none, errW_some] <;> rfl) | (simp [*, errW_none, errW_some] <;> rfl), by first | exact Kd.R_nil _ _ _ _ _ | exact Kd.N_nil _ _ _ _ _ | exact Kd.V_nil _ _ _ _ _ | exact Kd.Q_nil _ _ _ _ _ | exact Kd.S_nil _ _ _ _ _, by repeat (first | (with_reducible first | exact HB.out | apply below_alloc | apply pw_below_drewN | apply below_drew1) | exact HB.out)⟩

end Go.Proofs.Ytbllmpfdhcbkpaa.Q
/- By a program of this session's: a plain Lean function for a Go function, and its contract. -/
namespace Go.Proofs.Ytbllmpfdhcbkpaa.Q
open Go.RowKit Go.Proofs.YtbllmpfdhcbkpaaW.PrintWords Go.Proofs.YtbllmpfdhcbkpaaW.PrintLast Go.Proofs.YtbllmpfdhcbkpaaW.PrintMore
attribute [local go_sem] max2_int min2_int max_two min_two max_three min_three max_four min_four Go.Proofs.Ytbllmpfdhcbkpaa.Ord.str_leq Go.Proofs.Ytbllmpfdhcbkpaa.Ord.str_gtr Go.Proofs.Ytbllmpfdhcbkpaa.Ord.str_geq   -- for this text's walks alone
set_option linter.unusedVariables false
set_option linter.unusedSimpArgs false

/-! ### depotlaw14_ints: function 12 -/
def depotlaw14_ints.l0 : Nat → List Int → List Int → Int → Int → Option (Bool)
  | 0, _, _, _, _ => none
  | k + 1, x0, x1, x12, x13 => if x13 < x12 then (if 0 ≤ x13 then (if x13 < (x0.length : Int) then (if x13 < (x1.length : Int) then (if (rd x0 x13) = (rd x1 x13) then (depotlaw14_ints.l0 k x0 x1 x12 (wrap64 (x13 + 1))) else (some false)) else (none)) else (none)) else (none)) else (some true)
def depotlaw14_ints.f (k : Nat) (l0 : List Int) (l1 : List Int) : Option (Bool) := if (l0.length : Int) = (l1.length : Int) then (depotlaw14_ints.l0 k l0 l1 (l0.length : Int) 0) else (some false)
theorem depotlaw14_ints.mono_l : ∀ k, (∀ y0 y1 y2 y3, LeO (depotlaw14_ints.l0 k y0 y1 y2 y3) (depotlaw14_ints.l0 (k + 1) y0 y1 y2 y3))
  | 0 => fun _ _ _ _ r h => by simp [depotlaw14_ints.l0] at h
  | k + 1 => by
    have ih0 := depotlaw14_ints.mono_l k
    · intro y0 y1 y2 y3
      unfold depotlaw14_ints.l0
      repeat' first
      | (with_reducible exact ih0 _ _ _ _)
      | (with_reducible exact LeO.refl _)
      | (with_reducible exact LeO.none _)
      | (with_reducible refine LeO.ite ?_ ?_)
      | (with_reducible refine LeO.bind ?_ (fun _ => ?_))
      | exact ih0 _ _ _ _
      | exact LeO.none _
      | refine LeO.ite ?_ ?_
      | refine LeO.bind ?_ (fun _ => ?_)
theorem depotlaw14_ints.mono : ∀ a0 a1 k, LeO (depotlaw14_ints.f k a0 a1) (depotlaw14_ints.f (k + 1) a0 a1) := by
  intro a0 a1 k
  have ih0 := depotlaw14_ints.mono_l k
  unfold depotlaw14_ints.f
  repeat' first
      | (with_reducible exact ih0 _ _ _ _)
      | (with_reducible exact LeO.refl _)
      | (with_reducible exact LeO.none _)
      | (with_reducible refine LeO.ite ?_ ?_)
      | (with_reducible refine LeO.bind ?_ (fun _ => ?_))
      | exact ih0 _ _ _ _
      | exact LeO.none _
      | refine LeO.ite ?_ ?_
      | refine LeO.bind ?_ (fun _ => ?_)
set_option maxHeartbeats 8000000 in
set_option maxRecDepth 100000 in
theorem depotlaw14_ints.calls (k : Nat) (A0 : Option Addr) (c0 : Nat) (l0 : List Int) (A1 : Option Addr) (c1 : Nat) (l1 : List Int) (r : Bool) (w : World) (hr0 : Kd.C (Kd.int .i64) w A0 l0.length l0) (hc0 : l0.length ≤ c0) (hr1 : Kd.C (Kd.int .i64) w A1 l1.length l1) (hc1 : l1.length ≤ c1) (h : depotlaw14_ints.f k l0 l1 = some r) :
    Calls Try.prog 12 #[.slice A0 l0.length c0, .slice A1 l1.length c1] w fun e w' => e = .returned (.bool r) ∧ Drawn0 w w' := by
  have HR0 := Aside0.mk hr0
  have HC0 := Aside0.mk hc0
  clear hr0 hc0
  have HR1 := Aside0.mk hr1
  have HC1 := Aside0.mk hc1
  clear hr1 hc1
  have H : (if (l0.length : Int) = (l1.length : Int) then (depotlaw14_ints.l0 k l0 l1 (l0.length : Int) 0) else (some false)) = some r := h
  clear h
  by_cases c3 : (l0.length : Int) = (l1.length : Int)
  · rw [if_pos c3] at H
    have c3b0 : ((l0.length : Int) == (l1.length : Int)) = true := beq_iff_eq.mpr c3
    have c3b1 : ((l0.length : Int) != (l1.length : Int)) = false := bne_eq_false_iff_eq.mpr c3
    have c3b2 : (l0.length == l1.length) = true := by first | simpa using c3 | (simp at c3 ⊢; omega)
    clear c3
    have H' := Aside0.mk H
    clear H
    go_enter Try.func12, Try.ntmps12
    go_wp2
    repeat (go_quiet (fail); try go_wp2)
    go_loopg [13] k (fun kq v13 w' => ∃ (x13_1 : Int), v13 = .int .i64 x13_1 ∧ Aside0 (depotlaw14_ints.l0 kq l0 l1 (l0.length : Int) x13_1 = some r) ∧ Aside0 (kq ≤ k) ∧ Drawn0 w w')
    case atStart => exact ⟨(0), (by first | rfl | (simp; done) | (simp [*]; done)), H', ⟨Nat.le_refl _⟩, by repeat (first | exact Drawn0.refl _ | apply Drawn0.step)⟩
    case round =>
      clear H'
      try clear c1
      try clear p2
      try clear c3
      try clear c3b0
      try clear c3b1
      try clear c3b2
      obtain ⟨x13_1, rfl, HA, HK1, ⟨m1, rfl⟩⟩ := hrel
      cases gk with
      | zero => exact absurd HA.out (by simp [depotlaw14_ints.l0])
      | succ k1 =>
        have H := HA.out
        clear HA
        simp only [depotlaw14_ints.l0] at H
        by_cases c4 : x13_1 < (l0.length : Int)
        · rw [if_pos c4] at H
          have c4b0 : decide (x13_1 < (l0.length : Int)) = true := decide_eq_true c4
          clear c4
          by_cases c5 : 0 ≤ x13_1
          · rw [if_pos c5] at H
            have c5b0 : decide (0 ≤ x13_1) = true := decide_eq_true c5
            clear c5
            by_cases c6 : x13_1 < (l0.length : Int)
            · rw [if_pos c6] at H
              have c6b0 : decide (x13_1 < (l0.length : Int)) = true := decide_eq_true c6
              clear c6
              by_cases c7 : x13_1 < (l1.length : Int)
              · rw [if_pos c7] at H
                have c7b0 : decide (x13_1 < (l1.length : Int)) = true := decide_eq_true c7
                clear c7
                by_cases c8 : (rd l0 x13_1) = (rd l1 x13_1)
                · rw [if_pos c8] at H
                  have c8b0 : ((rd l0 x13_1) == (rd l1 x13_1)) = true := beq_iff_eq.mpr c8
                  have c8b1 : ((rd l0 x13_1) != (rd l1 x13_1)) = false := bne_eq_false_iff_eq.mpr c8
                  clear c8
                  have H' := Aside0.mk H
                  clear H
                  have p253 : 0 ≤ (x13_1 : Int) := of_decide_eq_true (by first | (with_reducible assumption) | assumption)
                  have q253 : x13_1 < (l0.length : Int) := of_decide_eq_true (by first | (with_reducible assumption) | assumption)
                  obtain ⟨ad253, e253, hx253_0⟩ := Kd.at_int HR0.out x13_1 p253 q253
                  cases e253
                  replace p253 := eq_true p253
                  replace q253 := eq_true q253
                  have p254 : 0 ≤ (x13_1 : Int) := of_decide_eq_true (by first | (with_reducible assumption) | assumption)
                  have q254 : x13_1 < (l1.length : Int) := of_decide_eq_true (by first | (with_reducible assumption) | assumption)
                  obtain ⟨ad254, e254, hx254_0⟩ := Kd.at_int HR1.out x13_1 p254 q254
                  cases e254
                  replace p254 := eq_true p254
                  replace q254 := eq_true q254
                  go_wp2
                  repeat (go_quiet (fail); try go_wp2)
                  go_roundg k1
                  case measure => have := HK1.out; omega
                  case rel => exact ⟨(wrap64 (x13_1 + 1)), (by first | rfl | (simp; done) | (simp [*]; done)), H', ⟨by have := HK1.out; omega⟩, by repeat (first | exact Drawn0.refl _ | apply Drawn0.step)⟩
                · rw [if_neg c8] at H
                  have c8b0 : ((rd l0 x13_1) == (rd l1 x13_1)) = false := beq_eq_false_iff_ne.mpr c8
                  have c8b1 : ((rd l0 x13_1) != (rd l1 x13_1)) = true := bne_iff_ne.mpr c8
                  obtain rfl := Option.some.inj H
                  have p253 : 0 ≤ (x13_1 : Int) := of_decide_eq_true (by first | (with_reducible assumption) | assumption)
                  have q253 : x13_1 < (l0.length : Int) := of_decide_eq_true (by first | (with_reducible assumption) | assumption)
                  obtain ⟨ad253, e253, hx253_0⟩ := Kd.at_int HR0.out x13_1 p253 q253
                  cases e253
                  replace p253 := eq_true p253
                  replace q253 := eq_true q253
                  have p254 : 0 ≤ (x13_1 : Int) := of_decide_eq_true (by first | (with_reducible assumption) | assumption)
                  have q254 : x13_1 < (l1.length : Int) := of_decide_eq_true (by first | (with_reducible assumption) | assumption)
                  obtain ⟨ad254, e254, hx254_0⟩ := Kd.at_int HR1.out x13_1 p254 q254
                  cases e254
                  replace p254 := eq_true p254
                  replace q254 := eq_true q254
                  go_wp2
                  repeat (go_quiet (fail); try go_wp2)
                  go_ret
                  exact ⟨by first | rfl | (simp; done) | (simp [*]; done), by repeat (first | exact Drawn0.refl _ | apply Drawn0.step)⟩
              · rw [if_neg c7] at H
                exact absurd H (by simp)
            · rw [if_neg c6] at H
              exact absurd H (by simp)
          · rw [if_neg c5] at H
            exact absurd H (by simp)
        · rw [if_neg c4] at H
          have c4b0 : decide (x13_1 < (l0.length : Int)) = false := decide_eq_false c4
          clear c4
          obtain rfl := Option.some.inj H
          go_wp2
          repeat (go_quiet (fail); try go_wp2)
          go_ret
          exact ⟨by first | rfl | (simp; done) | (simp [*]; done), by repeat (first | exact Drawn0.refl _ | apply Drawn0.step)⟩
  · rw [if_neg c3] at H
    have c3b0 : ((l0.length : Int) == (l1.length : Int)) = false := beq_eq_false_iff_ne.mpr c3
    have c3b1 : ((l0.length : Int) != (l1.length : Int)) = true := bne_iff_ne.mpr c3
    have c3b2 : (l0.length == l1.length) = false := by first | simpa using c3 | (simp at c3 ⊢; omega)
    obtain rfl := Option.some.inj H
    go_enter Try.func12, Try.ntmps12
    go_wp2
    repeat (go_quiet (fail); try go_wp2)
    go_ret
    exact ⟨by first | rfl | (simp; done) | (simp [*]; done), by repeat (first | exact Drawn0.refl _ | apply Drawn0.step)⟩

end Go.Proofs.Ytbllmpfdhcbkpaa.Q
/- The document's Wanted, At and Rewrite; ints: in plain Lean. -/
namespace Go.Proofs.Ytbllmpfdhcbkpaa.Scan
open Go.RowKit Go.Proofs.Ytbllmpfdhcbkpaa.Q Go.Proofs.Ytbllmpfdhcbkpaa.SpathPure Go.Proofs.Ytbllmpfdhcbkpaa.Evs Go.Proofs.YtbllmpfdhcbkpaaW.PrintWords Go.Proofs.YtbllmpfdhcbkpaaW.PrintLast Go.Proofs.YtbllmpfdhcbkpaaW.PrintMore Go.Proofs.Ytbllmpfdhcbkpaa.Bytes
set_option linter.unusedVariables false
set_option linter.unusedSimpArgs false
theorem ref_wanted_l0 (hs : List ByteArray) (hl : hs.length ≤ 1099511627776) (d : Nat) : ∀ i, i + d = hs.length → Ev (fun k => depotref14_Wanted.l0 k hs (i : Int)) (wantedL (hs.drop i)) := by
  induction d with
  | zero =>
    intro i hi
    refine succ ?_
    simp only [depotref14_Wanted.l0]
    rw [List.drop_of_length_le (by omega)]
    exact neg (by omega) (Ev.now _)
  | succ d ih =>
    intro i hi
    have hlt : i < hs.length := by omega
    refine succ ?_
    simp only [depotref14_Wanted.l0]
    refine pos (by omega) (pos (by omega) ?_)
    have hd : hs.drop i = hs[i] :: hs.drop (i + 1) := List.drop_eq_getElem_cons hlt
    have hr : rdOf ByteArray.empty hs (i : Int) = hs[i] := by rw [rd_nat, List.getD_eq_getElem?_getD, List.getElem?_eq_getElem hlt]; rfl
    rw [hr]
    refine Ev.bind (ref_hash _) ?_
    rw [hd, wantedL]
    by_cases hz : hashNo (bs hs[i]) = 0
    · rw [if_neg (fun h => h hz)]
      refine pos hz ?_
      rw [wr i (by omega)]
      exact ih (i + 1) (by omega)
    · rw [if_pos hz]
      exact neg hz (Ev.now _)
theorem ref_wanted (hs : List ByteArray) (hl : hs.length ≤ 1099511627776) : Ev (fun k => depotref14_Wanted.f k hs) (wantedL hs) := by
  unfold depotref14_Wanted.f
  have := ref_wanted_l0 hs hl hs.length 0 (by omega)
  rwa [List.drop_zero] at this
theorem wanted_two (f t : ByteArray) : wantedL [f, t] = wanted2 f t := by
  unfold wantedL wantedL wantedL wanted2
  split
  · rfl
  · split
    · rfl
    · next h => exact (Classical.not_not.1 h).symm
def nb (l : List UInt8) : List Int := l.map (fun b : UInt8 => (b.toNat : Int))
theorem str_nb (l : List UInt8) : strOfNums (nb l) = ⟨l.toArray⟩ := by
  unfold strOfNums nb
  rw [List.map_map]
  congr 2
  rw [List.map_congr_left (g := id) (fun x _ => by simp), List.map_id]
theorem ref_at (text f : ByteArray) (hf : (bs f).length = 32) (hs : text.size ≤ 4294967000) (i : Nat) (hi : i ≤ text.size) : depotref14_At.f text f (i : Int) = some (decide (((bs text).drop i).take 32 = bs f)) := by
  have hfs : f.size = 32 := by rw [size_bs]; exact hf
  have hw : wrap64 ((i : Int) + (f.size : Int)) = ((i + 32 : Nat) : Int) := by rw [hfs, w64 (by omega) (by omega)]; omega
  unfold depotref14_At.f
  rw [hw]
  by_cases h : i + 32 ≤ text.size
  · rw [if_pos (by omega), if_pos (by omega), if_pos (by omega)]
    congr 1
    rw [toList_bs, toList_bs, bs_extract, Int.toNat_natCast, Int.toNat_natCast, show i + 32 - i = 32 by omega, Bool.eq_iff_iff, beq_iff_eq, decide_eq_true_eq]
  · rw [if_neg (by omega)]
    congr 1
    refine (decide_eq_false (fun e => ?_)).symm
    have := win_length hf e
    rw [← size_bs] at this
    omega
theorem ref_rw_l0 (text f t : ByteArray) (hf : (bs f).length = 32) (ht : (bs t).length = 32) (hs : text.size ≤ 4294967000) : ∀ (n i : Nat) (out : List UInt8) (pl : List Nat), i + n = text.size → out.length ≤ i → pl.length ≤ i →
    Ev (fun k => depotref14_Rewrite.l0 k text f t (nb out) (zs pl) (i : Int)) (⟨(out ++ R (bs f) (bs t) ((bs text).drop i)).toArray⟩, zs (pl ++ Pl (bs f) ((bs text).drop i) i), 0) := by
  intro n
  induction n using Nat.strongRecOn with
  | _ n ih =>
    intro i out pl hi ho hp
    have hts : t.size = 32 := by rw [size_bs]; exact ht
    have hnb : (nb out).length = out.length := by unfold nb; rw [List.length_map]
    have hzl : (zs pl).length = pl.length := by unfold zs; rw [List.length_map]
    refine succ ?_
    simp only [depotref14_Rewrite.l0]
    by_cases hlt : i < text.size
    · refine pos (by omega) ?_
      refine call (ref_at text f hf hs i (by omega)) ?_
      have hlb : i < (bs text).length := by rw [← size_bs]; exact hlt
      have hd : (bs text).drop i = (bs text)[i] :: (bs text).drop (i + 1) := List.drop_eq_getElem_cons hlb
      by_cases e : ((bs text).drop i).take 32 = bs f
      · have hwl := win_length hf e
        rw [← size_bs] at hwl
        refine pos (decide_eq_true e) (pos (by rw [hnb, hts]; omega) (pos (by rw [hzl]; omega) ?_))
        have hw : wrap64 ((i : Int) + 32) = ((i + 32 : Nat) : Int) := by rw [w64 (by omega) (by omega)]; omega
        have e1 : nb out ++ bytesOf t = nb (out ++ bs t) := by
          unfold nb bs
          rw [List.map_append]
          rfl
        have e2 : zs pl ++ [(i : Int)] = zs (pl ++ [i]) := by
          unfold zs
          rw [List.map_append]
          rfl
        rw [hw, e1, e2]
        clear hw e1 e2
        refine same ?_ (ih (n - 32) (by omega) (i + 32) (out ++ bs t) (pl ++ [i]) (by omega) (by rw [List.length_append, ht]; omega) (by rw [List.length_append, List.length_singleton]; omega))
        rw [R_hit hf e, Pl_hit hf e, List.drop_drop, List.append_assoc, List.append_assoc]
        rfl
      · refine neg (by rw [decide_eq_true_eq]; exact e) (pos (by omega) (pos (by rw [hnb]; omega) ?_))
        have e1 : nb out ++ [bt text (i : Int)] = nb (out ++ [(bs text)[i]]) := by
          rw [bt_lt text i hlb]
          unfold nb
          rw [List.map_append]
          rfl
        rw [wr i (by omega), e1]
        clear e1
        refine same ?_ (ih (n - 1) (by omega) (i + 1) (out ++ [(bs text)[i]]) pl (by omega) (by rw [List.length_append, List.length_singleton]; omega) (by omega))
        rw [hd] at e ⊢
        rw [R_miss e, Pl_miss e, List.append_assoc]
        rfl
    · refine neg (by omega) ?_
      refine same ?_ (Ev.now _)
      rw [List.drop_of_length_le (by rw [← size_bs]; omega), R_nil, Pl_nil, List.append_nil, List.append_nil, str_nb]
theorem ref_rewrite (text f t : ByteArray) (hs : text.size ≤ 4294967000) : Ev (fun k => depotref14_Rewrite.f k text f t) (if wanted2 f t = 0 then (⟨(R (bs f) (bs t) (bs text)).toArray⟩, zs (Pl (bs f) (bs text) 0), 0) else (⟨#[]⟩, [], wanted2 f t)) := by
  unfold depotref14_Rewrite.f
  refine Ev.bind (ref_wanted [f, t] (by simp)) ?_
  rw [wanted_two]
  by_cases h : wanted2 f t = 0
  · obtain ⟨h1, h2⟩ := wanted_len h
    rw [if_pos h]
    refine pos h ?_
    have := ref_rw_l0 text f t h1 h2 hs text.size 0 [] [] (by omega) (Nat.le_refl _) (Nat.le_refl _)
    rw [List.drop_zero, List.nil_append, List.nil_append] at this
    exact this
  · rw [if_neg h]
    exact neg h (Ev.now _)
theorem ints_l0 (l : List Int) (hl : l.length ≤ 1099511627776) (d : Nat) : ∀ i, i + d = l.length → Ev (fun k => depotlaw14_ints.l0 k l l (l.length : Int) (i : Int)) true := by
  induction d with
  | zero =>
    intro i hi
    refine succ ?_
    simp only [depotlaw14_ints.l0]
    exact neg (by omega) (Ev.now _)
  | succ d ih =>
    intro i hi
    refine succ ?_
    simp only [depotlaw14_ints.l0]
    refine pos (by omega) (pos (by omega) (pos (by omega) (pos (by omega) (pos (by first | rfl | trivial) ?_))))
    rw [wr i (by omega)]
    exact ih (i + 1) (by omega)
theorem ints_same (l : List Int) (hl : l.length ≤ 1099511627776) : Ev (fun k => depotlaw14_ints.f k l l) true := by
  unfold depotlaw14_ints.f
  exact pos (by first | rfl | trivial) (ints_l0 l hl l.length 0 (by omega))
end Go.Proofs.Ytbllmpfdhcbkpaa.Scan
/- The law ScanRewrites. -/
namespace Go.Proofs.Ytbllmpfdhcbkpaa.Scan
open Go.Shelf Go.RowKit Go.Proofs.Ytbllmpfdhcbkpaa.Q Go.Proofs.Ytbllmpfdhcbkpaa.SpathPure Go.Proofs.YtbllmpfdhcbkpaaW.PrintWords Go.Proofs.YtbllmpfdhcbkpaaW.PrintLast Go.Proofs.YtbllmpfdhcbkpaaW.PrintMore Go.Proofs.Ytbllmpfdhcbkpaa.Bytes
set_option linter.unusedVariables false
set_option linter.unusedSimpArgs false
set_option maxRecDepth 100000 in
set_option maxHeartbeats 4000000 in
theorem rewrites_true (w : World) (m : Int) (hm : w.cell? ⟨0, 0, none⟩ = some (.int .i64 m)) (x0 x1 x2 : ByteArray) (h0 : x0.size ≤ 1048576) (h1 : x1.size ≤ 1048576) (h2 : x2.size ≤ 1048576) :
    Calls Try.prog 3 #[.string x0, .string x1, .string x2] w fun e w' => e = .returned (.bool true) ∧ Below w.heap.size w w' := by
  have hz := mx_pos hm
  have HM := Aside0.mk hm
  have CA := Aside0.mk (awake_calls w m hm)
  have CR := Aside0.mk (fun (W : World) (hW : W.cell? ⟨0, 0, none⟩ = some (.int .i64 m)) => rewrite_calls W m x0 x1 x2 hW (by omega) (by omega) (by omega))
  obtain ⟨k, hk⟩ := ref_rewrite x0 x1 x2 (by omega)
  have hk := hk k (Nat.le_refl _)
  by_cases hw : wanted2 x1 x2 = 0
  · rw [if_pos hw] at hk
    obtain ⟨hf, ht⟩ := wanted_len hw
    have hpl := Pl_length hf _ (bs x0) 0 (Nat.le_refl _)
    rw [← size_bs] at hpl
    have CR2 := Aside0.mk (fun (W : World) (hW : W.cell? ⟨0, 0, none⟩ = some (.int .i64 m)) => (CR.out W hW).mono (R' := fun e w' => Below W.heap.size W w' ∧ ∃ v', e = .returned (.tuple #[.string ⟨(R (bs x1) (bs x2) (bs x0)).toArray⟩, v', .int .i64 0]) ∧ Kd.R (Kd.int .i64) 3 w' W.heap.size (fun _ => True) v' (zs (Pl (bs x1) (bs x0) 0))) (fun e w' h => ⟨h.1, by
      rcases h.2 with h | h
      · exact absurd hw h.1
      · exact h.2⟩))
    have CF := Aside0.mk (fun (W : World) => depotref14_Rewrite.calls k x0 x1 x2 _ _ _ W hk)
    obtain ⟨O, hO⟩ : ∃ O : ByteArray, (⟨(R (bs x1) (bs x2) (bs x0)).toArray⟩ : ByteArray) = O := ⟨_, rfl⟩
    obtain ⟨P, hP⟩ : ∃ P : List Int, zs (Pl (bs x1) (bs x0) 0) = P := ⟨_, rfl⟩
    have hPl : P.length ≤ 1099511627776 := by rw [← hP]; unfold zs; rw [List.length_map]; omega
    simp only [hO, hP] at CR2 CF
    obtain ⟨k2, hk2⟩ := ints_same P hPl
    have HK2 := Aside0.mk (hk2 k2 (Nat.le_refl _))
    have d1 : (O.toList == O.toList) = true := by simp
    clear hk hk2 hO hP hPl hpl hf ht hw CR hm h0 h1 h2
    go_enter Try.func3, Try.ntmps3
    go_wp2_with (first
      | (go_at_call 9; ((with_reducible refine CA.out.mono ?_)); rintro e w1 ⟨rfl, hb⟩; have HB1 := Aside0.mk hb; clear hb)
      | (go_at_call 10; ((with_reducible refine (CR2.out w1 (mx_below HM.out HB1.out hz)).mono ?_)); rintro e w2 ⟨hb, v2, rfl, hr2⟩; have HB2 := Aside0.mk (HB1.out.trans (hb.mono HB1.out.size)); obtain ⟨A2, c2, rfl, hc2, hC2⟩ := Kd.R_reads hr2; have HC2 := Aside0.mk hC2; have HD2 := Aside0.mk hc2; clear hb hr2 hC2 hc2)
      | (go_at_call 11; ((with_reducible refine (CF.out w2).mono ?_)); rintro e w3 ⟨v3, rfl, hr3, hb⟩; have HB3 := Aside0.mk (HB2.out.trans (hb.mono HB2.out.size)); have HC3 := Aside0.mk (Kd.C_below HC2.out hb); obtain ⟨A3, c3, rfl, hc3, hC3⟩ := Kd.R_reads hr3; have HE3 := Aside0.mk hC3; have HD3 := Aside0.mk hc3; clear hb hr3 hC3 hc3)
      | (go_at_call 12; ((with_reducible refine (depotlaw14_ints.calls k2 A2 c2 P A3 c3 P true w3 HC3.out HD2.out HE3.out HD3.out HK2.out).mono ?_)); rintro e w4 ⟨rfl, hd⟩; have HB4 := Aside0.mk (HB3.out.trans (hd.below.mono HB3.out.size)); clear hd))
    go_ret
    exact ⟨rfl, HB4.out⟩
  · rw [if_neg hw] at hk
    have CR2 := Aside0.mk (fun (W : World) (hW : W.cell? ⟨0, 0, none⟩ = some (.int .i64 m)) => (CR.out W hW).mono (R' := fun e w' => Below W.heap.size W w' ∧ e = .returned (.tuple #[.string ⟨#[]⟩, .slice none 0 0, .int .i64 (wanted2 x1 x2)])) (fun e w' h => ⟨h.1, by
      rcases h.2 with h | h
      · exact h.2
      · exact absurd h.1 hw⟩))
    have CF := Aside0.mk (fun (W : World) => depotref14_Rewrite.calls k x0 x1 x2 _ _ _ W hk)
    obtain ⟨nw, hnw⟩ : ∃ a, wanted2 x1 x2 = a := ⟨_, rfl⟩
    simp only [hnw] at CR2 CF
    obtain ⟨k2, hk2⟩ := ints_same [] (by decide)
    have HK2 := Aside0.mk (hk2 k2 (Nat.le_refl _))
    have d2 : (nw == nw) = true := by simp
    clear hk hk2 hw CR hm h0 h1 h2 hnw
    go_enter Try.func3, Try.ntmps3
    go_wp2_with (first
      | (go_at_call 9; ((with_reducible refine CA.out.mono ?_)); rintro e w1 ⟨rfl, hb⟩; have HB1 := Aside0.mk hb; clear hb)
      | (go_at_call 10; ((with_reducible refine (CR2.out w1 (mx_below HM.out HB1.out hz)).mono ?_)); rintro e w2 ⟨hb, rfl⟩; have HB2 := Aside0.mk (HB1.out.trans (hb.mono HB1.out.size)); clear hb)
      | (go_at_call 11; ((with_reducible refine (CF.out w2).mono ?_)); rintro e w3 ⟨v3, rfl, hr3, hb⟩; have HB3 := Aside0.mk (HB2.out.trans (hb.mono HB2.out.size)); obtain ⟨A3, c3, rfl, hc3, hC3⟩ := Kd.R_reads hr3; have HE3 := Aside0.mk hC3; have HD3 := Aside0.mk hc3; clear hb hr3 hC3 hc3)
      | (go_at_call 12; have CI : Calls Try.prog 12 #[.slice none 0 0, .slice A3 0 c3] w3 (fun e w' => e = .returned (.bool true) ∧ Drawn0 w3 w') := depotlaw14_ints.calls k2 none 0 [] A3 c3 [] true w3 ⟨rfl, by decide, fun h => absurd h (by decide)⟩ (Nat.le_refl _) HE3.out HD3.out HK2.out; ((with_reducible refine CI.mono ?_)); rintro e w4 ⟨rfl, hd⟩; have HB4 := Aside0.mk (HB3.out.trans (hd.below.mono HB3.out.size)); clear hd))
    go_ret
    exact ⟨rfl, HB4.out⟩
end Go.Proofs.Ytbllmpfdhcbkpaa.Scan
/- What came in, opened by its kind: a reading of a value ys data gives the Lean value of the print's kinds, with its sizes. For rows over slices and structs. -/
set_option linter.unusedVariables false
set_option linter.unusedSimpArgs false
namespace Go.Proofs.Ytbllmpfdhcbkpaa.Opens
open Go.RowKit Go.Deep Go.Proofs.YtbllmpfdhcbkpaaW.PrintWords

section
variable {α β : Type}
/-- A reading at type t gives a value of kind d: its cells (K), its weights (each no more than one of the datum's, or 0), its bulk, and what is good about its numbers. -/
structure Opens (P : Program) (t : TypeId) (d : Kd α) (Wt : α → List Nat) (Bk : α → Nat) (Gd : α → Prop) : Prop where
  sz : P.cellsOf t = d.sz
  out : ∀ {H : Type} {enc : TypeId × Value → H} {w : World} {base : Nat} {spare : Nat → Bool} {held : Bool} {fuel : Nat} {cs : List Value} {x : DataW H × List MemPlace},
    DataW.trod enc P w base spare held fuel t cs = some x → ∃ a, d.K w a cs ∧ (∀ n ∈ Wt a, n = 0 ∨ ∃ m ∈ x.1.weights P t, n ≤ m) ∧ Bk a ≤ Rows.uptoBulk x.1 ∧ Gd a

variable {P : Program} {t : TypeId}
theorem opens_string (ht : P.underlying t = some .string) (hs : P.cellsOf t = 1) : Opens P t Kd.string (fun s => [s.size]) (fun s => s.size + 1) (fun s => s.size ≤ maxLen) := by
  refine ⟨hs, fun {H enc w base spare held fuel cs x} h => ?_⟩
  obtain ⟨s, rfl, rfl, hw⟩ := DataW.trod_string ht h
  refine ⟨s, rfl, ?_, ?_, hw⟩
  · intro n hn
    rw [List.mem_singleton] at hn
    refine .inr ⟨s.data.toList.length, by rw [DataW.weights]; exact List.mem_singleton.2 rfl, ?_⟩
    rw [hn, Array.length_toList]
    exact Nat.le_refl _
  · rw [Rows.uptoBulk, Array.length_toList]
    exact Nat.le_refl _
theorem opens_bool (ht : P.underlying t = some .bool) (hs : P.cellsOf t = 1) : Opens P t Kd.bool (fun _ => []) (fun _ => 1) (fun _ => True) := by
  refine ⟨hs, fun {H enc w base spare held fuel cs x} h => ?_⟩
  obtain ⟨b, rfl, rfl⟩ := DataW.trod_bool ht h
  exact ⟨b, rfl, fun _ h => absurd h (by simp), by rw [Rows.uptoBulk] <;> simp, trivial⟩
theorem opens_int {k : IntKind} (ht : P.underlying t = some (.int k)) (hs : P.cellsOf t = 1) : Opens P t (Kd.int k) (fun _ => []) (fun _ => 1) (fun n => (Lit.int k n).wf = true) := by
  refine ⟨hs, fun {H enc w base spare held fuel cs x} h => ?_⟩
  obtain ⟨n, rfl, rfl, hw⟩ := DataW.trod_int ht h
  exact ⟨n, rfl, fun _ h => absurd h (by simp), by rw [Rows.uptoBulk] <;> simp, hw⟩

theorem list_of {Q : Nat → α → Prop} : ∀ (n : Nat), (∀ i, i < n → ∃ a, Q i a) → ∃ ys : List α, ys.length = n ∧ ∀ i a, ys[i]? = some a → Q i a
  | 0, _ => ⟨[], rfl, fun i a h => by simp at h⟩
  | n + 1, h => by
    obtain ⟨ys, hl, hq⟩ := list_of n (fun i hi => h i (by omega))
    obtain ⟨a, ha⟩ := h n (by omega)
    refine ⟨ys ++ [a], by simp [hl], fun i b hb => ?_⟩
    rcases Nat.lt_or_ge i n with hi | hi
    · rw [List.getElem?_append_left (by omega)] at hb
      exact hq i b hb
    · have : i < (ys ++ [a]).length := (List.getElem?_eq_some_iff.1 hb).1
      simp [hl] at this
      have e : i = n := by omega
      subst e
      rw [List.getElem?_append_right (by omega), hl, Nat.sub_self] at hb
      simp at hb
      subst hb
      exact ha
theorem sum_le_range (ys : List α) (Bk : α → Nat) (b : Nat → Nat) (h : ∀ i a, ys[i]? = some a → Bk a ≤ b i) : (ys.map Bk).sum ≤ ((List.range ys.length).map b).sum := by
  induction ys generalizing b with
  | nil => simp
  | cons a ys ih =>
    have h0 := h 0 a rfl
    have h1 := ih (fun i => b (i + 1)) (fun i a ha => h (i + 1) a (by simpa using ha))
    rw [List.length_cons, List.range_succ_eq_map, List.map_cons, List.sum_cons, List.map_cons, List.sum_cons, List.map_map]
    have e : (List.map (b ∘ Nat.succ) (List.range ys.length)) = List.map (fun i => b (i + 1)) (List.range ys.length) := rfl
    rw [e]
    omega
theorem bulkAll_sum {H : Type} (l : List (DataW H)) : Rows.uptoBulkAll l = (l.map Rows.uptoBulk).sum := by
  induction l with
  | nil => rfl
  | cons d l ih => rw [Rows.uptoBulkAll, ih, List.map_cons, List.sum_cons]
theorem weightsAll_mem {H : Type} {e : TypeId} : ∀ (l : List (DataW H)) (d : DataW H), d ∈ l → ∀ m ∈ d.weights P e, m ∈ DataW.weightsAll P e l
  | [], d, h => absurd h (by simp)
  | d' :: l, d, h => by
    intro m hm
    rw [DataW.weightsAll, List.mem_append]
    rcases List.mem_cons.1 h with rfl | h
    · exact .inl hm
    · exact .inr (weightsAll_mem l d h m hm)

theorem opens_slice {e : TypeId} {d : Kd α} {Wt : α → List Nat} {Bk : α → Nat} {Gd : α → Prop} (ht : P.underlying t = some (.slice e)) (hs : P.cellsOf t = 1) (he : Opens P e d Wt Bk Gd) :
    Opens P t (Kd.slice e d) (fun xs => (xs.length * P.bytesOf e) :: xs.flatMap Wt) (fun xs => (xs.map Bk).sum + 1) (fun xs => xs.length ≤ maxLen ∧ ∀ x ∈ xs, Gd x) := by
  refine ⟨hs, fun {H enc w base spare held fuel cs x} h => ?_⟩
  rcases open_slice ht h with ⟨rfl, rfl⟩ | ⟨a, len, cap, m, n, D, Pl, rfl, hb, hl, hm, hmm, rfl, hx⟩
  · exact ⟨[], ⟨none, 0, rfl, Nat.le_refl _, Kd.C_nil d w⟩, fun n hn => .inl (by simpa using hn), by rw [Rows.uptoBulk]; simp, by simp, by simp⟩
  · have hlm : len ≤ m := by rw [hmm]; split <;> omega
    have each : ∀ i, i < len → ∃ b : α, (∃ cs', w.cells? base (a.add (i * P.cellsOf e)) (P.cellsOf e) = some cs' ∧ d.K w b cs') ∧ (∀ q ∈ Wt b, q = 0 ∨ ∃ r ∈ (D i).weights P e, q ≤ r) ∧ Bk b ≤ Rows.uptoBulk (D i) ∧ Gd b := by
      intro i hi
      obtain ⟨cs', h1, h2⟩ := hx i (by omega)
      obtain ⟨b, hK, hw, hk, hg⟩ := he.out h2
      exact ⟨b, ⟨cs', h1, hK⟩, hw, hk, hg⟩
    obtain ⟨ys, hal, has⟩ := list_of len each
    subst hal
    refine ⟨ys, ⟨some a, cap, rfl, hl, rfl, by unfold maxLen at hm; omega, fun hp => ⟨a, rfl, fun j p hj => ?_⟩⟩, ?_, ?_, by omega, ?_⟩
    · obtain ⟨⟨cs', h1, hK⟩, _⟩ := has j p hj
      refine ⟨cs', d.K_len hK, hK, fun i u hu => ?_⟩
      have hc := World.cells?_some h1
      rw [he.sz] at hc
      obtain ⟨hc0, hc1, hc2⟩ := hc
      have hi : i < d.sz := by rw [← d.K_len hK]; exact (List.getElem?_eq_some_iff.1 hu).1
      have := hc2 i (by omega)
      rw [hu] at this
      rw [Go.Deep.add_add] at this
      exact this
    · intro q hq
      rw [List.mem_cons, List.mem_flatMap] at hq
      have hwt : (DataW.slice ((List.range ys.length).map D) ((List.range (m - ys.length)).map fun j => D (ys.length + j)) : DataW H).weights P t = (((List.range ys.length).map D).length + ((List.range (m - ys.length)).map fun j => D (ys.length + j)).length) * P.bytesOf e :: (DataW.weightsAll P e ((List.range ys.length).map D) ++ DataW.weightsAll P e ((List.range (m - ys.length)).map fun j => D (ys.length + j))) := by
        rw [DataW.weights, ht]
      show q = 0 ∨ ∃ r ∈ (DataW.slice ((List.range ys.length).map D) ((List.range (m - ys.length)).map fun j => D (ys.length + j)) : DataW H).weights P t, q ≤ r
      rw [hwt]
      rcases hq with rfl | ⟨b, hbm, hq⟩
      · refine .inr ⟨_, List.mem_cons_self, ?_⟩
        refine Nat.mul_le_mul_right _ ?_
        simp
      · obtain ⟨i, hi⟩ := List.getElem?_of_mem hbm
        have hil : i < ys.length := (List.getElem?_eq_some_iff.1 hi).1
        obtain ⟨_, hw, _⟩ := has i b hi
        rcases hw q hq with h0 | ⟨r, hr, hqr⟩
        · exact .inl h0
        · exact .inr ⟨r, List.mem_cons_of_mem _ (List.mem_append_left _ (weightsAll_mem _ (D i) (List.mem_map.2 ⟨i, List.mem_range.2 hil, rfl⟩) r hr)), hqr⟩
    · show _ ≤ Rows.uptoBulk (DataW.slice ((List.range ys.length).map D) ((List.range (m - ys.length)).map fun j => D (ys.length + j)) : DataW H)
      rw [Rows.uptoBulk, bulkAll_sum, List.map_map]
      have := sum_le_range ys Bk (fun i => Rows.uptoBulk (D i)) (fun i b hb => (has i b hb).2.2.1)
      have e2 : (List.map (Rows.uptoBulk ∘ D) (List.range ys.length)) = List.map (fun i => Rows.uptoBulk (D i)) (List.range ys.length) := rfl
      rw [e2]
      omega
    · intro b hbm
      obtain ⟨i, hi⟩ := List.getElem?_of_mem hbm
      exact (has i b hi).2.2.2

/-- Fields, from a place on. -/
structure OpensF (P : Program) (fs : List Field) (off : Nat) (d : Kd α) (Wt : α → List Nat) (Bk : α → Nat) (Gd : α → Prop) : Prop where
  out : ∀ {H : Type} {enc : TypeId × Value → H} {w : World} {base : Nat} {spare : Nat → Bool} {held : Bool} {fuel : Nat} {cs : List Value} {xs : List (DataW H × List MemPlace)},
    cs.length = off + d.sz → xs.length = fs.length → (∀ (i : Nat) (f : Field), fs[i]? = some f → DataW.trod enc P w base spare held fuel f.type ((cs.drop f.offset).take (P.cellsOf f.type)) = xs[i]?) →
    ∃ a, d.K w a (cs.drop off) ∧ (∀ n ∈ Wt a, n = 0 ∨ ∃ m ∈ DataW.weightsEach P (fs.map (·.type)) (xs.map (·.1)), n ≤ m) ∧ Bk a ≤ Rows.uptoBulkAll (xs.map (·.1)) ∧ Gd a
theorem opensF_one {f : Field} {off : Nat} {d : Kd α} {Wt : α → List Nat} {Bk : α → Nat} {Gd : α → Prop} (ho : f.offset = off) (he : Opens P f.type d Wt Bk Gd) : OpensF P [f] off d Wt Bk Gd := by
  refine ⟨fun {H enc w base spare held fuel cs xs} hc hl h => ?_⟩
  match xs, hl with
  | [x], _ =>
    have h0 := h 0 f rfl
    rw [ho, he.sz, List.take_of_length_le (by rw [List.length_drop]; omega)] at h0
    obtain ⟨a, hK, hw, hb, hg⟩ := he.out h0
    refine ⟨a, hK, fun n hn => ?_, ?_, hg⟩
    · rcases hw n hn with h | ⟨m, hm, hle⟩
      · exact .inl h
      · refine .inr ⟨m, ?_, hle⟩
        simp only [List.map_cons, List.map_nil, DataW.weightsEach, List.append_nil]
        exact hm
    · simp only [List.map_cons, List.map_nil, Rows.uptoBulkAll]
      omega
theorem opensF_cons {f : Field} {fs : List Field} {off : Nat} {d : Kd α} {d' : Kd β} {Wt : α → List Nat} {Bk : α → Nat} {Gd : α → Prop} {Wt' : β → List Nat} {Bk' : β → Nat} {Gd' : β → Prop}
    (ho : f.offset = off) (he : Opens P f.type d Wt Bk Gd) (hr : OpensF P fs (off + d.sz) d' Wt' Bk' Gd') :
    OpensF P (f :: fs) off (Kd.pair d d') (fun x => Wt x.1 ++ Wt' x.2) (fun x => Bk x.1 + Bk' x.2) (fun x => Gd x.1 ∧ Gd' x.2) := by
  refine ⟨fun {H enc w base spare held fuel cs xs} hc hl h => ?_⟩
  have hsz : (Kd.pair d d').sz = d.sz + d'.sz := rfl
  rw [hsz] at hc
  match xs, hl with
  | x :: xs, hl =>
    have h0 := h 0 f rfl
    rw [ho, he.sz] at h0
    obtain ⟨a, hK, hw, hb, hg⟩ := he.out h0
    obtain ⟨b, hK', hw', hb', hg'⟩ := hr.out (enc := enc) (w := w) (base := base) (spare := spare) (held := held) (fuel := fuel) (cs := cs) (xs := xs) (by omega) (by simpa using hl) (fun i f' hf => by simpa using h (i + 1) f' (by simpa using hf))
    refine ⟨(a, b), ⟨(cs.drop off).take d.sz, cs.drop (off + d.sz), ?_, hK, hK'⟩, fun n hn => ?_, ?_, hg, hg'⟩
    · rw [← List.drop_drop, List.take_append_drop]
    · simp only [List.map_cons, DataW.weightsEach, List.mem_append]
      rcases List.mem_append.1 hn with hn | hn
      · rcases hw n hn with h | ⟨m, hm, hle⟩
        · exact .inl h
        · exact .inr ⟨m, .inl hm, hle⟩
      · rcases hw' n hn with h | ⟨m, hm, hle⟩
        · exact .inl h
        · exact .inr ⟨m, .inr hm, hle⟩
    · simp only [List.map_cons, Rows.uptoBulkAll]
      omega
theorem opens_struct {fs : Array Field} {d : Kd α} {Wt : α → List Nat} {Bk : α → Nat} {Gd : α → Prop} (ht : P.underlying t = some (.struct fs)) (hs : P.cellsOf t = d.sz) (he : OpensF P fs.toList 0 d Wt Bk Gd) :
    Opens P t d Wt (fun a => Bk a + 1) Gd := by
  refine ⟨hs, fun {H enc w base spare held fuel cs x} h => ?_⟩
  obtain ⟨xs, n, rfl, rfl, hl, hl2, hx⟩ := DataW.trod_struct ht h
  obtain ⟨a, hK, hw, hb, hg⟩ := he.out (enc := enc) (w := w) (base := base) (spare := spare) (held := held) (fuel := n) (cs := cs) (xs := xs) (by omega) (by simpa using hl2) (fun i f hf => hx i f (by simpa using hf))
  refine ⟨a, by simpa using hK, fun n hn => ?_, ?_, hg⟩
  · rcases hw n hn with h | ⟨m, hm, hle⟩
    · exact .inl h
    · refine .inr ⟨m, ?_, hle⟩
      show m ∈ (DataW.agg (xs.map (·.1))).weights P t
      rw [DataW.weights, ht]
      exact hm
  · show _ ≤ Rows.uptoBulk (DataW.agg (xs.map (·.1)))
    rw [Rows.uptoBulk]
    omega
theorem opens_iso {d : Kd α} {Wt : α → List Nat} {Bk : α → Nat} {Gd : α → Prop} (f : β → α) (g : α → β) (hfg : ∀ a, f (g a) = a) (h : Opens P t d Wt Bk Gd) : Opens P t (Kd.iso d f) (fun b => Wt (f b)) (fun b => Bk (f b)) (fun b => Gd (f b)) := by
  refine ⟨h.sz, fun {H enc w base spare held fuel cs x} hx => ?_⟩
  obtain ⟨a, hK, hw, hb, hg⟩ := h.out hx
  refine ⟨g a, ?_, ?_, ?_, ?_⟩
  · show d.K w (f (g a)) cs
    rw [hfg]; exact hK
  · rw [hfg]; exact hw
  · rw [hfg]; exact hb
  · rw [hfg]; exact hg

/-- At an argument: its weights are within the reach. -/
theorem arg {H : Type} {enc : TypeId × Value → H} {w : World} {base : Nat} {spare : Nat → Bool} {held : Bool} {v : Value} {dd : DataW H} {ps : List MemPlace} {d : Kd α} {Wt : α → List Nat} {Bk : α → Nat} {Gd : α → Prop} (h : Opens P t d Wt Bk Gd)
    (hx : DataW.Trod enc P w base spare held t v dd ps) : ∃ a, d.K w a v.cells.toList ∧ (∀ n ∈ Wt a, n = 0 ∨ ∃ m ∈ dd.weights P t, n ≤ m) ∧ Bk a ≤ Rows.uptoBulk dd ∧ Gd a := by
  obtain ⟨fuel, hf⟩ := hx
  obtain ⟨a, h1, h2, h3, h4⟩ := h.out hf
  exact ⟨a, h1, h2, h3, h4⟩
/-- Each weight of an argument is within the reach of the form. -/
theorem reach {H : Type} {ts : List TypeId} {ds : List (DataW H)} (h : (DataW.weightsEach P ts ds).all (· ≤ reachBytes) = true) {j : Nat} {t : TypeId} {dd : DataW H} (ht : ts[j]? = some t) (hd : ds[j]? = some dd) {l : List Nat}
    (hw : ∀ n ∈ l, n = 0 ∨ ∃ m ∈ dd.weights P t, n ≤ m) : ∀ n ∈ l, n ≤ 140737488351232 := by
  intro n hn
  rcases hw n hn with h0 | ⟨m, hm, hle⟩
  · omega
  · have := DataW.weights_mem_each ht hd m hm
    rw [List.all_eq_true] at h
    have h1 := of_decide_eq_true (h m this)
    unfold reachBytes at h1
    omega
end
end Go.Proofs.Ytbllmpfdhcbkpaa.Opens
/- Small sums: what a bound on a sum says of each member. -/
namespace Go.Proofs.Ytbllmpfdhcbkpaa.Upto
theorem mem_le {α : Type} (f : α → Nat) : ∀ (l : List α), ∀ x ∈ l, f x ≤ (l.map f).sum
  | [], x, h => by cases h
  | y :: l, x, h => by
    rw [List.map_cons, List.sum_cons]
    rcases List.mem_cons.1 h with rfl | h
    · omega
    · have := mem_le f l x h
      omega
theorem len_le {α : Type} (f : α → Nat) : ∀ (l : List α), (∀ x ∈ l, 1 ≤ f x) → l.length ≤ (l.map f).sum
  | [], _ => Nat.zero_le _
  | y :: l, h => by
    rw [List.map_cons, List.sum_cons, List.length_cons]
    have h1 := h y List.mem_cons_self
    have := len_le f l (fun x hx => h x (List.mem_cons_of_mem _ hx))
    omega
end Go.Proofs.Ytbllmpfdhcbkpaa.Upto
