/- Texts of this claim, put together: RcSame, RcPlain, RcSame2, RcAwake, Q22, RcPure2, RcPure3, Q23, RcPure4, RcPure5, Q24. -/
import Derived.Test.YtdkkgeibifpgiaaCRecipeParses1
import Derived.Test.YtdkkgeibifpgiaaRcParsed
import Derived.Test.YtdkkgeibifpgiaaRowS
import Derived.Test.YtdkkgeibifpgiaaRcFault
import Derived.Test.YtdkkgeibifpgiaaQ0
import Derived.Test.YtdkkgeibifpgiaaRcStr
import Derived.Test.YtdkkgeibifpgiaaRcStrings
/- recipe.Same, slices.EqualFunc over steps; the law's own texts, alike: what they compute, and their contracts. -/
namespace Go.Proofs.Ytdkkgeibifpgiaa.Rc
open Go.RowKit Go.Proofs.YtdkkgeibifpgiaaW.PrintWords Go.Proofs.YtdkkgeibifpgiaaW.PrintLast Go.Proofs.YtdkkgeibifpgiaaW.PrintMore Go.Proofs.Ytdkkgeibifpgiaa.Bytes Go.Proofs.Ytdkkgeibifpgiaa.Q
set_option linter.unusedVariables false
set_option linter.unusedSimpArgs false

instance : DecidableEq S47 := fun a b => decidable_of_iff (a.f0 = b.f0 ∧ a.f1 = b.f1) ⟨fun h => by obtain ⟨a0, a1⟩ := a; obtain ⟨b0, b1⟩ := b; obtain ⟨h1, h2⟩ := h; simp only at h1 h2; rw [h1, h2], fun h => by rw [h]; exact ⟨rfl, rfl⟩⟩
instance : DecidableEq S66 := fun a b => decidable_of_iff (a.f0 = b.f0 ∧ a.f1 = b.f1) ⟨fun h => by obtain ⟨a0, a1⟩ := a; obtain ⟨b0, b1⟩ := b; obtain ⟨h1, h2⟩ := h; simp only at h1 h2; rw [h1, h2], fun h => by rw [h]; exact ⟨rfl, rfl⟩⟩
theorem cons_yes {α : Type} [DecidableEq α] {a b : α} {l m : List α} (h : a = b) : decide (a :: l = b :: m) = decide (l = m) := by
  rw [decide_eq_decide, List.cons.injEq]
  exact ⟨fun h => h.2, fun k => ⟨h, k⟩⟩
theorem cons_no {α : Type} [DecidableEq α] {a b : α} {l m : List α} (h : ¬ a = b) : decide (a :: l = b :: m) = false := decide_eq_false (fun k => h (List.cons.inj k).1)
theorem tl_eq (a b : ByteArray) : a.toList = b.toList ↔ a = b := by rw [toList_bs, toList_bs, bs_eq_iff]
theorem drop_eq {α : Type} (xs : List α) (i : Nat) (h : i < xs.length) : xs.drop i = xs[i] :: xs.drop (i + 1) := List.drop_eq_getElem_cons h
theorem eq_law (xs ys : List ByteArray) (hl : xs.length = ys.length) (hx : xs.length ≤ 1099511627776) : ∀ (d i k : Nat), i + d = xs.length → d < k →
    slices_Equal_string_string.l0 k xs ys (xs.length : Int) (i : Int) = some (decide (xs.drop i = ys.drop i))
  | d, i, 0, hid, hk => by omega
  | 0, i, k + 1, hid, hk => by
    rw [slices_Equal_string_string.l0, if_neg (by omega), List.drop_of_length_le (by omega), List.drop_of_length_le (by omega)]
    rfl
  | d + 1, i, k + 1, hid, hk => by
    have h1 : i < xs.length := by omega
    have h2 : i < ys.length := by omega
    rw [slices_Equal_string_string.l0, if_pos (by omega), if_pos (by omega), if_pos (by omega), if_pos (by omega), rd_at xs i h1, rd_at ys i h2, wrap_up i (by omega), eq_law xs ys hl hx d (i + 1) k (by omega) (by omega), drop_eq xs i h1, drop_eq ys i h2]
    by_cases e : xs[i] = ys[i]
    · rw [if_pos ((tl_eq _ _).2 e), cons_yes e]
    · rw [if_neg (fun h => e ((tl_eq _ _).1 h)), cons_no e]
theorem eq_f (xs ys : List ByteArray) (hx : xs.length ≤ 1099511627776) (k : Nat) (hk : 1099511627780 ≤ k) : slices_Equal_string_string.f k xs ys = some (decide (xs = ys)) := by
  unfold slices_Equal_string_string.f
  by_cases e : xs.length = ys.length
  · rw [if_pos (by omega)]
    exact eq_law xs ys e hx xs.length 0 k (by omega) (by omega)
  · rw [if_neg (by omega), decide_eq_false (fun h => e (by rw [h]))]
theorem texts_law (xs ys : List ByteArray) (hl : xs.length = ys.length) (hx : xs.length ≤ 1099511627776) : ∀ (d i k : Nat), i + d = xs.length → d < k →
    depotlaw21_texts.l0 k xs ys (xs.length : Int) (i : Int) = some (decide (xs.drop i = ys.drop i))
  | d, i, 0, hid, hk => by omega
  | 0, i, k + 1, hid, hk => by
    rw [depotlaw21_texts.l0, if_neg (by omega), List.drop_of_length_le (by omega), List.drop_of_length_le (by omega)]
    rfl
  | d + 1, i, k + 1, hid, hk => by
    have h1 : i < xs.length := by omega
    have h2 : i < ys.length := by omega
    rw [depotlaw21_texts.l0, if_pos (by omega), if_pos (by omega), if_pos (by omega), if_pos (by omega), rd_at xs i h1, rd_at ys i h2, wrap_up i (by omega), texts_law xs ys hl hx d (i + 1) k (by omega) (by omega), drop_eq xs i h1, drop_eq ys i h2]
    by_cases e : xs[i] = ys[i]
    · rw [if_pos ((tl_eq _ _).2 e), cons_yes e]
    · rw [if_neg (fun h => e ((tl_eq _ _).1 h)), cons_no e]
theorem texts_f (xs ys : List ByteArray) (hx : xs.length ≤ 1099511627776) (k : Nat) (hk : 1099511627780 ≤ k) : depotlaw21_texts.f k xs ys = some (decide (xs = ys)) := by
  unfold depotlaw21_texts.f
  by_cases e : xs.length = ys.length
  · rw [if_pos (by omega)]
    exact texts_law xs ys e hx xs.length 0 k (by omega) (by omega)
  · rw [if_neg (by omega), decide_eq_false (fun h => e (by rw [h]))]
theorem same1_f (x y : S47) (hx : x.f1.length ≤ 1099511627776) (k : Nat) (hk : 1099511627780 ≤ k) : recipe_Same_1.f k x.f0 x.f1 y.f0 y.f1 = some (decide (x = y)) := by
  obtain ⟨a, b⟩ := x
  obtain ⟨c, d⟩ := y
  unfold recipe_Same_1.f
  by_cases e : a = c
  · rw [if_pos ((tl_eq _ _).2 e), eq_f b d hx k hk]
    simp [e]
  · rw [if_neg (fun h => e ((tl_eq _ _).1 h))]
    simp [e]
theorem rd_step66 (xs : List S66) (i : Nat) (h : i < xs.length) : rd_T66 xs (i : Int) = xs[i] := by
  simp [rd_T66, List.getD_eq_getElem?_getD, List.getElem?_eq_getElem h]
theorem alike_law (xs ys : List S66) (hl : xs.length = ys.length) (hx : xs.length ≤ 1099511627776) (ha : ∀ x ∈ xs, x.f1.length ≤ 1099511627776) (n1 n2 : ByteArray) (d1 d2 : List ByteArray) : ∀ (d i k : Nat), i + d = xs.length → d + 1099511627790 ≤ k →
    depotlaw21_alike.l0 k (xs.length : Int) (i : Int) n1 d1 xs n2 d2 ys = some (decide (xs.drop i = ys.drop i))
  | d, i, 0, hid, hk => by omega
  | 0, i, k + 1, hid, hk => by
    rw [depotlaw21_alike.l0, if_neg (by omega), List.drop_of_length_le (by omega), List.drop_of_length_le (by omega)]
    rfl
  | d + 1, i, k + 1, hid, hk => by
    have h1 : i < xs.length := by omega
    have h2 : i < ys.length := by omega
    rw [depotlaw21_alike.l0, if_pos (by omega), if_pos (by omega), if_pos (by omega), if_pos (by omega), rd_step66 xs i h1, rd_step66 ys i h2, wrap_up i (by omega), alike_law xs ys hl hx ha n1 n2 d1 d2 d (i + 1) k (by omega) (by omega), drop_eq xs i h1, drop_eq ys i h2, texts_f _ _ (ha _ (List.getElem_mem h1)) k (by omega)]
    generalize xs[i] = x
    generalize ys[i] = y
    obtain ⟨a, b⟩ := x
    obtain ⟨c, d⟩ := y
    by_cases e : a = c
    · rw [if_pos ((tl_eq _ _).2 e), Option.bind_some]
      by_cases e2 : b = d
      · rw [if_pos (decide_eq_true e2), cons_yes (by rw [e, e2])]
      · rw [if_neg (by simp [e2]), cons_no (fun h => e2 (congrArg S66.f1 h))]
    · rw [if_neg (fun h => e ((tl_eq _ _).1 h)), cons_no (fun h => e (congrArg S66.f0 h))]
theorem alike_f (n1 n2 : ByteArray) (d1 d2 : List ByteArray) (xs ys : List S66) (hd : d1.length ≤ 1099511627776) (hx : xs.length ≤ 1099511627776) (ha : ∀ x ∈ xs, x.f1.length ≤ 1099511627776) (k : Nat) (hk : 4398046511104 ≤ k) :
    depotlaw21_alike.f k n1 d1 xs n2 d2 ys = some (decide (n1 = n2 ∧ d1 = d2 ∧ xs = ys)) := by
  obtain ⟨k', rfl⟩ : ∃ k', k = k' + 1 := ⟨k - 1, by omega⟩
  have hj : ∀ b : Bool, depotlaw21_alike.j0 (k' + 1) b n1 d1 xs n2 d2 ys = if b = true then some false else depotlaw21_alike.l0 k' (xs.length : Int) 0 n1 d1 xs n2 d2 ys := fun b => by rw [depotlaw21_alike.j0]
  unfold depotlaw21_alike.f
  simp only [hj]
  by_cases e : n1 = n2
  · rw [if_pos ((tl_eq _ _).2 e), texts_f d1 d2 hd _ (by omega), Option.bind_some]
    by_cases e2 : d1 = d2
    · rw [if_pos (decide_eq_true e2)]
      by_cases e3 : xs.length = ys.length
      · rw [if_neg (by simp [e3])]
        have := alike_law xs ys e3 hx ha n1 n2 d1 d2 xs.length 0 k' (by omega) (by omega)
        rw [show ((0 : Nat) : Int) = 0 from rfl] at this
        rw [this]
        simp [e, e2]
      · rw [if_pos (by simpa using (show ¬ (xs.length : Int) = (ys.length : Int) from by omega)), decide_eq_false (fun h => e3 (by rw [h.2.2]))]
    · rw [if_neg (by simp [e2]), if_pos trivial, decide_eq_false (fun h => e2 h.2.1)]
  · rw [if_neg (fun h => e ((tl_eq _ _).1 h)), if_pos trivial, decide_eq_false (fun h => e h.1)]
theorem alike_calls (n1 : ByteArray) (A1 : Option Addr) (c1 : Nat) (d1 : List ByteArray) (A2 : Option Addr) (c2 : Nat) (xs : List S66) (n2 : ByteArray) (A3 : Option Addr) (c3 : Nat) (d2 : List ByteArray) (A4 : Option Addr) (c4 : Nat) (ys : List S66) (w : World)
    (h1 : Kd.C Kd.string w A1 d1.length d1) (hc1 : d1.length ≤ c1) (h2 : Kd.C k66 w A2 xs.length xs) (hc2 : xs.length ≤ c2) (h3 : Kd.C Kd.string w A3 d2.length d2) (hc3 : d2.length ≤ c3) (h4 : Kd.C k66 w A4 ys.length ys) (hc4 : ys.length ≤ c4) (hd : d1.length ≤ 1099511627776) (hx : xs.length ≤ 1099511627776) (ha : ∀ x ∈ xs, x.f1.length ≤ 1099511627776) :
    Calls Try.prog 11 #[.agg #[.string n1, .slice A1 d1.length c1, .slice A2 xs.length c2], .agg #[.string n2, .slice A3 d2.length c3, .slice A4 ys.length c4]] w fun e w' => e = .returned (.bool (decide (n1 = n2 ∧ d1 = d2 ∧ xs = ys))) ∧ Below w.heap.size w w' :=
  depotlaw21_alike.calls 4398046511104 n1 A1 c1 d1 A2 c2 xs n2 A3 c3 d2 A4 c4 ys _ w h1 hc1 h2 hc2 h3 hc3 h4 hc4 (alike_f n1 n2 d1 d2 xs ys hd hx ha _ (Nat.le_refl _))
/-- What EqualFunc has seen up to round i. -/
def SameTo (xs ys : List S47) (i : Nat) : Prop := xs.take i = ys.take i
theorem sameTo_succ {xs ys : List S47} {i : Nat} (h : SameTo xs ys i) (h1 : i < xs.length) (h2 : i < ys.length) (e : xs[i] = ys[i]) : SameTo xs ys (i + 1) := by
  unfold SameTo at h ⊢
  rw [List.take_succ_eq_append_getElem h1, List.take_succ_eq_append_getElem h2, h, e]
set_option maxRecDepth 100000 in
set_option maxHeartbeats 4000000 in
theorem eqf_calls (A0 : Option Addr) (c0 : Nat) (xs : List S47) (A1 : Option Addr) (c1 : Nat) (ys : List S47) (w : World) (h0 : Kd.C k47 w A0 xs.length xs) (h1 : Kd.C k47 w A1 ys.length ys) (hx : xs.length ≤ 1099511627776) (ha : ∀ x ∈ xs, x.f1.length ≤ 1099511627776) :
    Calls Try.prog 32 #[.slice A0 xs.length c0, .slice A1 ys.length c1, .func (.func 33) #[] #[]] w fun e w' => e = .returned (.bool (decide (xs = ys))) ∧ Below w.heap.size w w' := by
  obtain ⟨n, hn⟩ : ∃ n, xs.length = n := ⟨_, rfl⟩
  by_cases hl : xs.length = ys.length
  · have hny : ys.length = n := by rw [← hl, hn]
    have H0 := Aside0.mk h0
    have H1 := Aside0.mk h1
    have HA := Aside0.mk ha
    have HN := Aside0.mk hn
    have HY := Aside0.mk hny
    have HB0 := Aside0.mk (Below.refl w.heap.size w)
    have HS0 : Aside0 (SameTo xs ys 0) := ⟨by unfold SameTo; rfl⟩
    have hn2 : n ≤ 1099511627776 := by omega
    have hu47 := Try.underlying47
    rw [hn, hny]
    clear h0 h1 ha hn hny hx hl
    go_enter Try.func32, Try.ntmps32
    go_wp2
    go_loopg [17] n (fun g v17 wx => ∃ i : Nat, i + g = n ∧ v17 = .int .i64 (i : Int) ∧ Aside0 (SameTo xs ys i) ∧ Aside0 (Below w.heap.size w wx))
    case atStart => exact ⟨0, by omega, rfl, HS0, HB0⟩
    case round =>
      clear HB0 HS0
      obtain ⟨i, hig, rfl, HS, HB⟩ := hrel
      cases gk with
      | zero =>
        obtain rfl : i = n := by omega
        have d1 : decide ((i : Int) < (i : Int)) = false := decide_eq_false (by omega)
        go_wp2
        go_ret
        refine ⟨?_, HB.out⟩
        have hs : xs.take i = ys.take i := HS.out
        rw [List.take_of_length_le (by rw [HN.out]; exact Nat.le_refl _), List.take_of_length_le (by rw [HY.out]; exact Nat.le_refl _)] at hs
        rw [hs]
        simp
      | succ k1 =>
        have hi : i < n := by omega
        have d1 : decide ((i : Int) < (n : Int)) = true := decide_eq_true (by omega)
        have i1 : i < xs.length := by rw [HN.out]; exact hi
        have i2 : i < ys.length := by rw [HY.out]; exact hi
        obtain ⟨adx, Ax, cx, ex, hx0, hx1, hxl, hxr⟩ := at_T47 (Kd.C_below H0.out HB.out) (i : Int) (by omega) (by omega)
        obtain ⟨ady, Ay, cy, ey, hy0, hy1, hyl, hyr⟩ := at_T47 (Kd.C_below H1.out HB.out) (i : Int) (by omega) (by omega)
        cases ex
        cases ey
        simp only [Int.toNat_natCast] at hx0 hx1 hy0 hy1
        rw [rd_step xs i i1] at hx0 hx1 hxl hxr
        rw [rd_step ys i i2] at hy0 hy1 hyl hyr
        have hm := HA.out _ (List.getElem_mem i1)
        obtain ⟨x, hxe⟩ : ∃ x, xs[i] = x := ⟨_, rfl⟩
        obtain ⟨y, hye⟩ : ∃ y, ys[i] = y := ⟨_, rfl⟩
        have HX := Aside0.mk (show ∀ h : i < xs.length, xs[i] = x from fun _ => hxe)
        have HYY := Aside0.mk (show ∀ h : i < ys.length, ys[i] = y from fun _ => hye)
        rw [hxe] at hx0 hx1 hxl hxr hm
        rw [hye] at hy0 hy1 hyl hyr
        clear hxe hye i1 i2
        have p1 : (0 ≤ (i : Int)) = True := eq_true (by omega)
        have q1 : ((i : Int) < (n : Int)) = True := eq_true (by omega)
        have hy0' : ∀ o, (wr.alloc o).cell? (ady.add (i * 2)) = _ := fun o => pw_cell_below (below_alloc (Below.refl _ wr) o) hy0
        have hy1' : ∀ o, (wr.alloc o).cell? ⟨(ady.add (i * 2)).block, (ady.add (i * 2)).off + 1, none⟩ = _ := fun o => pw_cell_below (below_alloc (Below.refl _ wr) o) hy1
        have HXR := Aside0.mk hxr
        have HYR := Aside0.mk hyr
        have HXL := Aside0.mk hxl
        have HYL := Aside0.mk hyl
        have HM := Aside0.mk hm
        clear hxr hyr hxl hyl hm
        by_cases e : x = y
        · have HE := Aside0.mk e
          have hdec : decide (x = y) = true := decide_eq_true e
          clear e
          go_wp2_with (go_at_call 33; generalize hW4 : World.alloc (World.alloc wr _) _ = w4; have hb4 : Below wr.heap.size wr w4 := (by rw [← hW4]; exact ((Below.refl _ _).alloc (Nat.le_refl _) _).alloc (by simp) _); have hcl := recipe_Same_1.calls 1099511627780 x.f0 Ax cx x.f1 y.f0 Ay cy y.f1 _ w4 (Kd.C_below HXR.out hb4) HXL.out (Kd.C_below HYR.out hb4) HYL.out (same1_f x y HM.out _ (Nat.le_refl _)); rw [hdec] at hcl; refine hcl.mono ?_; rintro e w5 ⟨rfl, hb5⟩; have HB5 := Aside0.mk (HB.out.trans ((hb4.trans (hb5.mono hb4.size)).mono HB.out.size)); clear hb5 hb4 hW4 hcl)
          go_roundg k1
          case measure => omega
          case rel => exact ⟨i + 1, by omega, by go_num, ⟨sameTo_succ HS.out (by rw [HN.out]; exact hi) (by rw [HY.out]; exact hi) (by rw [HX.out, HYY.out, HE.out])⟩, HB5⟩
        · have HE := Aside0.mk e
          have hdec : decide (x = y) = false := decide_eq_false e
          clear e
          go_wp2_with (go_at_call 33; generalize hW4 : World.alloc (World.alloc wr _) _ = w4; have hb4 : Below wr.heap.size wr w4 := (by rw [← hW4]; exact ((Below.refl _ _).alloc (Nat.le_refl _) _).alloc (by simp) _); have hcl := recipe_Same_1.calls 1099511627780 x.f0 Ax cx x.f1 y.f0 Ay cy y.f1 _ w4 (Kd.C_below HXR.out hb4) HXL.out (Kd.C_below HYR.out hb4) HYL.out (same1_f x y HM.out _ (Nat.le_refl _)); rw [hdec] at hcl; refine hcl.mono ?_; rintro e w5 ⟨rfl, hb5⟩; have HB5 := Aside0.mk (HB.out.trans ((hb4.trans (hb5.mono hb4.size)).mono HB.out.size)); clear hb5 hb4 hW4 hcl)
          go_ret
          refine ⟨?_, HB5.out⟩
          rw [decide_eq_false (fun h : xs = ys => HE.out (by have h1 := HX.out (by rw [HN.out]; exact hi); have h2 := HYY.out (by rw [HY.out]; exact hi); rw [← h1, ← h2]; simp [h]))]
          rfl
  · have hne : ¬ xs = ys := fun h => hl (by rw [h])
    have c1 : ((xs.length : Int) != (ys.length : Int)) = true := bne_iff_ne.mpr (by omega)
    rw [decide_eq_false hne]
    clear hne hn
    go_enter Try.func32, Try.ntmps32
    go_wp2
    go_ret
    exact ⟨rfl, Below.refl _ _⟩
end Go.Proofs.Ytdkkgeibifpgiaa.Rc
/- The law's plain, walked: a recipe that is read, as the document's; the lists are shared. -/
namespace Go.Proofs.Ytdkkgeibifpgiaa.Rc
open Go.RowKit Go.Proofs.YtdkkgeibifpgiaaW.PrintWords Go.Proofs.YtdkkgeibifpgiaaW.PrintLast Go.Proofs.YtdkkgeibifpgiaaW.PrintMore Go.Proofs.Ytdkkgeibifpgiaa.Bytes Go.Proofs.Ytdkkgeibifpgiaa.Q
set_option linter.unusedVariables false
set_option linter.unusedSimpArgs false

def toR (x : S47) : S66 := ⟨x.f0, x.f1⟩
theorem toR_inj {x y : S47} : toR x = toR y ↔ x = y := by
  obtain ⟨a, b⟩ := x
  obtain ⟨c, d⟩ := y
  simp [toR]
theorem map_toR {xs ys : List S47} : xs.map toR = ys.map toR ↔ xs = ys := by
  constructor
  · intro h
    induction xs generalizing ys with
    | nil => cases ys with
      | nil => rfl
      | cons y ys => simp at h
    | cons x xs ih => cases ys with
      | nil => simp at h
      | cons y ys =>
        rw [List.map_cons, List.map_cons, List.cons.injEq, toR_inj] at h
        rw [h.1, ih h.2]
  · intro h; rw [h]
/-- The cells of the steps so far: each tells a step, whose arguments can be read in the first world. -/
def RowOK (w : World) (xs : List S47) (rows : List (List Value)) : Prop := ∀ (j : Nat) (x : S47) (c : List Value), xs[j]? = some x → rows[j]? = some c → ∃ A1 c1, c = [.string x.f0, .slice A1 x.f1.length c1] ∧ x.f1.length ≤ c1 ∧ Kd.string.C w A1 x.f1.length x.f1
theorem RowOK.snoc {w : World} {xs : List S47} {rows : List (List Value)} (h : RowOK w xs rows) {x : S47} (hx : xs[rows.length]? = some x) {A1 : Option Addr} {c1 : Nat} (h1 : x.f1.length ≤ c1) (h2 : Kd.string.C w A1 x.f1.length x.f1) : RowOK w xs (rows ++ [[.string x.f0, .slice A1 x.f1.length c1]]) := by
  intro j y c hy hc
  rcases Nat.lt_or_ge j rows.length with hj | hj
  · rw [List.getElem?_append_left hj] at hc
    exact h j y c hy hc
  · have hlt : j < (rows ++ [[Value.string x.f0, .slice A1 x.f1.length c1]]).length := (List.getElem?_eq_some_iff.1 hc).1
    rw [List.length_append, List.length_singleton] at hlt
    obtain rfl : j = rows.length := by omega
    rw [List.getElem?_append_right (Nat.le_refl _), Nat.sub_self] at hc
    obtain rfl := Option.some.inj hc
    obtain rfl := Option.some.inj (hx.symm.trans hy)
    exact ⟨A1, c1, rfl, h1, h2⟩
theorem rows_C {w W : World} {A : Option Addr} {n : Nat} {xs : List S47} {rows : List (List Value)} (h : (Kd.raw 2).C W A n rows) (hb : Below w.heap.size w W) (hr : RowOK w xs rows) (hl : rows.length = xs.length) : k66.C W A n (xs.map toR) := by
  obtain ⟨h1, hm, hn⟩ := h
  refine ⟨by rw [List.length_map, ← hl]; exact h1, hm, fun hp => ?_⟩
  obtain ⟨ad, he, hcell⟩ := hn hp
  refine ⟨ad, he, fun j p hj => ?_⟩
  rw [List.getElem?_map] at hj
  obtain ⟨x, hx, rfl⟩ := Option.map_eq_some_iff.1 hj
  have hjl : j < rows.length := by rw [hl]; exact (List.getElem?_eq_some_iff.1 hx).1
  obtain ⟨c', hcl, hK, hcc⟩ := hcell j _ (List.getElem?_eq_getElem hjl)
  obtain ⟨A1, c1, e, g1, g2⟩ := hr j x _ hx (List.getElem?_eq_getElem hjl)
  refine ⟨c', hcl, ?_, hcc⟩
  have hK1 : c' = rows[j] := hK.1
  rw [hK1, e]
  exact k66_mk W (toR x) g1 (Kd.C_below g2 hb)
/-- What stands while plain works: its answer, its copy. -/
structure PlAt (h : Nat) (w W : World) (n1 : ByteArray) (dv u : Value) : Prop where
  res : W.heap[h + 1]? = some (.cells #[.string ⟨#[]⟩, .slice none 0 0, .slice none 0 0] 33 (0, 0))
  out : W.heap[h + 1 + 1]? = some (.cells #[.string n1, dv, u] 33 (0, 0))
  below : Below h w W
theorem PlAt.start (w : World) (n1 : ByteArray) (dv : Value) (o : Obj) : PlAt w.heap.size w (((w.alloc o).alloc (.cells #[.string ⟨#[]⟩, .slice none 0 0, .slice none 0 0] 33)).alloc (.cells #[.string n1, dv, .slice none 0 0] 33)) n1 dv (.slice none 0 0) := by
  have a1 : ∀ (W : World) (o : Obj), (W.alloc o).heap.size = W.heap.size + 1 := fun W o => Array.size_push _
  have a2 : ∀ (W : World) (o : Obj) (k : Nat), k < W.heap.size → (W.alloc o).heap[k]? = W.heap[k]? := fun W o k hk => ((Below.refl W.heap.size W).alloc (Nat.le_refl _) o).block k hk
  have a3 : ∀ (W : World) (o : Obj) (k : Nat), k = W.heap.size → (W.alloc o).heap[k]? = some o := fun W o k hk => by rw [hk]; exact World.alloc_heap_new W o
  refine ⟨?_, ?_, ?_⟩
  · rw [a2 _ _ _ (by simp only [a1]; omega), a3 _ _ _ (by simp only [a1])]
  · rw [a3 _ _ _ (by simp only [a1])]
  · exact (((Below.refl _ w).alloc (Nat.le_refl _) _).alloc (by simp only [a1]; omega) _).alloc (by simp only [a1]; omega) _
theorem info66r : (Try.prog.info? 66).map (fun i => (i.zero, i.size, i.bytes)) = some (some (.agg #[(.string ⟨#[]⟩), (.slice none 0 0)]), 2, 40) := by kernel_rfl
/-- A round: the new box, the append, the store. -/
theorem PlAt.round {h : Nat} {w W W1 : World} {n1 : ByteArray} {dv u v1 : Value} {rows : List (List Value)} (k : PlAt h w W n1 dv u) (hh : h + 1 + 1 < W.heap.size) (hb : Below (h + 1 + 1 + 1) W W1) (hr : (Kd.raw 2).R 66 W1 (h + 1 + 1 + 1) (fun _ => True) v1 rows) :
    PlAt h w (W1.setCell ⟨h + 1 + 1, 2, none⟩ v1) n1 dv v1 ∧ (Kd.raw 2).R 66 (W1.setCell ⟨h + 1 + 1, 2, none⟩ v1) (h + 1 + 1 + 1) (fun _ => True) v1 rows := by
  refine ⟨⟨?_, ?_, ?_⟩, ?_⟩
  · exact (Below.heap_setCell _ _ _ _ (by show h + 1 ≠ h + 1 + 1; omega)).trans ((hb.block _ (by omega)).trans k.res)
  · have := (hb.block (h + 1 + 1) (by omega)).trans k.out
    simp [World.setCell, Array.getElem?_modify, this]
  · exact below_set (k.below.trans (hb.mono (by omega))) _ _ (by show h ≤ h + 1 + 1; omega)
  · exact Kd.R_mono (Kd.R_far (Kd.R_bound hr) (fun q hq => by have := hq.2.1; show q ≠ h + 1 + 1; omega) v1) (fun _ _ => trivial)
set_option maxRecDepth 100000 in
set_option maxHeartbeats 8000000 in
theorem plain_calls (n1 : ByteArray) (A1 : Option Addr) (c1 : Nat) (d1 : List ByteArray) (A2 : Option Addr) (c2 : Nat) (xs : List S47) (w : World) (h2 : Kd.C k47 w A2 xs.length xs) (hx : xs.length ≤ 1099511627776) :
    Calls Try.prog 12 #[.agg #[.string n1, .slice A1 d1.length c1, .slice A2 xs.length c2]] w fun e w' => ∃ A3 c3, e = .returned (.agg #[.string n1, .slice A1 d1.length c1, .slice A3 (xs.map toR).length c3]) ∧ (xs.map toR).length ≤ c3 ∧ Kd.C k66 w' A3 (xs.map toR).length (xs.map toR) ∧ Below w.heap.size w w' := by
  have hu26 := Try.underlying26
  have hu33 := Try.underlying33
  have hu47 := Try.underlying47
  have hu66 := Try.underlying66
  obtain ⟨n, hn⟩ : ∃ n, xs.length = n := ⟨_, rfl⟩
  obtain ⟨q1, hq1⟩ : ∃ q, d1.length = q := ⟨_, rfl⟩
  rw [List.length_map, hn, hq1]
  rw [hn] at h2
  have hn2 : n ≤ 1099511627776 := by omega
  have HX := Aside0.mk h2
  have HN := Aside0.mk hn
  have HP := Aside0.mk (PlAt.start w n1 (.slice A1 q1 c1) (.cells #[.string n1, .slice A1 q1 c1, .slice A2 n c2] 26))
  have HB0 : Aside0 (RowOK w xs []) := ⟨fun j x c _ h => by simp at h⟩
  clear h2 hn hx hq1
  go_enter Try.func12, Try.ntmps12
  go_wp2
  go_loopg [14] n (fun g v14 wx => ∃ (i : Nat) (u : Value) (rows : List (List Value)), i + g = n ∧ rows.length = i ∧ v14 = .int .i64 (i : Int) ∧ Aside0 (PlAt w.heap.size w wx n1 (.slice A1 q1 c1) u) ∧ Aside0 ((Kd.raw 2).R 66 wx (w.heap.size + 1 + 1 + 1) (fun _ => True) u rows) ∧ Aside0 (RowOK w xs rows))
  case atStart => exact ⟨0, .slice none 0 0, [], by omega, rfl, rfl, HP, ⟨Kd.R_nil _ _ _ _ _⟩, HB0⟩
  case round =>
    clear HB0 HP
    obtain ⟨i, u, rows, hig, hri, rfl, HP, HR, HO⟩ := hrel
    have HRI := Aside0.mk hri
    clear hri
    have hz : w.heap.size + 1 + 1 < wr.heap.size := (Array.getElem?_eq_some_iff.1 HP.out.out).1
    have k0 : wr.cell? ⟨w.heap.size + 1 + 1, 0, none⟩ = some (.string n1) := by simp [World.cell?, HP.out.out]
    have k1_ : wr.cell? ⟨w.heap.size + 1 + 1, 1, none⟩ = some (.slice A1 q1 c1) := by simp [World.cell?, HP.out.out]
    have k2_ : wr.cell? ⟨w.heap.size + 1 + 1, 2, none⟩ = some u := by simp [World.cell?, HP.out.out]
    cases gk with
    | zero =>
      obtain rfl : i = n := by omega
      have d1 : decide ((i : Int) < (i : Int)) = false := decide_eq_false (by omega)
      obtain ⟨Au, cu, rfl, hcu, hCu⟩ := Kd.R_reads HR.out
      have HC := Aside0.mk hCu
      have HL := Aside0.mk hcu
      clear hCu hcu
      obtain ⟨w9, hw9⟩ : ∃ w9, (((wr.setCell ⟨w.heap.size + 1, 0, none⟩ (.string n1)).setCell ⟨w.heap.size + 1, 1, none⟩ (.slice A1 q1 c1)).setCell ⟨w.heap.size + 1, 2, none⟩ (.slice Au rows.length cu)) = w9 := ⟨_, rfl⟩
      have r0 : wr.cell? ⟨w.heap.size + 1, 0, none⟩ = some (.string ⟨#[]⟩) := by simp [World.cell?, HP.out.res]
      have r1 : wr.cell? ⟨w.heap.size + 1, 1, none⟩ = some (.slice none 0 0) := by simp [World.cell?, HP.out.res]
      have r2 : wr.cell? ⟨w.heap.size + 1, 2, none⟩ = some (.slice none 0 0) := by simp [World.cell?, HP.out.res]
      have rf : ∀ k, wr.frozen? ⟨w.heap.size + 1, k, none⟩ = false := fun k => by simp [World.frozen?, HP.out.res]
      have g9 : w9.heap[w.heap.size + 1]? = some (.cells #[.string n1, .slice A1 q1 c1, .slice Au rows.length cu] 33 (0, 0)) := by rw [← hw9]; simp [World.setCell, Array.getElem?_modify, HP.out.res]
      have b9 : Below w.heap.size w w9 := by rw [← hw9]; exact below_set (below_set (below_set HP.out.below _ _ (Nat.le_succ _)) _ _ (Nat.le_succ _)) _ _ (Nat.le_succ _)
      have R9 : (Kd.raw 2).R 66 w9 (w.heap.size + 1 + 1 + 1) (fun _ => True) (.slice Au rows.length cu) rows := by
        rw [← hw9]
        exact R_setf (h := w.heap.size) (R_setf (h := w.heap.size) (R_setf (h := w.heap.size) HR.out 0 1 (by omega)) 1 1 (by omega)) 2 1 (by omega)
      obtain ⟨_, _, hC9⟩ := Kd.R_reads' R9
      rw [HRI.out] at hC9
      have hk := rows_C hC9 b9 HO.out (by rw [HRI.out, HN.out])
      have HG9 := Aside0.mk g9
      have HB9 := Aside0.mk b9
      have HK := Aside0.mk hk
      have HW9 := Aside0.mk hw9
      clear g9 b9 hk hC9 R9 hw9
      go_wp2
      rw [HW9.out]
      refine bodyPost_ret (v := .agg #[.string n1, .slice A1 q1 c1, .slice Au rows.length cu]) (results_cell_row rfl _ _ (w.heap.size + 1) 33 #[.string n1, .slice A1 q1 c1, .slice Au rows.length cu] (0, 0) _ rfl HG9.out Try.underlying33 rfl (by kernel_rfl)) rfl ?_
      exact ⟨Au, cu, by rw [HRI.out], HRI.out ▸ HL.out, HK.out, HB9.out⟩
    | succ k1 =>
      have hi : i < n := by omega
      have d1 : decide ((i : Int) < (n : Int)) = true := decide_eq_true (by omega)
      have i1 : i < xs.length := by rw [HN.out]; exact hi
      obtain ⟨adx, Ax, cx, ex, hx0, hx1, hxl, hxr⟩ := at_T47 HX.out (i : Int) (by omega) (by omega)
      cases ex
      simp only [Int.toNat_natCast] at hx0 hx1
      rw [rd_step xs i i1] at hx0 hx1 hxl hxr
      obtain ⟨x, hxe⟩ : ∃ x, xs[i] = x := ⟨_, rfl⟩
      rw [hxe] at hx0 hx1 hxl hxr
      have HXI := Aside0.mk (show xs[rows.length]? = some x from by rw [HRI.out, List.getElem?_eq_getElem i1, hxe])
      clear hxe i1
      have hX0 := (HP.out.below.cell (World.block_lt_of_cell? w _ hx0)).trans hx0
      have hX1 := (HP.out.below.cell (World.block_lt_of_cell? w _ hx1)).trans hx1
      have p1 : (0 ≤ (i : Int)) = True := eq_true (by omega)
      have q1_ : ((i : Int) < (n : Int)) = True := eq_true (by omega)
      have k3_ : ∀ o, (wr.alloc o).cell? ⟨w.heap.size + 1 + 1, 2, none⟩ = some u := fun o => pw_cell_below (below_alloc (Below.refl _ wr) o) k2_
      have HXR := Aside0.mk hxr
      have HXL := Aside0.mk hxl
      clear hxr hxl hx0 hx1
      obtain ⟨L, hL⟩ : ∃ L, rows.length = L := ⟨_, rfl⟩
      have HL := Aside0.mk hL
      clear hL
      obtain ⟨Au, cu, rfl⟩ := Kd.R_slice HR.out
      have HZ := Aside0.mk hz
      clear hz
      go_wp2_with ((with_reducible refine gate_builtin (b := .append) (xs := #[.tmp 19, .tmp 25]) rfl ?_); at_builtin; generalize hW6 : World.alloc wr (.cells #[.string x.f0, .slice Ax x.f1.length cx] 47) = w6; have hb6 := below_alloc1 hW6; have hs6 : w6.heap.size = wr.heap.size + 1 := (by rw [← hW6]; exact Array.size_push _); refine Kd.R_append (Kd.raw 2) (w0 := w6) (w.heap.size + 1 + 1 + 1) rfl (.tmp 19) (.tmp 25) 31 66 (.agg #[(.string ⟨#[]⟩), (.slice none 0 0)]) 40 rfl Try.underlying31 info66r rfl (by decide) (by omega) _ rows [.string x.f0, .slice Ax x.f1.length cx] [.string x.f0, .slice Ax x.f1.length cx] (fun _ => True) (fun _ => False) rfl (by rw [hs6]; rfl) ⟨rfl, rfl, by intro v hv; simp at hv; rcases hv with rfl | rfl <;> rfl⟩ (fun _ h => h.elim) (fun _ _ => trivial) (Kd.R_below HR.out hb6) (Below.refl _ _) (Nat.le_trans HZ.out hb6.size) (by have := HRI.out; omega) ?_; intro v7 w7 hr7 hb7 hg7 hat7; obtain ⟨A7, c7, rfl⟩ := Kd.R_slice hr7; have hP7 := HP.out.round HZ.out ((hb6.mono HZ.out).trans hb7) hr7; have y7 := (hb7.block _ (Nat.lt_succ_self _)).trans ((hb6.block _ HZ.out).trans HP.out.out); have y1 : w7.cell? ⟨w.heap.size + 1 + 1, 2, none⟩ = some (.slice Au rows.length cu) := (by simp [World.cell?, y7]); have y2 : w7.frozen? ⟨w.heap.size + 1 + 1, 2, none⟩ = false := (by simp [World.frozen?, y7]); (simp only [List.length_append, List.length_singleton] at hP7); have HP7 := Aside0.mk hP7; clear hP7 y7 hb7 hg7 hat7 hb6 hW6 hr7)
      go_roundg k1
      case measure => omega
      case rel => exact ⟨i + 1, _, rows ++ [[.string x.f0, .slice Ax x.f1.length cx]], by omega, by rw [List.length_append, HRI.out]; rfl, by go_num, ⟨HP7.out.1⟩, ⟨HP7.out.2⟩, ⟨HO.out.snoc HXI.out HXL.out HXR.out⟩⟩
end Go.Proofs.Ytdkkgeibifpgiaa.Rc
/- recipe.Same, walked. -/
namespace Go.Proofs.Ytdkkgeibifpgiaa.Rc
open Go.RowKit Go.Proofs.YtdkkgeibifpgiaaW.PrintWords Go.Proofs.YtdkkgeibifpgiaaW.PrintLast Go.Proofs.YtdkkgeibifpgiaaW.PrintMore Go.Proofs.Ytdkkgeibifpgiaa.Bytes Go.Proofs.Ytdkkgeibifpgiaa.Q
set_option linter.unusedVariables false
set_option linter.unusedSimpArgs false

set_option maxRecDepth 100000 in
set_option maxHeartbeats 4000000 in
theorem same_calls (n1 : ByteArray) (A1 : Option Addr) (c1 : Nat) (d1 : List ByteArray) (A2 : Option Addr) (c2 : Nat) (xs : List S47) (n2 : ByteArray) (A3 : Option Addr) (c3 : Nat) (d2 : List ByteArray) (A4 : Option Addr) (c4 : Nat) (ys : List S47) (w : World)
    (h1 : Kd.C Kd.string w A1 d1.length d1) (hc1 : d1.length ≤ c1) (h2 : Kd.C k47 w A2 xs.length xs) (hc2 : xs.length ≤ c2) (h3 : Kd.C Kd.string w A3 d2.length d2) (hc3 : d2.length ≤ c3) (h4 : Kd.C k47 w A4 ys.length ys) (hc4 : ys.length ≤ c4) (hd : d1.length ≤ 1099511627776) (hx : xs.length ≤ 1099511627776) (ha : ∀ x ∈ xs, x.f1.length ≤ 1099511627776) :
    Calls Try.prog 15 #[.agg #[.string n1, .slice A1 d1.length c1, .slice A2 xs.length c2], .agg #[.string n2, .slice A3 d2.length c3, .slice A4 ys.length c4]] w fun e w' => e = .returned (.bool (decide (n1 = n2 ∧ d1 = d2 ∧ xs = ys))) ∧ Below w.heap.size w w' := by
  have hu26 := Try.underlying26
  obtain ⟨q1, hq1⟩ : ∃ q, d1.length = q := ⟨_, rfl⟩
  obtain ⟨q2, hq2⟩ : ∃ q, xs.length = q := ⟨_, rfl⟩
  obtain ⟨q3, hq3⟩ : ∃ q, d2.length = q := ⟨_, rfl⟩
  obtain ⟨q4, hq4⟩ : ∃ q, ys.length = q := ⟨_, rfl⟩
  have HE := Aside0.mk (show ∀ W, Below w.heap.size w W → Calls Try.prog 31 #[.slice A1 q1 c1, .slice A3 q3 c3] W fun e w' => e = .returned (.bool (decide (d1 = d2))) ∧ Drawn0 W w' from fun W hb => by
    rw [← hq1, ← hq3]
    exact slices_Equal_string_string.calls 1099511627780 A1 c1 d1 A3 c3 d2 _ W (Kd.C_below h1 hb) hc1 (Kd.C_below h3 hb) hc3 (eq_f d1 d2 hd _ (Nat.le_refl _)))
  have HF := Aside0.mk (show ∀ W, Below w.heap.size w W → Calls Try.prog 32 #[.slice A2 q2 c2, .slice A4 q4 c4, .func (.func 33) #[] #[]] W fun e w' => e = .returned (.bool (decide (xs = ys))) ∧ Below W.heap.size W w' from fun W hb => by
    rw [← hq2, ← hq4]
    exact eqf_calls A2 c2 xs A4 c4 ys W (Kd.C_below h2 hb) (Kd.C_below h4 hb) hx ha)
  rw [hq1, hq2, hq3, hq4]
  clear h1 h2 h3 h4 hc1 hc2 hc3 hc4 hd hx ha hq1 hq2 hq3 hq4
  obtain ⟨w2, hw2⟩ : ∃ w2, (w.alloc (.cells #[.string n1, .slice A1 q1 c1, .slice A2 q2 c2] 26)).alloc (.cells #[.string n2, .slice A3 q3 c3, .slice A4 q4 c4] 26) = w2 := ⟨_, rfl⟩
  have hb2 : Below w.heap.size w w2 := by rw [← hw2]; exact ((Below.refl _ _).alloc (Nat.le_refl _) _).alloc (by simp) _
  have g1 : w2.heap[w.heap.size]? = some (.cells #[.string n1, .slice A1 q1 c1, .slice A2 q2 c2] 26 (0, 0)) := by rw [← hw2]; exact ((below_alloc (Below.refl _ _) _).block _ (by simp)).trans (heap_alloc_new _ _)
  have g2 : w2.heap[w.heap.size + 1]? = some (.cells #[.string n2, .slice A3 q3 c3, .slice A4 q4 c4] 26 (0, 0)) := by rw [← hw2]; exact heap_alloc2_new _ _ _
  have HB2 := Aside0.mk hb2
  have HG1 := Aside0.mk g1
  have HG2 := Aside0.mk g2
  have HW := Aside0.mk hw2
  clear hb2 g1 g2 hw2
  have HC := Aside0.mk (show ∀ W, Below w2.heap.size w2 W → W.cell? ⟨w.heap.size, 2, none⟩ = some (.slice A2 q2 c2) ∧ W.cell? ⟨w.heap.size + 1, 2, none⟩ = some (.slice A4 q4 c4) from fun W hb => by
    have z1 := (Array.getElem?_eq_some_iff.1 HG1.out).1
    have z2 := (Array.getElem?_eq_some_iff.1 HG2.out).1
    exact ⟨by simp [World.cell?, (hb.block _ z1).trans HG1.out], by simp [World.cell?, (hb.block _ z2).trans HG2.out]⟩)
  by_cases e1 : n1 = n2
  · have t1 : (n1.toList == n2.toList) = true := beq_iff_eq.mpr ((tl_eq _ _).2 e1)
    by_cases e2 : d1 = d2
    · have t2 : decide (d1 = d2) = true := decide_eq_true e2
      have t3 : decide (n1 = n2 ∧ d1 = d2 ∧ xs = ys) = decide (xs = ys) := by simp [e1, e2]
      rw [t3]
      rw [t2] at HE
      clear e1 e2 t2 t3
      go_enter Try.func15, Try.ntmps15
      go_wp2_with (first | (go_at_call 31; rw [HW.out]; refine (HE.out _ (by exact HB2.out)).mono ?_; rintro e w3 ⟨rfl, hd3⟩; have HB3 := Aside0.mk (HB2.out.trans (hd3.below.mono HB2.out.size)); obtain ⟨y1, y2⟩ := HC.out w3 hd3.below; clear hd3) | (go_at_call 32; refine (HF.out _ HB3.out).mono ?_; rintro e w4 ⟨rfl, hb4⟩; have HB4 := Aside0.mk (HB3.out.trans (hb4.mono HB3.out.size)); clear hb4))
      go_ret
      exact ⟨rfl, HB4.out⟩
    · have t2 : decide (d1 = d2) = false := decide_eq_false e2
      have t3 : decide (n1 = n2 ∧ d1 = d2 ∧ xs = ys) = false := by simp [e2]
      rw [t3]
      rw [t2] at HE
      clear e1 e2 t2 t3
      go_enter Try.func15, Try.ntmps15
      go_wp2_with (go_at_call 31; rw [HW.out]; refine (HE.out _ (by exact HB2.out)).mono ?_; rintro e w3 ⟨rfl, hd3⟩; have HB3 := Aside0.mk (HB2.out.trans (hd3.below.mono HB2.out.size)); clear hd3)
      go_ret
      exact ⟨rfl, HB3.out⟩
  · have t1 : (n1.toList == n2.toList) = false := beq_eq_false_iff_ne.mpr (fun h => e1 ((tl_eq _ _).1 h))
    have t3 : decide (n1 = n2 ∧ d1 = d2 ∧ xs = ys) = false := by simp [e1]
    rw [t3]
    clear e1 t3
    go_enter Try.func15, Try.ntmps15
    go_wp2
    go_ret
    exact ⟨rfl, by first | exact HB2.out | (rw [HW.out]; exact HB2.out)⟩
end Go.Proofs.Ytdkkgeibifpgiaa.Rc
/- Parse's contract in two forms; the law's awake. -/
namespace Go.Proofs.Ytdkkgeibifpgiaa.Rc
open Go.RowKit Go.Proofs.YtdkkgeibifpgiaaW.PrintWords Go.Proofs.YtdkkgeibifpgiaaW.PrintLast Go.Proofs.YtdkkgeibifpgiaaW.PrintMore Go.Proofs.Ytdkkgeibifpgiaa.Bytes Go.Proofs.Ytdkkgeibifpgiaa.Q
set_option linter.unusedVariables false
set_option linter.unusedSimpArgs false

theorem parse_ok (T : ByteArray) (hT : T.size ≤ 1099511627776) (w : World) (nm : ByteArray) (deps : List ByteArray) (steps : List S47) (r : List UInt8) (h : parseL (bs T) = .ok (nm, deps, steps) r) :
    Calls Try.prog 9 #[.string T] w fun e w' => ∃ A1 c1 A2 c2, e = .returned (.tuple #[.agg #[.string nm, .slice A1 deps.length c1, .slice A2 steps.length c2], .nilIface]) ∧ deps.length ≤ c1 ∧ Kd.C Kd.string w' A1 deps.length deps ∧ steps.length ≤ c2 ∧ Kd.C k47 w' A2 steps.length steps ∧ Below w.heap.size w w' := by
  have hc := parse_calls T hT w
  rw [h] at hc
  refine hc.mono ?_
  intro e w' hA
  obtain ⟨dv, sv, he, h1, h2, h3⟩ := hA
  obtain ⟨A1, c1, e1, l1, g1⟩ := Kd.R_reads h1
  obtain ⟨A2, c2, e2, l2, g2⟩ := Kd.R_reads h2
  subst e1 e2
  exact ⟨A1, c1, A2, c2, he, l1, g1, l2, g2, h3⟩
theorem parse_bad (T : ByteArray) (hT : T.size ≤ 1099511627776) (w : World) (l : Nat) (h : parseL (bs T) = .bad l) :
    Calls Try.prog 9 #[.string T] w fun e w' => ∃ g, e = .returned (.tuple #[.agg #[.string ⟨#[]⟩, .slice none 0 0, .slice none 0 0], .iface 51 (.pointer (some ⟨g, 0, none⟩))]) ∧ w'.heap[g]? = some (.cells #[.int .i64 210, .int .i64 ((T.size - l : Nat) : Int)] 40 (0, 0)) ∧ Below w.heap.size w w' := by
  have hc := parse_calls T hT w
  rw [h] at hc
  refine hc.mono ?_
  intro e w' hA
  obtain ⟨g, he, _, h2, h3⟩ := hA
  exact ⟨g, he, h2, h3⟩
def exT : ByteArray := ⟨#[82, 101, 99, 105, 112, 101, 40, 34, 97, 34, 44, 91, 34, 98, 34, 93, 44, 91, 40, 34, 100, 105, 114, 34, 44, 34, 120, 34, 41, 93, 41]⟩
def exBad : ByteArray := ⟨#[82, 101, 99, 105, 112, 101, 40, 120]⟩
def exDeps : List ByteArray := [⟨#[98]⟩]
def exSteps : List S47 := [⟨⟨#[100, 105, 114]⟩, [⟨#[120]⟩]⟩]
theorem ex_print : mkS (printL (⟨#[97]⟩, exDeps, exSteps)) = exT := by rfl
theorem ex_bad : parseL (bs exBad) = .bad 1 := by rfl
theorem ex_ok : parseL (bs exT) = .ok (⟨#[97]⟩, exDeps, exSteps) [] := by
  rw [← ex_print, bs_mkS]
  exact parse_print _
set_option maxRecDepth 100000 in
set_option maxHeartbeats 8000000 in
theorem awake_calls (w : World) : Calls Try.prog 8 #[] w fun e w' => e = .returned (.bool true) ∧ Below w.heap.size w w' := by
  have hu26 := Try.underlying26
  obtain ⟨T, hT⟩ : ∃ T, exT = T := ⟨_, rfl⟩
  have teq : (T.toList == ([82, 101, 99, 105, 112, 101, 40, 34, 97, 34, 44, 91, 34, 98, 34, 93, 44, 91, 40, 34, 100, 105, 114, 34, 44, 34, 120, 34, 41, 93, 41] : List UInt8)) = true := by rw [← hT, toList_bs]; exact beq_self_eq_true _
  have hPr := ex_print
  have hOk := ex_ok
  rw [hT] at hPr hOk
  have hsz : T.size ≤ 1099511627776 := by rw [← hT]; decide
  have HPR := Aside0.mk (show ∀ W A1 A2, Kd.C Kd.string W A1 1 exDeps → Kd.C k47 W A2 1 exSteps → Calls Try.prog 14 #[.agg #[.string ⟨#[97]⟩, .slice A1 1 1, .slice A2 1 1]] W fun e w' => e = .returned (.string T) ∧ Below W.heap.size W w' from fun W A1 A2 h1 h2 => by
    rw [← hPr]
    exact print_calls ⟨#[97]⟩ A1 1 exDeps A2 1 exSteps W h1 (Nat.le_refl _) h2 (Nat.le_refl _) (by decide))
  have HOK := Aside0.mk (show ∀ W, Calls Try.prog 9 #[.string T] W fun e w' => ∃ A1 c1 A2 c2, e = .returned (.tuple #[.agg #[.string ⟨#[97]⟩, .slice A1 1 c1, .slice A2 1 c2], .nilIface]) ∧ Below W.heap.size W w' from fun W => (parse_ok T hsz W _ _ _ _ hOk).mono fun e w' ⟨A1, c1, A2, c2, he, _, _, _, _, hb⟩ => ⟨A1, c1, A2, c2, he, hb⟩)
  have HBAD := Aside0.mk (show ∀ W, Calls Try.prog 9 #[.string ⟨#[82, 101, 99, 105, 112, 101, 40, 120]⟩] W fun e w' => ∃ g, e = .returned (.tuple #[.agg #[.string ⟨#[]⟩, .slice none 0 0, .slice none 0 0], .iface 51 (.pointer (some ⟨g, 0, none⟩))]) ∧ Below W.heap.size W w' from fun W => (parse_bad exBad (by decide) W _ ex_bad).mono fun e w' ⟨g, he, _, hb⟩ => ⟨g, he, hb⟩)
  clear hT hPr hOk hsz
  obtain ⟨w4, hw4⟩ : ∃ w4, (((w.alloc (.cells #[.string ⟨#[98]⟩] 9)).alloc (.cells #[.string ⟨#[120]⟩] 9)).alloc (.cells #[.string ⟨#[100, 105, 114]⟩, .slice (some ⟨w.heap.size + 1, 0, none⟩) 1 1] 47)).alloc (.cells #[.string ⟨#[97]⟩, .slice (some ⟨w.heap.size, 0, none⟩) 1 1, .slice (some ⟨w.heap.size + 1 + 1, 0, none⟩) 1 1] 26) = w4 := ⟨_, rfl⟩
  have a1 : ∀ (W : World) (o : Obj), (W.alloc o).heap.size = W.heap.size + 1 := fun W o => Array.size_push _
  have a2 : ∀ (W : World) (o : Obj) (k : Nat), k < W.heap.size → (W.alloc o).heap[k]? = W.heap[k]? := fun W o k hk => ((Below.refl W.heap.size W).alloc (Nat.le_refl _) o).block k hk
  have a3 : ∀ (W : World) (o : Obj) (k : Nat), k = W.heap.size → (W.alloc o).heap[k]? = some o := fun W o k hk => by rw [hk]; exact World.alloc_heap_new W o
  have g0 : w4.heap[w.heap.size]? = some (.cells #[.string ⟨#[98]⟩] 9 (0, 0)) := by rw [← hw4, a2 _ _ _ (by simp only [a1]; omega), a2 _ _ _ (by simp only [a1]; omega), a2 _ _ _ (by simp only [a1]; omega), a3 _ _ _ rfl]
  have g1 : w4.heap[w.heap.size + 1]? = some (.cells #[.string ⟨#[120]⟩] 9 (0, 0)) := by rw [← hw4, a2 _ _ _ (by simp only [a1]; omega), a2 _ _ _ (by simp only [a1]; omega), a3 _ _ _ (by simp only [a1])]
  have g2 : w4.heap[w.heap.size + 1 + 1]? = some (.cells #[.string ⟨#[100, 105, 114]⟩, .slice (some ⟨w.heap.size + 1, 0, none⟩) 1 1] 47 (0, 0)) := by rw [← hw4, a2 _ _ _ (by simp only [a1]; omega), a3 _ _ _ (by simp only [a1])]
  have g3 : w4.heap[w.heap.size + 1 + 1 + 1]? = some (.cells #[.string ⟨#[97]⟩, .slice (some ⟨w.heap.size, 0, none⟩) 1 1, .slice (some ⟨w.heap.size + 1 + 1, 0, none⟩) 1 1] 26 (0, 0)) := by rw [← hw4, a3 _ _ _ (by simp only [a1])]
  have hb4 : Below w.heap.size w w4 := by rw [← hw4]; exact ((((Below.refl _ w).alloc (Nat.le_refl _) _).alloc (by simp only [a1]; omega) _).alloc (by simp only [a1]; omega) _).alloc (by simp only [a1]; omega) _
  have hC1 : Kd.C Kd.string w4 (some ⟨w.heap.size, 0, none⟩) 1 exDeps := SQ.all (W := w4) (g := w.heap.size) (cap := 1) (xs := exDeps) ⟨⟨_, g0, rfl, rfl⟩, by decide, by decide⟩
  have hC3 : Kd.C Kd.string w4 (some ⟨w.heap.size + 1, 0, none⟩) 1 [(⟨#[120]⟩ : ByteArray)] := SQ.all (W := w4) (g := w.heap.size + 1) (cap := 1) (xs := [(⟨#[120]⟩ : ByteArray)]) ⟨⟨_, g1, rfl, rfl⟩, by decide, by decide⟩
  have hC2 : Kd.C k47 w4 (some ⟨w.heap.size + 1 + 1, 0, none⟩) 1 exSteps := by
    refine ⟨rfl, by decide, fun _ => ⟨_, rfl, fun j p hj => ?_⟩⟩
    have hlt : j < exSteps.length := (List.getElem?_eq_some_iff.1 hj).1
    obtain rfl : j = 0 := by simpa [exSteps] using hlt
    obtain rfl := Option.some.inj hj
    refine ⟨[.string ⟨#[100, 105, 114]⟩, .slice (some ⟨w.heap.size + 1, 0, none⟩) 1 1], rfl, k47_mk w4 ⟨⟨#[100, 105, 114]⟩, [(⟨#[120]⟩ : ByteArray)]⟩ (Nat.le_refl 1) hC3, fun i u hu => ?_⟩
    have e0 : (0 * k47.sz + i) = i := by omega
    rw [e0, add_plain]
    match i, hu with
    | 0, hu => obtain rfl := Option.some.inj hu; simp [World.cell?, g2]
    | 1, hu => obtain rfl := Option.some.inj hu; simp [World.cell?, g2]
    | i + 2, hu => simp at hu
  have x0 : w4.cell? ⟨w.heap.size + 1 + 1 + 1, 0, none⟩ = some (.string ⟨#[97]⟩) := by simp [World.cell?, g3]
  have x1 : w4.cell? ⟨w.heap.size + 1 + 1 + 1, 1, none⟩ = some (.slice (some ⟨w.heap.size, 0, none⟩) 1 1) := by simp [World.cell?, g3]
  have x2 : w4.cell? ⟨w.heap.size + 1 + 1 + 1, 2, none⟩ = some (.slice (some ⟨w.heap.size + 1 + 1, 0, none⟩) 1 1) := by simp [World.cell?, g3]
  have HB4 := Aside0.mk hb4
  have HC1 := Aside0.mk hC1
  have HC2 := Aside0.mk hC2
  clear a1 a2 a3 g0 g1 g2 g3 hb4 hC1 hC2 hC3
  go_enter Try.func8, Try.ntmps8
  go_wp2_with (first | (go_at_call 14; refine (HPR.out _ _ _ HC1.out HC2.out).mono ?_; rintro e w5 ⟨rfl, hb5⟩; have HB5 := Aside0.mk (HB4.out.trans (hb5.mono HB4.out.size)); clear hb5) | (go_at_call 9; ((with_reducible refine (HOK.out _).mono ?_)); rintro e w6 ⟨A1, c1, A2, c2, rfl, hb6⟩; have HB6 := Aside0.mk (HB5.out.trans (hb6.mono HB5.out.size)); clear hb6) | (go_at_call 9; generalize hW6 : World.alloc w6 _ = w6b; have z6 := heap_alloc_new w6 (.cells #[.string ⟨#[97]⟩, .slice A1 1 c1, .slice A2 1 c2] 26); rw [hW6] at z6; have hb6b := below_alloc1 hW6; ((with_reducible refine (HBAD.out _).mono ?_)); rintro e w7 ⟨g, rfl, hb7⟩; have z7 := (hb7.block _ (Array.getElem?_eq_some_iff.1 z6).1).trans z6; have HB7 := Aside0.mk (HB6.out.trans ((hb6b.trans (hb7.mono hb6b.size)).mono HB6.out.size)); have y0 : ∀ o, (w7.alloc o).cell? ⟨w6.heap.size, 0, none⟩ = some (.string ⟨#[97]⟩) := (fun o => pw_cell_below (below_alloc (Below.refl _ w7) o) (by simp [World.cell?, z7])); have y2 : ∀ o, (w7.alloc o).cell? ⟨w6.heap.size, 2, none⟩ = some (.slice A2 1 c2) := (fun o => pw_cell_below (below_alloc (Below.refl _ w7) o) (by simp [World.cell?, z7])); clear hb7 z6 z7 hb6b hW6))
  go_ret
  exact ⟨rfl, below_alloc HB7.out _⟩
end Go.Proofs.Ytdkkgeibifpgiaa.Rc
/- By a program of this session's: a plain Lean function for a Go function, and its contract. -/
namespace Go.Proofs.Ytdkkgeibifpgiaa.Q
open Go.RowKit Go.Proofs.YtdkkgeibifpgiaaW.PrintWords Go.Proofs.YtdkkgeibifpgiaaW.PrintLast Go.Proofs.YtdkkgeibifpgiaaW.PrintMore
attribute [local go_sem] max2_int min2_int max_two min_two max_three min_three max_four min_four Go.Proofs.Ytdkkgeibifpgiaa.Ord.str_leq Go.Proofs.Ytdkkgeibifpgiaa.Ord.str_gtr Go.Proofs.Ytdkkgeibifpgiaa.Ord.str_geq   -- for this text's walks alone
set_option linter.unusedVariables false
set_option linter.unusedSimpArgs false

/-! ### depotref21_str: function 24 -/
mutual
def depotref21_str.l0 : Nat → ByteArray → Int → List Int → Option (ByteArray × Int × Bool)
  | 0, _, _, _ => none
  | k + 1, x0, x1, x8 => if x1 < (x0.size : Int) then (if 0 ≤ x1 then (if (bt x0 x1) = 34 then (some (strOfNums x8, wrap64 (x1 + 1), true)) else (if (bt x0 x1) = 10 then (depotref21_str.j1 k x0 x1 x8 (bt x0 x1) true) else (depotref21_str.j1 k x0 x1 x8 (bt x0 x1) ((bt x0 x1) == 9)))) else (none)) else (some ((⟨#[]⟩ : ByteArray), x1, false))
def depotref21_str.j1 : Nat → ByteArray → Int → List Int → Int → Bool → Option (ByteArray × Int × Bool)
  | 0, _, _, _, _, _ => none
  | k + 1, x0, x1, x8, x9, x37 => if x37 = true then (some ((⟨#[]⟩ : ByteArray), x1, false)) else (if x9 = 92 then (if (wrap64 (x1 + 1)) = (x0.size : Int) then (some ((⟨#[]⟩ : ByteArray), wrap64 (x1 + 1), false)) else (if 0 ≤ (wrap64 (x1 + 1)) then (if (wrap64 (x1 + 1)) < (x0.size : Int) then (if (bt x0 (wrap64 (x1 + 1))) = 110 then (if x8.length < 140737488355328 then (depotref21_str.l0 k x0 (wrap64 ((wrap64 (x1 + 1)) + 1)) (x8 ++ [10])) else (none)) else (if (bt x0 (wrap64 (x1 + 1))) = 116 then (if x8.length < 140737488355328 then (depotref21_str.l0 k x0 (wrap64 ((wrap64 (x1 + 1)) + 1)) (x8 ++ [9])) else (none)) else (if (bt x0 (wrap64 (x1 + 1))) = 34 then (if x8.length < 140737488355328 then (depotref21_str.l0 k x0 (wrap64 ((wrap64 (x1 + 1)) + 1)) (x8 ++ [bt x0 (wrap64 (x1 + 1))])) else (none)) else (if (bt x0 (wrap64 (x1 + 1))) = 92 then (if x8.length < 140737488355328 then (depotref21_str.l0 k x0 (wrap64 ((wrap64 (x1 + 1)) + 1)) (x8 ++ [bt x0 (wrap64 (x1 + 1))])) else (none)) else (some ((⟨#[]⟩ : ByteArray), wrap64 (x1 + 1), false)))))) else (none)) else (none))) else (if x8.length < 140737488355328 then (depotref21_str.l0 k x0 (wrap64 (x1 + 1)) (x8 ++ [x9])) else (none)))
end
def depotref21_str.f (k : Nat) (a0 : ByteArray) (a1 : Int) : Option (ByteArray × Int × Bool) := (depotref21_word.f k a0 a1 (⟨#[34]⟩ : ByteArray)).bind fun bt145 => (if bt145.2 = true then (depotref21_str.l0 k a0 bt145.1 ([] : List Int)) else (some ((⟨#[]⟩ : ByteArray), bt145.1, false)))
theorem depotref21_str.mono_l : ∀ k, (∀ y0 y1 y2, LeO (depotref21_str.l0 k y0 y1 y2) (depotref21_str.l0 (k + 1) y0 y1 y2)) ∧ (∀ y0 y1 y2 y3 y4, LeO (depotref21_str.j1 k y0 y1 y2 y3 y4) (depotref21_str.j1 (k + 1) y0 y1 y2 y3 y4))
  | 0 => ⟨fun _ _ _ r h => by simp [depotref21_str.l0] at h, fun _ _ _ _ _ r h => by simp [depotref21_str.j1] at h⟩
  | k + 1 => by
    obtain ⟨ih0, ih1⟩ := depotref21_str.mono_l k
    refine ⟨?_, ?_⟩
    · intro y0 y1 y2
      unfold depotref21_str.l0
      repeat' first
      | (with_reducible exact ih0 _ _ _)
      | (with_reducible exact ih1 _ _ _ _ _)
      | (with_reducible exact depotref21_word.mono _ _ _ _)
      | (with_reducible exact LeO.refl _)
      | (with_reducible exact LeO.none _)
      | (with_reducible refine LeO.ite ?_ ?_)
      | (with_reducible refine LeO.bind ?_ (fun _ => ?_))
      | exact ih0 _ _ _
      | exact ih1 _ _ _ _ _
      | exact depotref21_word.mono _ _ _ _
      | exact LeO.none _
      | refine LeO.ite ?_ ?_
      | refine LeO.bind ?_ (fun _ => ?_)
    · intro y0 y1 y2 y3 y4
      unfold depotref21_str.j1
      repeat' first
      | (with_reducible exact ih0 _ _ _)
      | (with_reducible exact ih1 _ _ _ _ _)
      | (with_reducible exact depotref21_word.mono _ _ _ _)
      | (with_reducible exact LeO.refl _)
      | (with_reducible exact LeO.none _)
      | (with_reducible refine LeO.ite ?_ ?_)
      | (with_reducible refine LeO.bind ?_ (fun _ => ?_))
      | exact ih0 _ _ _
      | exact ih1 _ _ _ _ _
      | exact depotref21_word.mono _ _ _ _
      | exact LeO.none _
      | refine LeO.ite ?_ ?_
      | refine LeO.bind ?_ (fun _ => ?_)
theorem depotref21_str.mono : ∀ a0 a1 k, LeO (depotref21_str.f k a0 a1) (depotref21_str.f (k + 1) a0 a1) := by
  intro a0 a1 k
  obtain ⟨ih0, ih1⟩ := depotref21_str.mono_l k
  unfold depotref21_str.f
  repeat' first
      | (with_reducible exact ih0 _ _ _)
      | (with_reducible exact ih1 _ _ _ _ _)
      | (with_reducible exact depotref21_word.mono _ _ _ _)
      | (with_reducible exact LeO.refl _)
      | (with_reducible exact LeO.none _)
      | (with_reducible refine LeO.ite ?_ ?_)
      | (with_reducible refine LeO.bind ?_ (fun _ => ?_))
      | exact ih0 _ _ _
      | exact ih1 _ _ _ _ _
      | exact depotref21_word.mono _ _ _ _
      | exact LeO.none _
      | refine LeO.ite ?_ ?_
      | refine LeO.bind ?_ (fun _ => ?_)
set_option maxHeartbeats 8000000 in
set_option maxRecDepth 100000 in
theorem depotref21_str.calls (k : Nat) (a0 : ByteArray) (a1 : Int) (r1 : ByteArray) (r2 : Int) (r3 : Bool) (w : World) (h : depotref21_str.f k a0 a1 = some (r1, r2, r3)) :
    Calls Try.prog 24 #[.string a0, .int .i64 a1] w fun e w' => e = .returned (.tuple #[.string r1, .int .i64 r2, .bool r3]) ∧ Below w.heap.size w w' := by
  have HB := Aside0.mk (Below.refl w.heap.size w)
  have H : ((depotref21_word.f k a0 a1 (⟨#[34]⟩ : ByteArray)).bind fun bt145 => (if bt145.2 = true then (depotref21_str.l0 k a0 bt145.1 ([] : List Int)) else (some ((⟨#[]⟩ : ByteArray), bt145.1, false)))) = some (r1, r2, r3) := h
  clear h
  replace H := Option.bind_eq_some_iff.mp H
  obtain ⟨⟨t145, t146⟩, A30, H⟩ := H
  replace H : (if t146 = true then (depotref21_str.l0 k a0 t145 ([] : List Int)) else (some ((⟨#[]⟩ : ByteArray), t145, false))) = some (r1, r2, r3) := H
  have A3 := Aside0.mk A30
  clear A30
  by_cases c4 : t146 = true
  · subst c4
    have H1 : (depotref21_str.l0 k a0 t145 ([] : List Int)) = some (r1, r2, r3) := by rw [if_pos rfl] at H; exact H
    clear H
    have H := H1
    clear H1
    have H' := Aside0.mk H
    clear H
    go_enter Try.func24, Try.ntmps24
    go_wp2_with (first | ((with_reducible refine gate_callee (f := 23) rfl ?_); refine goesL_ (some 13) rfl rfl Try.func23 (by kernel_rfl) rfl #[.string a0, .int .i64 a1, .string (⟨#[34]⟩ : ByteArray)] rfl (by (try simp only [List.map_toArray, List.map_cons, List.map_nil]); first | done | rfl | (simp only [List.length_drop, List.length_take]; rfl)) ?_; (with_reducible refine (depotref21_word.calls k a0 a1 (⟨#[34]⟩ : ByteArray) t145 true _ A3.out).mono ?_); rintro e w' ⟨rfl, ⟨nd, rfl⟩⟩; refine ⟨_, rfl, ?_⟩))
    go_loopg [1, 8] k (fun kq v1 v8 w' => ∃ (x1_1 : Int) (x8_1 : List Int), v1 = .int .i64 x1_1 ∧ Aside0 (depotref21_str.l0 kq a0 x1_1 x8_1 = some (r1, r2, r3)) ∧ Aside0 (kq ≤ k) ∧ Aside0 (Kd.R (Kd.int .u8) 5 w' w.heap.size (fun _ => True) v8 x8_1) ∧ Aside0 (Below w.heap.size w w'))
    case atStart => exact ⟨(t145), (([] : List Int)), (by first | rfl | (simp; done) | (simp [*]; done)), H', ⟨Nat.le_refl _⟩, ⟨by first | exact Kd.R_nil _ _ _ _ _ | exact Kd.N_nil _ _ _ _ _ | exact Kd.V_nil _ _ _ _ _ | exact Kd.Q_nil _ _ _ _ _ | exact Kd.S_nil _ _ _ _ _⟩, ⟨by repeat (first | (with_reducible first | exact HB.out | apply below_alloc | apply pw_below_drewN | apply below_drew1) | exact HB.out)⟩⟩
    case round =>
      clear H'
      try clear c2
      try clear p2
      try clear c4
      obtain ⟨x1_1, x8_1, rfl, HA, HK1, HO_8, HB⟩ := hrel
      cases gk with
      | zero => exact absurd HA.out (by simp [depotref21_str.l0])
      | succ k1 =>
        have H := HA.out
        clear HA
        simp only [depotref21_str.l0] at H
        by_cases c5 : x1_1 < (a0.size : Int)
        · rw [if_pos c5] at H
          have c5b0 : decide (x1_1 < (a0.size : Int)) = true := decide_eq_true c5
          clear c5
          by_cases c6 : 0 ≤ x1_1
          · rw [if_pos c6] at H
            have c6b0 : decide (0 ≤ x1_1) = true := decide_eq_true c6
            clear c6
            by_cases c8 : (bt a0 x1_1) = 34
            · rw [if_pos c8] at H
              have c8b0 : ((bt a0 x1_1) == 34) = true := beq_iff_eq.mpr c8
              have c8b1 : ((bt a0 x1_1) != 34) = false := bne_eq_false_iff_eq.mpr c8
              clear c8
              simp only [Option.some.injEq, Prod.mk.injEq] at H
              obtain ⟨rfl, rfl, rfl⟩ := H
              have p7 : 0 ≤ (x1_1 : Int) := of_decide_eq_true (by first | (with_reducible assumption) | assumption)
              have q7 : x1_1 < (a0.size : Int) := of_decide_eq_true (by first | (with_reducible assumption) | assumption)
              have hx7 := bt_at a0 x1_1
              replace p7 := eq_true p7
              replace q7 := eq_true q7
              have hcv9 := own_string (P := Try.prog) Try.underlying74 Try.underlying5 Try.underlying9 (Kd.own_of_R HO_8.out)
              go_wp2
              go_ret3
              exact ⟨by first | rfl | (simp [errW_none, errW_some] <;> rfl) | (simp [*, errW_none, errW_some] <;> rfl), by repeat (first | (with_reducible first | exact HB.out | apply below_alloc | apply pw_below_drewN | apply below_drew1) | exact HB.out)⟩
            · rw [if_neg c8] at H
              have c8b0 : ((bt a0 x1_1) == 34) = false := beq_eq_false_iff_ne.mpr c8
              have c8b1 : ((bt a0 x1_1) != 34) = true := bne_iff_ne.mpr c8
              have HC10 := Aside0.mk H
              clear H
              have p7 : 0 ≤ (x1_1 : Int) := of_decide_eq_true (by first | (with_reducible assumption) | assumption)
              have q7 : x1_1 < (a0.size : Int) := of_decide_eq_true (by first | (with_reducible assumption) | assumption)
              have hx7 := bt_at a0 x1_1
              replace p7 := eq_true p7
              replace q7 := eq_true q7
              go_upto_region 9 with (fail)
              go_cut [37] (fun v37 wc => ∃ (kq : Nat) (x37_9 : Bool), v37 = .bool x37_9 ∧ Aside0 (depotref21_str.j1 kq a0 x1_1 x8_1 (bt a0 x1_1) x37_9 = some (r1, r2, r3)) ∧ Aside0 (kq ≤ k1) ∧ Aside0 (Kd.R (Kd.int .u8) 5 wc w.heap.size (fun _ => True) u8 x8_1) ∧ Aside0 (Below w.heap.size w wc))
              case first =>
                have H := HC10.out
                clear HC10
                by_cases c11 : (bt a0 x1_1) = 10
                · rw [if_pos c11] at H
                  have c11b0 : ((bt a0 x1_1) == 10) = true := beq_iff_eq.mpr c11
                  have c11b1 : ((bt a0 x1_1) != 10) = false := bne_eq_false_iff_eq.mpr c11
                  clear c11
                  (first | rw [c11b0] | (simp only [i64_w, i32_w]; rw [c11b0]) | skip)
                  have H' := Aside0.mk H
                  clear H
                  go_wp2
                  go_meet
                  case rel => exact ⟨_, (true), (by first | rfl | (simp; done) | (simp [*]; done)), H', ⟨by have := HK1.out; first | omega | exact Nat.le_refl _⟩, ⟨by (with_reducible repeat (first | apply Kd.R_alloc | apply Kd.R_drewN | apply Kd.R_drew)); exact HO_8.out⟩, ⟨by repeat (first | (with_reducible first | exact HB.out | apply below_alloc | apply pw_below_drewN | apply below_drew1) | exact HB.out)⟩⟩
                · rw [if_neg c11] at H
                  have c11b0 : ((bt a0 x1_1) == 10) = false := beq_eq_false_iff_ne.mpr c11
                  have c11b1 : ((bt a0 x1_1) != 10) = true := bne_iff_ne.mpr c11
                  (first | rw [c11b0] | (simp only [i64_w, i32_w]; rw [c11b0]) | skip)
                  have H' := Aside0.mk H
                  clear H
                  go_wp2
                  go_meet
                  case rel => exact ⟨_, (((bt a0 x1_1) == 9)), (by first | rfl | (simp; done) | (simp [*]; done)), H', ⟨by have := HK1.out; first | omega | exact Nat.le_refl _⟩, ⟨by (with_reducible repeat (first | apply Kd.R_alloc | apply Kd.R_drewN | apply Kd.R_drew)); exact HO_8.out⟩, ⟨by repeat (first | (with_reducible first | exact HB.out | apply below_alloc | apply pw_below_drewN | apply below_drew1) | exact HB.out)⟩⟩
              case rest =>
                clear HC10
                try clear c1
                try clear c2
                try clear p2
                try clear c4
                try clear c5
                try clear c5b0
                try clear c6
                try clear c6b0
                try clear p7
                try clear q7
                try clear hx7
                try clear c8
                try clear c8b0
                try clear c8b1
                try clear hcv9
                try clear c11
                try clear c11b0
                try clear c11b1
                try clear p2
                try clear p7
                try clear q7
                obtain ⟨kq, x37_9, rfl, HA, HJ9, HO_8, HB⟩ := hcut
                cases kq with
                | zero => exact absurd HA.out (by simp [depotref21_str.j1])
                | succ kj9 =>
                  have H := HA.out
                  clear HA
                  simp only [depotref21_str.j1] at H
                  by_cases c12 : x37_9 = true
                  · subst c12
                    have H1 : (some ((⟨#[]⟩ : ByteArray), x1_1, false)) = some (r1, r2, r3) := by rw [if_pos rfl] at H; exact H
                    clear H
                    have H := H1
                    clear H1
                    simp only [Option.some.injEq, Prod.mk.injEq] at H
                    obtain ⟨rfl, rfl, rfl⟩ := H
                    go_wp2
                    go_ret3
                    exact ⟨by first | rfl | (simp [errW_none, errW_some] <;> rfl) | (simp [*, errW_none, errW_some] <;> rfl), by repeat (first | (with_reducible first | exact HB.out | apply below_alloc | apply pw_below_drewN | apply below_drew1) | exact HB.out)⟩
                  · replace c12 := Bool.eq_false_iff.mpr c12
                    subst c12
                    have H1 : (if (bt a0 x1_1) = 92 then (if (wrap64 (x1_1 + 1)) = (a0.size : Int) then (some ((⟨#[]⟩ : ByteArray), wrap64 (x1_1 + 1), false)) else (if 0 ≤ (wrap64 (x1_1 + 1)) then (if (wrap64 (x1_1 + 1)) < (a0.size : Int) then (if (bt a0 (wrap64 (x1_1 + 1))) = 110 then (if x8_1.length < 140737488355328 then (depotref21_str.l0 kj9 a0 (wrap64 ((wrap64 (x1_1 + 1)) + 1)) (x8_1 ++ [10])) else (none)) else (if (bt a0 (wrap64 (x1_1 + 1))) = 116 then (if x8_1.length < 140737488355328 then (depotref21_str.l0 kj9 a0 (wrap64 ((wrap64 (x1_1 + 1)) + 1)) (x8_1 ++ [9])) else (none)) else (if (bt a0 (wrap64 (x1_1 + 1))) = 34 then (if x8_1.length < 140737488355328 then (depotref21_str.l0 kj9 a0 (wrap64 ((wrap64 (x1_1 + 1)) + 1)) (x8_1 ++ [bt a0 (wrap64 (x1_1 + 1))])) else (none)) else (if (bt a0 (wrap64 (x1_1 + 1))) = 92 then (if x8_1.length < 140737488355328 then (depotref21_str.l0 kj9 a0 (wrap64 ((wrap64 (x1_1 + 1)) + 1)) (x8_1 ++ [bt a0 (wrap64 (x1_1 + 1))])) else (none)) else (some ((⟨#[]⟩ : ByteArray), wrap64 (x1_1 + 1), false)))))) else (none)) else (none))) else (if x8_1.length < 140737488355328 then (depotref21_str.l0 kj9 a0 (wrap64 (x1_1 + 1)) (x8_1 ++ [(bt a0 x1_1)])) else (none))) = some (r1, r2, r3) := by rw [if_neg (show ¬ (false = true) by decide)] at H; exact H
                    clear H
                    have H := H1
                    clear H1
                    by_cases c13 : (bt a0 x1_1) = 92
                    · rw [if_pos c13] at H
                      have c13b0 : ((bt a0 x1_1) == 92) = true := beq_iff_eq.mpr c13
                      have c13b1 : ((bt a0 x1_1) != 92) = false := bne_eq_false_iff_eq.mpr c13
                      clear c13
                      by_cases c14 : (wrap64 (x1_1 + 1)) = (a0.size : Int)
                      · rw [if_pos c14] at H
                        have c14b0 : ((wrap64 (x1_1 + 1)) == (a0.size : Int)) = true := beq_iff_eq.mpr c14
                        have c14b1 : ((wrap64 (x1_1 + 1)) != (a0.size : Int)) = false := bne_eq_false_iff_eq.mpr c14
                        clear c14
                        simp only [Option.some.injEq, Prod.mk.injEq] at H
                        obtain ⟨rfl, rfl, rfl⟩ := H
                        go_wp2
                        go_ret3
                        exact ⟨by first | rfl | (simp [errW_none, errW_some] <;> rfl) | (simp [*, errW_none, errW_some] <;> rfl), by repeat (first | (with_reducible first | exact HB.out | apply below_alloc | apply pw_below_drewN | apply below_drew1) | exact HB.out)⟩
                      · rw [if_neg c14] at H
                        have c14b0 : ((wrap64 (x1_1 + 1)) == (a0.size : Int)) = false := beq_eq_false_iff_ne.mpr c14
                        have c14b1 : ((wrap64 (x1_1 + 1)) != (a0.size : Int)) = true := bne_iff_ne.mpr c14
                        obtain ⟨ji15, hji15⟩ : ∃ j_ : Int, (wrap64 (x1_1 + 1)) = j_ := ⟨_, rfl⟩
                        replace H : (if 0 ≤ (ji15) then (if (ji15) < (a0.size : Int) then (if (bt a0 (ji15)) = 110 then (if x8_1.length < 140737488355328 then (depotref21_str.l0 kj9 a0 (wrap64 ((ji15) + 1)) (x8_1 ++ [10])) else (none)) else (if (bt a0 (ji15)) = 116 then (if x8_1.length < 140737488355328 then (depotref21_str.l0 kj9 a0 (wrap64 ((ji15) + 1)) (x8_1 ++ [9])) else (none)) else (if (bt a0 (ji15)) = 34 then (if x8_1.length < 140737488355328 then (depotref21_str.l0 kj9 a0 (wrap64 ((ji15) + 1)) (x8_1 ++ [bt a0 (ji15)])) else (none)) else (if (bt a0 (ji15)) = 92 then (if x8_1.length < 140737488355328 then (depotref21_str.l0 kj9 a0 (wrap64 ((ji15) + 1)) (x8_1 ++ [bt a0 (ji15)])) else (none)) else (some ((⟨#[]⟩ : ByteArray), ji15, false)))))) else (none)) else (none)) = some (r1, r2, r3) := by first | (rw [hji15] at H; exact H) | (simp only [hji15] at H ⊢; exact H)
                        (try rw [hji15] at c14b0)
                        (try rw [hji15] at c14b1)
                        have hji15w : (IntKind.i64.wrap (x1_1 + 1)) = ji15 := (i64_w _).trans hji15
                        by_cases c16 : 0 ≤ (ji15)
                        · rw [if_pos c16] at H
                          have c16b0 : decide (0 ≤ (ji15)) = true := decide_eq_true c16
                          clear c16
                          by_cases c17 : (ji15) < (a0.size : Int)
                          · rw [if_pos c17] at H
                            have c17b0 : decide ((ji15) < (a0.size : Int)) = true := decide_eq_true c17
                            clear c17
                            by_cases c19 : (bt a0 (ji15)) = 110
                            · rw [if_pos c19] at H
                              have c19b0 : ((bt a0 (ji15)) == 110) = true := beq_iff_eq.mpr c19
                              have c19b1 : ((bt a0 (ji15)) != 110) = false := bne_eq_false_iff_eq.mpr c19
                              clear c19
                              by_cases c20 : x8_1.length < 140737488355328
                              · rw [if_pos c20] at H
                                have LMc20 := Aside0.mk c20
                                clear c20
                                obtain ⟨y147, hy147⟩ : ∃ y_ : List Int, y_ = (x8_1 ++ [10]) := ⟨_, rfl⟩
                                replace H : (depotref21_str.l0 kj9 a0 (wrap64 ((ji15) + 1)) y147) = some (r1, r2, r3) := by first | (rw [hy147]; with_reducible exact H) | (have H2_ := (Option.bind_some _ _).symm.trans H; rw [hy147]; with_reducible exact H2_) | (have H2_ := (Option.bind_some _ _).symm.trans H; with_reducible exact H2_) | with_reducible exact H | (rw [hy147]; exact H) | exact H
                                have Ny147 := Aside0.mk hy147
                                clear hy147
                                have H' := Aside0.mk H
                                clear H
                                have p18 : 0 ≤ ((ji15) : Int) := of_decide_eq_true (by first | (with_reducible assumption) | assumption)
                                have q18 : (ji15) < (a0.size : Int) := of_decide_eq_true (by first | (with_reducible assumption) | assumption)
                                have hx18 := bt_at a0 (ji15)
                                replace p18 := eq_true p18
                                replace q18 := eq_true q18
                                go_wp2_with (first | ((with_reducible refine gate_builtin (b := .append) (xs := #[.tmp 62, .tmp 64]) rfl ?_); at_builtin; refine Kd.R_append (Kd.int .u8) (w0 := w) w.heap.size rfl (.tmp 62) (.tmp 64) 74 5 (.int .u8 0) 1 rfl Try.underlying74 info5 rfl (by decide) (by omega) u8 x8_1 10 [.int .u8 10] (fun _ => True) (fun _ => False) rfl rfl ?aP (fun _ hk => hk.elim) ?aF ?aO ?aB ?aS ?aL ?_; (case aP => exact rfl); (case aB => exact (by repeat (first | (with_reducible first | exact HB.out | apply below_alloc | apply pw_below_drewN | apply below_drew1) | exact HB.out))); (case aF => exact (fun _ _ => trivial)); (case aO => exact (by (with_reducible repeat (first | apply Kd.R_alloc | apply Kd.R_drewN | apply Kd.R_drew)); exact HO_8.out)); (case aS => exact (below_size (by repeat (first | (with_reducible first | exact HB.out | apply below_alloc | apply pw_below_drewN | apply below_drew1) | exact HB.out)))); (case aL => have := LMc20.out; omega); intro v148 w21 ho hb hg hat; rw [← Ny147.out] at ho; have n0_ := Aside0.mk (hb); have n1_ := Aside0.mk (ho); clear HB; clear HO_8; have HB := n0_; have HO149 := n1_; clear n0_ n1_; clear ho hb hg hat))
                                go_roundg kj9
                                case measure => have := HK1.out; have := HJ9.out; omega
                                case rel => exact ⟨(wrap64 ((ji15) + 1)), (y147), (by first | rfl | (simp; done) | (simp only [← hji15] <;> (first | rfl | simp)) | (simp [*]; done)), H', ⟨by have := HK1.out; have := HJ9.out; omega⟩, ⟨by (with_reducible repeat (first | apply Kd.R_alloc | apply Kd.R_drewN | apply Kd.R_drew)); exact HO149.out⟩, ⟨by repeat (first | (with_reducible first | exact HB.out | apply below_alloc | apply pw_below_drewN | apply below_drew1) | exact HB.out)⟩⟩
                              · rw [if_neg c20] at H
                                exact absurd H (by simp)
                            · rw [if_neg c19] at H
                              have c19b0 : ((bt a0 (ji15)) == 110) = false := beq_eq_false_iff_ne.mpr c19
                              have c19b1 : ((bt a0 (ji15)) != 110) = true := bne_iff_ne.mpr c19
                              by_cases c22 : (bt a0 (ji15)) = 116
                              · rw [if_pos c22] at H
                                have c22b0 : ((bt a0 (ji15)) == 116) = true := beq_iff_eq.mpr c22
                                have c22b1 : ((bt a0 (ji15)) != 116) = false := bne_eq_false_iff_eq.mpr c22
                                clear c22
                                by_cases c23 : x8_1.length < 140737488355328
                                · rw [if_pos c23] at H
                                  have LMc23 := Aside0.mk c23
                                  clear c23
                                  obtain ⟨y150, hy150⟩ : ∃ y_ : List Int, y_ = (x8_1 ++ [9]) := ⟨_, rfl⟩
                                  replace H : (depotref21_str.l0 kj9 a0 (wrap64 ((ji15) + 1)) y150) = some (r1, r2, r3) := by first | (rw [hy150]; with_reducible exact H) | (have H2_ := (Option.bind_some _ _).symm.trans H; rw [hy150]; with_reducible exact H2_) | (have H2_ := (Option.bind_some _ _).symm.trans H; with_reducible exact H2_) | with_reducible exact H | (rw [hy150]; exact H) | exact H
                                  have Ny150 := Aside0.mk hy150
                                  clear hy150
                                  have H' := Aside0.mk H
                                  clear H
                                  have p18 : 0 ≤ ((ji15) : Int) := of_decide_eq_true (by first | (with_reducible assumption) | assumption)
                                  have q18 : (ji15) < (a0.size : Int) := of_decide_eq_true (by first | (with_reducible assumption) | assumption)
                                  have hx18 := bt_at a0 (ji15)
                                  replace p18 := eq_true p18
                                  replace q18 := eq_true q18
                                  go_wp2_with (first | ((with_reducible refine gate_builtin (b := .append) (xs := #[.tmp 62, .tmp 64]) rfl ?_); at_builtin; refine Kd.R_append (Kd.int .u8) (w0 := w) w.heap.size rfl (.tmp 62) (.tmp 64) 74 5 (.int .u8 0) 1 rfl Try.underlying74 info5 rfl (by decide) (by omega) u8 x8_1 9 [.int .u8 9] (fun _ => True) (fun _ => False) rfl rfl ?aP (fun _ hk => hk.elim) ?aF ?aO ?aB ?aS ?aL ?_; (case aP => exact rfl); (case aB => exact (by repeat (first | (with_reducible first | exact HB.out | apply below_alloc | apply pw_below_drewN | apply below_drew1) | exact HB.out))); (case aF => exact (fun _ _ => trivial)); (case aO => exact (by (with_reducible repeat (first | apply Kd.R_alloc | apply Kd.R_drewN | apply Kd.R_drew)); exact HO_8.out)); (case aS => exact (below_size (by repeat (first | (with_reducible first | exact HB.out | apply below_alloc | apply pw_below_drewN | apply below_drew1) | exact HB.out)))); (case aL => have := LMc23.out; omega); intro v151 w24 ho hb hg hat; rw [← Ny150.out] at ho; have n0_ := Aside0.mk (hb); have n1_ := Aside0.mk (ho); clear HB; clear HO_8; have HB := n0_; have HO152 := n1_; clear n0_ n1_; clear ho hb hg hat))
                                  go_roundg kj9
                                  case measure => have := HK1.out; have := HJ9.out; omega
                                  case rel => exact ⟨(wrap64 ((ji15) + 1)), (y150), (by first | rfl | (simp; done) | (simp only [← hji15] <;> (first | rfl | simp)) | (simp [*]; done)), H', ⟨by have := HK1.out; have := HJ9.out; omega⟩, ⟨by (with_reducible repeat (first | apply Kd.R_alloc | apply Kd.R_drewN | apply Kd.R_drew)); exact HO152.out⟩, ⟨by repeat (first | (with_reducible first | exact HB.out | apply below_alloc | apply pw_below_drewN | apply below_drew1) | exact HB.out)⟩⟩
                                · rw [if_neg c23] at H
                                  exact absurd H (by simp)
                              · rw [if_neg c22] at H
                                have c22b0 : ((bt a0 (ji15)) == 116) = false := beq_eq_false_iff_ne.mpr c22
                                have c22b1 : ((bt a0 (ji15)) != 116) = true := bne_iff_ne.mpr c22
                                by_cases c25 : (bt a0 (ji15)) = 34
                                · rw [if_pos c25] at H
                                  have c25b0 : ((bt a0 (ji15)) == 34) = true := beq_iff_eq.mpr c25
                                  have c25b1 : ((bt a0 (ji15)) != 34) = false := bne_eq_false_iff_eq.mpr c25
                                  clear c25
                                  by_cases c26 : x8_1.length < 140737488355328
                                  · rw [if_pos c26] at H
                                    have LMc26 := Aside0.mk c26
                                    clear c26
                                    obtain ⟨y153, hy153⟩ : ∃ y_ : List Int, y_ = (x8_1 ++ [bt a0 (ji15)]) := ⟨_, rfl⟩
                                    replace H : (depotref21_str.l0 kj9 a0 (wrap64 ((ji15) + 1)) y153) = some (r1, r2, r3) := by first | (rw [hy153]; with_reducible exact H) | (have H2_ := (Option.bind_some _ _).symm.trans H; rw [hy153]; with_reducible exact H2_) | (have H2_ := (Option.bind_some _ _).symm.trans H; with_reducible exact H2_) | with_reducible exact H | (rw [hy153]; exact H) | exact H
                                    have Ny153 := Aside0.mk hy153
                                    clear hy153
                                    have H' := Aside0.mk H
                                    clear H
                                    have p18 : 0 ≤ ((ji15) : Int) := of_decide_eq_true (by first | (with_reducible assumption) | assumption)
                                    have q18 : (ji15) < (a0.size : Int) := of_decide_eq_true (by first | (with_reducible assumption) | assumption)
                                    have hx18 := bt_at a0 (ji15)
                                    replace p18 := eq_true p18
                                    replace q18 := eq_true q18
                                    go_wp2_with (first | ((with_reducible refine gate_builtin (b := .append) (xs := #[.tmp 62, .tmp 64]) rfl ?_); at_builtin; refine Kd.R_append (Kd.int .u8) (w0 := w) w.heap.size rfl (.tmp 62) (.tmp 64) 74 5 (.int .u8 0) 1 rfl Try.underlying74 info5 rfl (by decide) (by omega) u8 x8_1 (bt a0 (ji15)) [.int .u8 (bt a0 (ji15))] (fun _ => True) (fun _ => False) rfl rfl ?aP (fun _ hk => hk.elim) ?aF ?aO ?aB ?aS ?aL ?_; (case aP => exact rfl); (case aB => exact (by repeat (first | (with_reducible first | exact HB.out | apply below_alloc | apply pw_below_drewN | apply below_drew1) | exact HB.out))); (case aF => exact (fun _ _ => trivial)); (case aO => exact (by (with_reducible repeat (first | apply Kd.R_alloc | apply Kd.R_drewN | apply Kd.R_drew)); exact HO_8.out)); (case aS => exact (below_size (by repeat (first | (with_reducible first | exact HB.out | apply below_alloc | apply pw_below_drewN | apply below_drew1) | exact HB.out)))); (case aL => have := LMc26.out; omega); intro v154 w27 ho hb hg hat; rw [← Ny153.out] at ho; have n0_ := Aside0.mk (hb); have n1_ := Aside0.mk (ho); clear HB; clear HO_8; have HB := n0_; have HO155 := n1_; clear n0_ n1_; clear ho hb hg hat))
                                    go_roundg kj9
                                    case measure => have := HK1.out; have := HJ9.out; omega
                                    case rel => exact ⟨(wrap64 ((ji15) + 1)), (y153), (by first | rfl | (simp; done) | (simp only [← hji15] <;> (first | rfl | simp)) | (simp [*]; done)), H', ⟨by have := HK1.out; have := HJ9.out; omega⟩, ⟨by (with_reducible repeat (first | apply Kd.R_alloc | apply Kd.R_drewN | apply Kd.R_drew)); exact HO155.out⟩, ⟨by repeat (first | (with_reducible first | exact HB.out | apply below_alloc | apply pw_below_drewN | apply below_drew1) | exact HB.out)⟩⟩
                                  · rw [if_neg c26] at H
                                    exact absurd H (by simp)
                                · rw [if_neg c25] at H
                                  have c25b0 : ((bt a0 (ji15)) == 34) = false := beq_eq_false_iff_ne.mpr c25
                                  have c25b1 : ((bt a0 (ji15)) != 34) = true := bne_iff_ne.mpr c25
                                  by_cases c28 : (bt a0 (ji15)) = 92
                                  · rw [if_pos c28] at H
                                    have c28b0 : ((bt a0 (ji15)) == 92) = true := beq_iff_eq.mpr c28
                                    have c28b1 : ((bt a0 (ji15)) != 92) = false := bne_eq_false_iff_eq.mpr c28
                                    clear c28
                                    by_cases c29 : x8_1.length < 140737488355328
                                    · rw [if_pos c29] at H
                                      have LMc29 := Aside0.mk c29
                                      clear c29
                                      obtain ⟨y156, hy156⟩ : ∃ y_ : List Int, y_ = (x8_1 ++ [bt a0 (ji15)]) := ⟨_, rfl⟩
                                      replace H : (depotref21_str.l0 kj9 a0 (wrap64 ((ji15) + 1)) y156) = some (r1, r2, r3) := by first | (rw [hy156]; with_reducible exact H) | (have H2_ := (Option.bind_some _ _).symm.trans H; rw [hy156]; with_reducible exact H2_) | (have H2_ := (Option.bind_some _ _).symm.trans H; with_reducible exact H2_) | with_reducible exact H | (rw [hy156]; exact H) | exact H
                                      have Ny156 := Aside0.mk hy156
                                      clear hy156
                                      have H' := Aside0.mk H
                                      clear H
                                      have p18 : 0 ≤ ((ji15) : Int) := of_decide_eq_true (by first | (with_reducible assumption) | assumption)
                                      have q18 : (ji15) < (a0.size : Int) := of_decide_eq_true (by first | (with_reducible assumption) | assumption)
                                      have hx18 := bt_at a0 (ji15)
                                      replace p18 := eq_true p18
                                      replace q18 := eq_true q18
                                      go_wp2_with (first | ((with_reducible refine gate_builtin (b := .append) (xs := #[.tmp 62, .tmp 64]) rfl ?_); at_builtin; refine Kd.R_append (Kd.int .u8) (w0 := w) w.heap.size rfl (.tmp 62) (.tmp 64) 74 5 (.int .u8 0) 1 rfl Try.underlying74 info5 rfl (by decide) (by omega) u8 x8_1 (bt a0 (ji15)) [.int .u8 (bt a0 (ji15))] (fun _ => True) (fun _ => False) rfl rfl ?aP (fun _ hk => hk.elim) ?aF ?aO ?aB ?aS ?aL ?_; (case aP => exact rfl); (case aB => exact (by repeat (first | (with_reducible first | exact HB.out | apply below_alloc | apply pw_below_drewN | apply below_drew1) | exact HB.out))); (case aF => exact (fun _ _ => trivial)); (case aO => exact (by (with_reducible repeat (first | apply Kd.R_alloc | apply Kd.R_drewN | apply Kd.R_drew)); exact HO_8.out)); (case aS => exact (below_size (by repeat (first | (with_reducible first | exact HB.out | apply below_alloc | apply pw_below_drewN | apply below_drew1) | exact HB.out)))); (case aL => have := LMc29.out; omega); intro v157 w30 ho hb hg hat; rw [← Ny156.out] at ho; have n0_ := Aside0.mk (hb); have n1_ := Aside0.mk (ho); clear HB; clear HO_8; have HB := n0_; have HO158 := n1_; clear n0_ n1_; clear ho hb hg hat))
                                      go_roundg kj9
                                      case measure => have := HK1.out; have := HJ9.out; omega
                                      case rel => exact ⟨(wrap64 ((ji15) + 1)), (y156), (by first | rfl | (simp; done) | (simp only [← hji15] <;> (first | rfl | simp)) | (simp [*]; done)), H', ⟨by have := HK1.out; have := HJ9.out; omega⟩, ⟨by (with_reducible repeat (first | apply Kd.R_alloc | apply Kd.R_drewN | apply Kd.R_drew)); exact HO158.out⟩, ⟨by repeat (first | (with_reducible first | exact HB.out | apply below_alloc | apply pw_below_drewN | apply below_drew1) | exact HB.out)⟩⟩
                                    · rw [if_neg c29] at H
                                      exact absurd H (by simp)
                                  · rw [if_neg c28] at H
                                    have c28b0 : ((bt a0 (ji15)) == 92) = false := beq_eq_false_iff_ne.mpr c28
                                    have c28b1 : ((bt a0 (ji15)) != 92) = true := bne_iff_ne.mpr c28
                                    simp only [Option.some.injEq, Prod.mk.injEq] at H
                                    obtain ⟨rfl, rfl, rfl⟩ := H
                                    have p18 : 0 ≤ ((ji15) : Int) := of_decide_eq_true (by first | (with_reducible assumption) | assumption)
                                    have q18 : (ji15) < (a0.size : Int) := of_decide_eq_true (by first | (with_reducible assumption) | assumption)
                                    have hx18 := bt_at a0 (ji15)
                                    replace p18 := eq_true p18
                                    replace q18 := eq_true q18
                                    go_wp2
                                    go_ret3
                                    exact ⟨by first | rfl | (simp [errW_none, errW_some] <;> rfl) | (simp only [← hji15]; first | rfl | (simp [errW_none, errW_some] <;> rfl)) | (simp [*, errW_none, errW_some] <;> rfl), by repeat (first | (with_reducible first | exact HB.out | apply below_alloc | apply pw_below_drewN | apply below_drew1) | exact HB.out)⟩
                          · rw [if_neg c17] at H
                            exact absurd H (by simp)
                        · rw [if_neg c16] at H
                          exact absurd H (by simp)
                    · rw [if_neg c13] at H
                      have c13b0 : ((bt a0 x1_1) == 92) = false := beq_eq_false_iff_ne.mpr c13
                      have c13b1 : ((bt a0 x1_1) != 92) = true := bne_iff_ne.mpr c13
                      by_cases c31 : x8_1.length < 140737488355328
                      · rw [if_pos c31] at H
                        have LMc31 := Aside0.mk c31
                        clear c31
                        obtain ⟨y159, hy159⟩ : ∃ y_ : List Int, y_ = (x8_1 ++ [(bt a0 x1_1)]) := ⟨_, rfl⟩
                        replace H : (depotref21_str.l0 kj9 a0 (wrap64 (x1_1 + 1)) y159) = some (r1, r2, r3) := by first | (rw [hy159]; with_reducible exact H) | (have H2_ := (Option.bind_some _ _).symm.trans H; rw [hy159]; with_reducible exact H2_) | (have H2_ := (Option.bind_some _ _).symm.trans H; with_reducible exact H2_) | with_reducible exact H | (rw [hy159]; exact H) | exact H
                        have Ny159 := Aside0.mk hy159
                        clear hy159
                        have H' := Aside0.mk H
                        clear H
                        go_wp2_with (first | ((with_reducible refine gate_builtin (b := .append) (xs := #[.tmp 62, .tmp 64]) rfl ?_); at_builtin; refine Kd.R_append (Kd.int .u8) (w0 := w) w.heap.size rfl (.tmp 62) (.tmp 64) 74 5 (.int .u8 0) 1 rfl Try.underlying74 info5 rfl (by decide) (by omega) u8 x8_1 (bt a0 x1_1) [.int .u8 (bt a0 x1_1)] (fun _ => True) (fun _ => False) rfl rfl ?aP (fun _ hk => hk.elim) ?aF ?aO ?aB ?aS ?aL ?_; (case aP => exact rfl); (case aB => exact (by repeat (first | (with_reducible first | exact HB.out | apply below_alloc | apply pw_below_drewN | apply below_drew1) | exact HB.out))); (case aF => exact (fun _ _ => trivial)); (case aO => exact (by (with_reducible repeat (first | apply Kd.R_alloc | apply Kd.R_drewN | apply Kd.R_drew)); exact HO_8.out)); (case aS => exact (below_size (by repeat (first | (with_reducible first | exact HB.out | apply below_alloc | apply pw_below_drewN | apply below_drew1) | exact HB.out)))); (case aL => have := LMc31.out; omega); intro v160 w32 ho hb hg hat; rw [← Ny159.out] at ho; have n0_ := Aside0.mk (hb); have n1_ := Aside0.mk (ho); clear HB; clear HO_8; have HB := n0_; have HO161 := n1_; clear n0_ n1_; clear ho hb hg hat))
                        go_roundg kj9
                        case measure => have := HK1.out; have := HJ9.out; omega
                        case rel => exact ⟨(wrap64 (x1_1 + 1)), (y159), (by first | rfl | (simp; done) | (simp [*]; done)), H', ⟨by have := HK1.out; have := HJ9.out; omega⟩, ⟨by (with_reducible repeat (first | apply Kd.R_alloc | apply Kd.R_drewN | apply Kd.R_drew)); exact HO161.out⟩, ⟨by repeat (first | (with_reducible first | exact HB.out | apply below_alloc | apply pw_below_drewN | apply below_drew1) | exact HB.out)⟩⟩
                      · rw [if_neg c31] at H
                        exact absurd H (by simp)
          · rw [if_neg c6] at H
            exact absurd H (by simp)
        · rw [if_neg c5] at H
          have c5b0 : decide (x1_1 < (a0.size : Int)) = false := decide_eq_false c5
          clear c5
          simp only [Option.some.injEq, Prod.mk.injEq] at H
          obtain ⟨rfl, rfl, rfl⟩ := H
          go_wp2
          go_ret3
          exact ⟨by first | rfl | (simp [errW_none, errW_some] <;> rfl) | (simp [*, errW_none, errW_some] <;> rfl), by repeat (first | (with_reducible first | exact HB.out | apply below_alloc | apply pw_below_drewN | apply below_drew1) | exact HB.out)⟩
  · replace c4 := Bool.eq_false_iff.mpr c4
    subst c4
    have H1 : (some ((⟨#[]⟩ : ByteArray), t145, false)) = some (r1, r2, r3) := by rw [if_neg (show ¬ (false = true) by decide)] at H; exact H
    clear H
    have H := H1
    clear H1
    simp only [Option.some.injEq, Prod.mk.injEq] at H
    obtain ⟨rfl, rfl, rfl⟩ := H
    go_enter Try.func24, Try.ntmps24
    go_wp2_with (first | ((with_reducible refine gate_callee (f := 23) rfl ?_); refine goesL_ (some 13) rfl rfl Try.func23 (by kernel_rfl) rfl #[.string a0, .int .i64 a1, .string (⟨#[34]⟩ : ByteArray)] rfl (by (try simp only [List.map_toArray, List.map_cons, List.map_nil]); first | done | rfl | (simp only [List.length_drop, List.length_take]; rfl)) ?_; (with_reducible refine (depotref21_word.calls k a0 a1 (⟨#[34]⟩ : ByteArray) t145 false _ A3.out).mono ?_); rintro e w' ⟨rfl, ⟨nd, rfl⟩⟩; refine ⟨_, rfl, ?_⟩))
    go_ret3
    exact ⟨by first | rfl | (simp [errW_none, errW_some] <;> rfl) | (simp [*, errW_none, errW_some] <;> rfl), by repeat (first | (with_reducible first | exact HB.out | apply below_alloc | apply pw_below_drewN | apply below_drew1) | exact HB.out)⟩

end Go.Proofs.Ytdkkgeibifpgiaa.Q
/- The recipe's reference: its str is the reader's. -/
namespace Go.Proofs.Ytdkkgeibifpgiaa.Rc
open Go.RowKit Go.Proofs.YtdkkgeibifpgiaaW.PrintWords Go.Proofs.Ytdkkgeibifpgiaa.Bytes Go.Proofs.Ytdkkgeibifpgiaa.Q
set_option linter.unusedVariables false
set_option linter.unusedSimpArgs false

def nts (l : List UInt8) : List Int := l.map fun b => (b.toNat : Int)
theorem strOf_nts (l : List UInt8) : strOfNums (nts l) = (⟨l.toArray⟩ : ByteArray) := by
  simp [strOfNums, nts, Function.comp_def]
def toRefS (n : Nat) (acc : List UInt8) (r : Res (List UInt8)) : ByteArray × Int × Bool := match r with | .ok l s => ((⟨(acc ++ l).toArray⟩ : ByteArray), ((n - s.length : Nat) : Int), true) | .bad l => ((⟨#[]⟩ : ByteArray), ((n - l : Nat) : Int), false)
theorem toRefS_map (n : Nat) (acc : List UInt8) (c : UInt8) (r : Res (List UInt8)) : toRefS n acc (r.map (c :: ·)) = toRefS n (acc ++ [c]) r := by
  cases r with
  | ok l s => simp [toRefS, Res.map]
  | bad l => rfl
theorem bt_at (T : ByteArray) (p : Nat) (h : p < T.size) : bt T (p : Int) = ((T[p]'h).toNat : Int) := by
  unfold bt
  simp [h]
theorem nts_snoc (l : List UInt8) (c : UInt8) : nts l ++ [(c.toNat : Int)] = nts (l ++ [c]) := by simp [nts]
theorem byte_is (x : UInt8) (n : Nat) (m : Int) (hm : m = (n : Int)) (hn : n < 256) : ((x.toNat : Int) = m) ↔ x = UInt8.ofNat n := by
  subst hm
  constructor
  · intro h
    apply UInt8.toNat_inj.1
    rw [UInt8.toNat_ofNat_of_lt' (by simpa using hn)]
    omega
  · rintro rfl
    rw [UInt8.toNat_ofNat_of_lt' (by simpa using hn)]
theorem str_law (T : ByteArray) (hT : T.size < 1099511627776) : ∀ (k p : Nat) (acc : List UInt8), p ≤ T.size → acc.length ≤ p → 2 * (T.size - p) + 1 ≤ k →
    depotref21_str.l0 k T (p : Int) (nts acc) = some (toRefS T.size acc (strBody ((bs T).drop p)))
  | 0, p, acc, hp, ha, hk => by omega
  | k + 1, p, acc, hp, ha, hk => by
    have hla : (nts acc).length < 140737488355328 := by simp only [nts, List.length_map]; omega
    rw [depotref21_str.l0]
    by_cases h2 : p < T.size
    · have hd1 : ((bs T).drop (p + 1)).length = T.size - (p + 1) := by rw [List.length_drop, ← size_bs]
      rw [if_pos (by omega), if_pos (by omega), drop_cons T p h2, bt_at T p h2, strBody_cons]
      generalize (T[p]'h2) = x
      by_cases e34 : x = 34
      · rw [if_pos (by rw [e34]; rfl), if_pos e34, wrap_up p (by omega), strOf_nts]
        simp only [toRefS, hd1, List.append_nil]
        congr 3
        omega
      · rw [if_neg (fun e => e34 ((byte_is x 34 34 rfl (by decide)).1 e)), if_neg e34]
        obtain ⟨k', rfl⟩ : ∃ k', k = k' + 1 := ⟨k - 1, by omega⟩
        by_cases e10 : x = 10 ∨ x = 9
        · rw [if_pos e10]
          have hb : (toRefS T.size acc (Res.bad (((bs T).drop (p + 1)).length + 1))) = ((⟨#[]⟩ : ByteArray), ((p : Nat) : Int), false) := by
            simp only [toRefS, hd1]
            congr 2
            omega
          rw [hb]
          rcases e10 with rfl | rfl
          · rw [if_pos (by rfl), depotref21_str.j1, if_pos rfl]
          · rw [if_neg (by decide), depotref21_str.j1, if_pos (by decide)]
        · rw [if_neg e10]
          have e10a : ¬ x = 10 := fun e => e10 (.inl e)
          have e9 : ¬ x = 9 := fun e => e10 (.inr e)
          rw [if_neg (fun e => e10a ((byte_is x 10 10 rfl (by decide)).1 e)), depotref21_str.j1, if_neg (by
            intro e
            exact e9 ((byte_is x 9 9 rfl (by decide)).1 (by simpa using e)))]
          by_cases e92 : x = 92
          · rw [if_pos (by rw [e92]; rfl), if_pos e92, wrap_up p (by omega)]
            by_cases h3 : p + 1 < T.size
            · have hd2 : ((bs T).drop (p + 1 + 1)).length = T.size - (p + 1 + 1) := by rw [List.length_drop, ← size_bs]
              rw [if_neg (by omega), if_pos (by omega), if_pos (by omega), drop_cons T (p + 1) h3, bt_at T (p + 1) h3, wrap_up (p + 1) (by omega)]
              generalize (T[p + 1]'h3) = y
              have go : ∀ c : UInt8, depotref21_str.l0 k' T ((p + 1 + 1 : Nat) : Int) (nts acc ++ [(c.toNat : Int)]) = some (toRefS T.size acc ((strBody ((bs T).drop (p + 1 + 1))).map (c :: ·))) := fun c => by
                rw [nts_snoc, toRefS_map]
                exact str_law T hT k' (p + 1 + 1) (acc ++ [c]) (by omega) (by simp; omega) (by omega)
              have g10 := go 10
              have g9 := go 9
              by_cases y110 : y = 110
              · rw [if_pos (by rw [y110]; rfl), if_pos hla, y110]
                exact g10
              · rw [if_neg (fun e => y110 ((byte_is y 110 110 rfl (by decide)).1 e))]
                by_cases y116 : y = 116
                · rw [if_pos (by rw [y116]; rfl), if_pos hla, y116]
                  exact g9
                · rw [if_neg (fun e => y116 ((byte_is y 116 116 rfl (by decide)).1 e))]
                  by_cases y34 : y = 34
                  · rw [if_pos (by rw [y34]; rfl), if_pos hla, y34]
                    exact go 34
                  · rw [if_neg (fun e => y34 ((byte_is y 34 34 rfl (by decide)).1 e))]
                    by_cases y92 : y = 92
                    · rw [if_pos (by rw [y92]; rfl), if_pos hla, y92]
                      exact go 92
                    · rw [if_neg (fun e => y92 ((byte_is y 92 92 rfl (by decide)).1 e))]
                      have hy : esc y = none := by simp [esc, y110, y116, y34, y92]
                      simp only [hy, toRefS, hd2]
                      congr 3
                      omega
            · rw [if_pos (by omega), List.drop_of_length_le (l := bs T) (i := p + 1) (by rw [← size_bs]; omega)]
              simp only [toRefS]
              congr 3
              omega
          · rw [if_neg (fun e => e92 ((byte_is x 92 92 rfl (by decide)).1 e)), if_neg e92, if_pos hla, wrap_up p (by omega), nts_snoc, toRefS_map]
            exact str_law T hT k' (p + 1) (acc ++ [x]) (by omega) (by simp; omega) (by omega)
    · obtain rfl : p = T.size := by omega
      rw [if_neg (by omega), List.drop_of_length_le (l := bs T) (by rw [← size_bs]; exact Nat.le_refl _)]
      rfl
end Go.Proofs.Ytdkkgeibifpgiaa.Rc
/- The recipe's reference: word and str as functions. -/
namespace Go.Proofs.Ytdkkgeibifpgiaa.Rc
open Go.RowKit Go.Proofs.YtdkkgeibifpgiaaW.PrintWords Go.Proofs.Ytdkkgeibifpgiaa.Bytes Go.Proofs.Ytdkkgeibifpgiaa.Q
set_option linter.unusedVariables false
set_option linter.unusedSimpArgs false

theorem word_f (T word : ByteArray) (hT : T.size < 1099511627776) (hw : word.size ≤ 1000) (k p : Nat) (hp : p ≤ T.size) (hk : word.size < k) :
    depotref21_word.f k T (p : Int) word = some (toRef T.size (wordL (bs word) ((bs T).drop p))) := by
  have := word_law T word hT hw k 0 p (Nat.zero_le _) hp (by omega)
  exact this
/-- What is left behind a word is the text from a place on. -/
theorem word_rest (T : ByteArray) (p : Nat) (hp : p ≤ T.size) (l : List UInt8) (u : Unit) (r : List UInt8) (h : wordL l ((bs T).drop p) = .ok u r) : r = (bs T).drop (p + l.length) ∧ p + l.length ≤ T.size ∧ T.size - r.length = p + l.length := by
  have e := wordL_len _ _ _ h
  have hl : ((bs T).drop p).length = T.size - p := by rw [List.length_drop, ← size_bs]
  have hr : r = (bs T).drop (p + l.length) := by
    rw [← List.drop_drop, e, List.drop_left]
  rw [e, List.length_append] at hl
  exact ⟨hr, by omega, by omega⟩
theorem str_f (T : ByteArray) (hT : T.size < 1099511627776) (k p : Nat) (hp : p ≤ T.size) (hk : 2 * (T.size - p) + 3 ≤ k) :
    depotref21_str.f k T (p : Int) = some (toRefS T.size [] (strL ((bs T).drop p))) := by
  have e1 : bs (⟨#[34]⟩ : ByteArray) = [34] := rfl
  unfold depotref21_str.f strL
  rw [word_f T (⟨#[34]⟩ : ByteArray) hT (by decide) k p hp (by show 1 < k; omega), e1, Option.bind_some]
  cases hw : wordL [34] ((bs T).drop p) with
  | bad l =>
    rw [if_neg (by simp [toRef])]
    rfl
  | ok u r =>
    obtain ⟨hr, h1, h2⟩ := word_rest T p hp [34] u r hw
    simp only [List.length_singleton] at hr h1 h2
    rw [if_pos (show (toRef T.size (Res.ok u r)).2 = true from rfl)]
    show depotref21_str.l0 k T ((T.size - r.length : Nat) : Int) [] = some (toRefS T.size [] (strBody r))
    rw [h2, hr]
    exact str_law T hT k (p + 1) [] h1 (Nat.zero_le _) (by omega)
end Go.Proofs.Ytdkkgeibifpgiaa.Rc
/- By a program of this session's: a plain Lean function for a Go function, and its contract. -/
namespace Go.Proofs.Ytdkkgeibifpgiaa.Q
open Go.RowKit Go.Proofs.YtdkkgeibifpgiaaW.PrintWords Go.Proofs.YtdkkgeibifpgiaaW.PrintLast Go.Proofs.YtdkkgeibifpgiaaW.PrintMore
attribute [local go_sem] max2_int min2_int max_two min_two max_three min_three max_four min_four Go.Proofs.Ytdkkgeibifpgiaa.Ord.str_leq Go.Proofs.Ytdkkgeibifpgiaa.Ord.str_gtr Go.Proofs.Ytdkkgeibifpgiaa.Ord.str_geq   -- for this text's walks alone
set_option linter.unusedVariables false
set_option linter.unusedSimpArgs false

/-! ### depotref21_strs: function 25 -/
mutual
def depotref21_strs.j0 : Nat → ByteArray → Int → ByteArray → List ByteArray → Int → Bool → Option (List ByteArray × Int × Bool)
  | 0, _, _, _, _, _, _ => none
  | k + 1, x0, x1, x2, x11, x12, x29 => if x29 = true then (some (([] : List ByteArray), x12, true)) else (depotref21_strs.l0 k x0 x1 x2 x11)
def depotref21_strs.l0 : Nat → ByteArray → Int → ByteArray → List ByteArray → Option (List ByteArray × Int × Bool)
  | 0, _, _, _, _ => none
  | k + 1, x0, x1, x2, x11 => (depotref21_str.f k x0 x1).bind fun bt164 => (if bt164.2.2 = true then (if x11.length < 8796093022208 then ((some (x11 ++ [bt164.1] : List ByteArray)).bind fun y167 => ((depotref21_word.f k x0 bt164.2.1 x2).bind fun bt170 => (if bt170.2 = true then (some (y167, bt170.1, true)) else ((depotref21_word.f k x0 bt164.2.1 (⟨#[44]⟩ : ByteArray)).bind fun bt172 => (if bt172.2 = true then (depotref21_strs.l0 k x0 bt172.1 x2 y167) else (some (([] : List ByteArray), bt172.1, false))))))) else (none)) else (some (([] : List ByteArray), bt164.2.1, false)))
end
def depotref21_strs.f (k : Nat) (a0 : ByteArray) (a1 : Int) (a2 : ByteArray) (a3 : Bool) : Option (List ByteArray × Int × Bool) := (depotref21_word.f k a0 a1 a2).bind fun bt162 => (if bt162.2 = true then (depotref21_strs.j0 k a0 a1 a2 ([] : List ByteArray) bt162.1 a3) else (depotref21_strs.j0 k a0 a1 a2 ([] : List ByteArray) bt162.1 false))
theorem depotref21_strs.mono_l : ∀ k, (∀ y0 y1 y2 y3 y4 y5, LeO (depotref21_strs.j0 k y0 y1 y2 y3 y4 y5) (depotref21_strs.j0 (k + 1) y0 y1 y2 y3 y4 y5)) ∧ (∀ y0 y1 y2 y3, LeO (depotref21_strs.l0 k y0 y1 y2 y3) (depotref21_strs.l0 (k + 1) y0 y1 y2 y3))
  | 0 => ⟨fun _ _ _ _ _ _ r h => by simp [depotref21_strs.j0] at h, fun _ _ _ _ r h => by simp [depotref21_strs.l0] at h⟩
  | k + 1 => by
    obtain ⟨ih0, ih1⟩ := depotref21_strs.mono_l k
    refine ⟨?_, ?_⟩
    · intro y0 y1 y2 y3 y4 y5
      unfold depotref21_strs.j0
      repeat' first
      | (with_reducible exact ih0 _ _ _ _ _ _)
      | (with_reducible exact ih1 _ _ _ _)
      | (with_reducible exact depotref21_str.mono _ _ _)
      | (with_reducible exact depotref21_word.mono _ _ _ _)
      | (with_reducible exact LeO.refl _)
      | (with_reducible exact LeO.none _)
      | (with_reducible refine LeO.ite ?_ ?_)
      | (with_reducible refine LeO.bind ?_ (fun _ => ?_))
      | exact ih0 _ _ _ _ _ _
      | exact ih1 _ _ _ _
      | exact depotref21_str.mono _ _ _
      | exact depotref21_word.mono _ _ _ _
      | exact LeO.none _
      | refine LeO.ite ?_ ?_
      | refine LeO.bind ?_ (fun _ => ?_)
    · intro y0 y1 y2 y3
      unfold depotref21_strs.l0
      repeat' first
      | (with_reducible exact ih0 _ _ _ _ _ _)
      | (with_reducible exact ih1 _ _ _ _)
      | (with_reducible exact depotref21_str.mono _ _ _)
      | (with_reducible exact depotref21_word.mono _ _ _ _)
      | (with_reducible exact LeO.refl _)
      | (with_reducible exact LeO.none _)
      | (with_reducible refine LeO.ite ?_ ?_)
      | (with_reducible refine LeO.bind ?_ (fun _ => ?_))
      | exact ih0 _ _ _ _ _ _
      | exact ih1 _ _ _ _
      | exact depotref21_str.mono _ _ _
      | exact depotref21_word.mono _ _ _ _
      | exact LeO.none _
      | refine LeO.ite ?_ ?_
      | refine LeO.bind ?_ (fun _ => ?_)
theorem depotref21_strs.mono : ∀ a0 a1 a2 a3 k, LeO (depotref21_strs.f k a0 a1 a2 a3) (depotref21_strs.f (k + 1) a0 a1 a2 a3) := by
  intro a0 a1 a2 a3 k
  obtain ⟨ih0, ih1⟩ := depotref21_strs.mono_l k
  unfold depotref21_strs.f
  repeat' first
      | (with_reducible exact ih0 _ _ _ _ _ _)
      | (with_reducible exact ih1 _ _ _ _)
      | (with_reducible exact depotref21_str.mono _ _ _)
      | (with_reducible exact depotref21_word.mono _ _ _ _)
      | (with_reducible exact LeO.refl _)
      | (with_reducible exact LeO.none _)
      | (with_reducible refine LeO.ite ?_ ?_)
      | (with_reducible refine LeO.bind ?_ (fun _ => ?_))
      | exact ih0 _ _ _ _ _ _
      | exact ih1 _ _ _ _
      | exact depotref21_str.mono _ _ _
      | exact depotref21_word.mono _ _ _ _
      | exact LeO.none _
      | refine LeO.ite ?_ ?_
      | refine LeO.bind ?_ (fun _ => ?_)
set_option maxHeartbeats 8000000 in
set_option maxRecDepth 100000 in
theorem depotref21_strs.calls (k : Nat) (a0 : ByteArray) (a1 : Int) (a2 : ByteArray) (a3 : Bool) (r1 : List ByteArray) (r2 : Int) (r3 : Bool) (w : World) (h : depotref21_strs.f k a0 a1 a2 a3 = some (r1, r2, r3)) :
    Calls Try.prog 25 #[.string a0, .int .i64 a1, .string a2, .bool a3] w fun e w' => ∃ v0_ : Value, e = .returned (.tuple #[v0_, .int .i64 r2, .bool r3]) ∧ Kd.R Kd.string 9 w' w.heap.size (fun _ => True) v0_ r1 ∧ Below w.heap.size w w' := by
  have HB := Aside0.mk (Below.refl w.heap.size w)
  have H : ((depotref21_word.f k a0 a1 a2).bind fun bt162 => (if bt162.2 = true then (depotref21_strs.j0 k a0 a1 a2 ([] : List ByteArray) bt162.1 a3) else (depotref21_strs.j0 k a0 a1 a2 ([] : List ByteArray) bt162.1 false))) = some (r1, r2, r3) := h
  clear h
  replace H := Option.bind_eq_some_iff.mp H
  obtain ⟨⟨t162, t163⟩, A50, H⟩ := H
  replace H : (if t163 = true then (depotref21_strs.j0 k a0 a1 a2 ([] : List ByteArray) t162 a3) else (depotref21_strs.j0 k a0 a1 a2 ([] : List ByteArray) t162 false)) = some (r1, r2, r3) := H
  have A5 := Aside0.mk A50
  clear A50
  have HC6 := Aside0.mk H
  clear H
  go_enter Try.func25, Try.ntmps25
  go_upto_region 3 with (first | ((with_reducible refine gate_callee (f := 23) rfl ?_); refine goesL_ (some 23) rfl rfl Try.func23 (by kernel_rfl) rfl #[.string a0, .int .i64 a1, .string a2] rfl (by (try simp only [List.map_toArray, List.map_cons, List.map_nil]); first | done | rfl | (simp only [List.length_drop, List.length_take]; rfl)) ?_; (with_reducible refine (depotref21_word.calls k a0 a1 a2 t162 t163 _ A5.out).mono ?_); rintro e w' ⟨rfl, ⟨nd, rfl⟩⟩; refine ⟨_, rfl, ?_⟩))
  (try simp only [Act.put, List.setIfInBounds_toArray, List.set_cons_zero, List.set_cons_succ])
  go_cut [29] (fun v29 wc => ∃ (kq : Nat) (x29_5 : Bool), v29 = .bool x29_5 ∧ Aside0 (depotref21_strs.j0 kq a0 a1 a2 ([] : List ByteArray) t162 x29_5 = some (r1, r2, r3)) ∧ Aside0 (kq ≤ k) ∧ Aside0 (Kd.R Kd.string 9 wc w.heap.size (fun _ => True) (.slice none 0 0) ([] : List ByteArray)) ∧ Aside0 (Below w.heap.size w wc))
  case first =>
    have H := HC6.out
    clear HC6
    by_cases c7 : t163 = true
    · subst c7
      have H1 : (depotref21_strs.j0 k a0 a1 a2 ([] : List ByteArray) t162 a3) = some (r1, r2, r3) := by rw [if_pos rfl] at H; exact H
      clear H
      have H := H1
      clear H1
      have H' := Aside0.mk H
      clear H
      go_wp2
      go_meet
      case rel => exact ⟨_, (a3), (by first | rfl | (simp; done) | (simp [*]; done)), H', ⟨by first | omega | exact Nat.le_refl _⟩, ⟨by first | exact Kd.R_nil _ _ _ _ _ | exact Kd.N_nil _ _ _ _ _ | exact Kd.V_nil _ _ _ _ _ | exact Kd.Q_nil _ _ _ _ _ | exact Kd.S_nil _ _ _ _ _⟩, ⟨by repeat (first | (with_reducible first | exact HB.out | apply below_alloc | apply pw_below_drewN | apply below_drew1) | exact HB.out)⟩⟩
    · replace c7 := Bool.eq_false_iff.mpr c7
      subst c7
      have H1 : (depotref21_strs.j0 k a0 a1 a2 ([] : List ByteArray) t162 false) = some (r1, r2, r3) := by rw [if_neg (show ¬ (false = true) by decide)] at H; exact H
      clear H
      have H := H1
      clear H1
      have H' := Aside0.mk H
      clear H
      go_wp2
      go_meet
      case rel => exact ⟨_, (false), (by first | rfl | (simp; done) | (simp [*]; done)), H', ⟨by first | omega | exact Nat.le_refl _⟩, ⟨by first | exact Kd.R_nil _ _ _ _ _ | exact Kd.N_nil _ _ _ _ _ | exact Kd.V_nil _ _ _ _ _ | exact Kd.Q_nil _ _ _ _ _ | exact Kd.S_nil _ _ _ _ _⟩, ⟨by repeat (first | (with_reducible first | exact HB.out | apply below_alloc | apply pw_below_drewN | apply below_drew1) | exact HB.out)⟩⟩
  case rest =>
    clear HC6
    try clear c2
    try clear p2
    try clear c7
    obtain ⟨kq, x29_5, rfl, HA, HJ5, HO_11, HB⟩ := hcut
    cases kq with
    | zero => exact absurd HA.out (by simp [depotref21_strs.j0])
    | succ kj5 =>
      have H := HA.out
      clear HA
      simp only [depotref21_strs.j0] at H
      by_cases c8 : x29_5 = true
      · subst c8
        have H1 : (some (([] : List ByteArray), t162, true)) = some (r1, r2, r3) := by rw [if_pos rfl] at H; exact H
        clear H
        have H := H1
        clear H1
        simp only [Option.some.injEq, Prod.mk.injEq] at H
        obtain ⟨rfl, rfl, rfl⟩ := H
        go_wp2
        go_ret3
        exact ⟨_, by first | rfl | (simp [errW_none, errW_some] <;> rfl) | (simp [*, errW_none, errW_some] <;> rfl), by first | exact Kd.R_nil _ _ _ _ _ | exact Kd.N_nil _ _ _ _ _ | exact Kd.V_nil _ _ _ _ _ | exact Kd.Q_nil _ _ _ _ _ | exact Kd.S_nil _ _ _ _ _, by repeat (first | (with_reducible first | exact HB.out | apply below_alloc | apply pw_below_drewN | apply below_drew1) | exact HB.out)⟩
      · replace c8 := Bool.eq_false_iff.mpr c8
        subst c8
        have H1 : (depotref21_strs.l0 kj5 a0 a1 a2 ([] : List ByteArray)) = some (r1, r2, r3) := by rw [if_neg (show ¬ (false = true) by decide)] at H; exact H
        clear H
        have H := H1
        clear H1
        have H' := Aside0.mk H
        clear H
        go_wp2
        go_loopg [1, 11] kj5 (fun kq v1 v11 w' => ∃ (x1_2 : Int) (x11_2 : List ByteArray), v1 = .int .i64 x1_2 ∧ Aside0 (depotref21_strs.l0 kq a0 x1_2 a2 x11_2 = some (r1, r2, r3)) ∧ Aside0 (kq ≤ kj5) ∧ Aside0 (Kd.R Kd.string 9 w' w.heap.size (fun _ => True) v11 x11_2) ∧ Aside0 (Below w.heap.size w w'))
        case atStart => exact ⟨(a1), (([] : List ByteArray)), (by first | rfl | (simp; done) | (simp [*]; done)), H', ⟨Nat.le_refl _⟩, ⟨by (with_reducible repeat (first | apply Kd.R_alloc | apply Kd.R_drewN | apply Kd.R_drew)); exact HO_11.out⟩, ⟨by repeat (first | (with_reducible first | exact HB.out | apply below_alloc | apply pw_below_drewN | apply below_drew1) | exact HB.out)⟩⟩
        case round =>
          clear H'
          try clear c2
          try clear p2
          try clear c7
          try clear c8
          try clear p2
          obtain ⟨x1_2, x11_2, rfl, HA, HK2, HO_11, HB⟩ := hrel
          cases gk with
          | zero => exact absurd HA.out (by simp [depotref21_strs.l0])
          | succ k2 =>
            have H := HA.out
            clear HA
            simp only [depotref21_strs.l0] at H
            replace H := Option.bind_eq_some_iff.mp H
            obtain ⟨⟨t164, t165, t166⟩, A90, H⟩ := H
            replace H : (if t166 = true then (if x11_2.length < 8796093022208 then ((some (x11_2 ++ [t164] : List ByteArray)).bind fun y167 => ((depotref21_word.f k2 a0 t165 a2).bind fun bt170 => (if bt170.2 = true then (some (y167, bt170.1, true)) else ((depotref21_word.f k2 a0 t165 (⟨#[44]⟩ : ByteArray)).bind fun bt172 => (if bt172.2 = true then (depotref21_strs.l0 k2 a0 bt172.1 a2 y167) else (some (([] : List ByteArray), bt172.1, false))))))) else (none)) else (some (([] : List ByteArray), t165, false))) = some (r1, r2, r3) := H
            have A9 := Aside0.mk A90
            clear A90
            by_cases c10 : t166 = true
            · subst c10
              have H1 : (if x11_2.length < 8796093022208 then ((some (x11_2 ++ [t164] : List ByteArray)).bind fun y167 => ((depotref21_word.f k2 a0 t165 a2).bind fun bt170 => (if bt170.2 = true then (some (y167, bt170.1, true)) else ((depotref21_word.f k2 a0 t165 (⟨#[44]⟩ : ByteArray)).bind fun bt172 => (if bt172.2 = true then (depotref21_strs.l0 k2 a0 bt172.1 a2 y167) else (some (([] : List ByteArray), bt172.1, false))))))) else (none)) = some (r1, r2, r3) := by rw [if_pos rfl] at H; exact H
              clear H
              have H := H1
              clear H1
              by_cases c11 : x11_2.length < 8796093022208
              · rw [if_pos c11] at H
                have LMc11 := Aside0.mk c11
                clear c11
                obtain ⟨y167, hy167⟩ : ∃ y_ : List ByteArray, y_ = (x11_2 ++ [t164]) := ⟨_, rfl⟩
                replace H : ((depotref21_word.f k2 a0 t165 a2).bind fun bt170 => (if bt170.2 = true then (some (y167, bt170.1, true)) else ((depotref21_word.f k2 a0 t165 (⟨#[44]⟩ : ByteArray)).bind fun bt172 => (if bt172.2 = true then (depotref21_strs.l0 k2 a0 bt172.1 a2 y167) else (some (([] : List ByteArray), bt172.1, false)))))) = some (r1, r2, r3) := by first | (rw [hy167]; with_reducible exact H) | (have H2_ := (Option.bind_some _ _).symm.trans H; rw [hy167]; with_reducible exact H2_) | (have H2_ := (Option.bind_some _ _).symm.trans H; with_reducible exact H2_) | with_reducible exact H | (rw [hy167]; exact H) | exact H
                have Ny167 := Aside0.mk hy167
                clear hy167
                replace H := Option.bind_eq_some_iff.mp H
                obtain ⟨⟨t170, t171⟩, A120, H⟩ := H
                replace H : (if t171 = true then (some (y167, t170, true)) else ((depotref21_word.f k2 a0 t165 (⟨#[44]⟩ : ByteArray)).bind fun bt172 => (if bt172.2 = true then (depotref21_strs.l0 k2 a0 bt172.1 a2 y167) else (some (([] : List ByteArray), bt172.1, false))))) = some (r1, r2, r3) := H
                have A12 := Aside0.mk A120
                clear A120
                by_cases c13 : t171 = true
                · subst c13
                  have H1 : (some (y167, t170, true)) = some (r1, r2, r3) := by rw [if_pos rfl] at H; exact H
                  clear H
                  have H := H1
                  clear H1
                  simp only [Option.some.injEq, Prod.mk.injEq] at H
                  obtain ⟨rfl, rfl, rfl⟩ := H
                  go_wp2_with (first | ((with_reducible refine gate_callee (f := 24) rfl ?_); refine goesL_ (some 34) rfl rfl Try.func24 (by kernel_rfl) rfl #[.string a0, .int .i64 x1_2] rfl (by (try simp only [List.map_toArray, List.map_cons, List.map_nil]); first | done | rfl | (simp only [List.length_drop, List.length_take]; rfl)) ?_; (with_reducible refine (depotref21_str.calls k2 a0 x1_2 t164 t165 true _ A9.out).mono ?_); rintro e w14 ⟨rfl, hb⟩; refine ⟨_, rfl, ?_⟩; have n0_ := Aside0.mk (Kd.R_below (by (with_reducible repeat (first | apply Kd.R_alloc | apply Kd.R_drewN | apply Kd.R_drew)); exact HO_11.out) hb); have n1_ := Aside0.mk (below_step (by repeat (first | (with_reducible first | exact HB.out | apply below_alloc | apply pw_below_drewN | apply below_drew1) | exact HB.out)) hb); clear HO_11; clear HB; have HO_11 := n0_; have HB := n1_; clear n0_ n1_; (try clear hb); (try clear hb2); (try clear hk); (try clear hi)) | ((with_reducible refine gate_builtin (b := .append) (xs := #[.tmp 41, .tmp 43]) rfl ?_); at_builtin; refine Kd.R_append Kd.string (w0 := w) w.heap.size rfl (.tmp 41) (.tmp 43) 23 9 (.string ⟨#[]⟩) 16 rfl Try.underlying23 info9 rfl (by decide) (by omega) u11 x11_2 t164 [.string t164] (fun _ => True) (fun _ => False) rfl rfl ?aP (fun _ hk => hk.elim) ?aF ?aO ?aB ?aS ?aL ?_; (case aP => exact rfl); (case aB => exact (by repeat (first | (with_reducible first | exact HB.out | apply below_alloc | apply pw_below_drewN | apply below_drew1) | exact HB.out))); (case aF => exact (fun _ _ => trivial)); (case aO => exact (by (with_reducible repeat (first | apply Kd.R_alloc | apply Kd.R_drewN | apply Kd.R_drew)); exact HO_11.out)); (case aS => exact (below_size (by repeat (first | (with_reducible first | exact HB.out | apply below_alloc | apply pw_below_drewN | apply below_drew1) | exact HB.out)))); (case aL => have := LMc11.out; omega); intro v168 w15 ho hb hg hat; rw [← Ny167.out] at ho; have n0_ := Aside0.mk (hb); have n1_ := Aside0.mk (ho); clear HB; clear HO_11; have HB := n0_; have HO169 := n1_; clear n0_ n1_; clear ho hb hg hat) | ((with_reducible refine gate_callee (f := 23) rfl ?_); refine goesL_ (some 50) rfl rfl Try.func23 (by kernel_rfl) rfl #[.string a0, .int .i64 t165, .string a2] rfl (by (try simp only [List.map_toArray, List.map_cons, List.map_nil]); first | done | rfl | (simp only [List.length_drop, List.length_take]; rfl)) ?_; (with_reducible refine (depotref21_word.calls k2 a0 t165 a2 t170 true _ A12.out).mono ?_); rintro e w' ⟨rfl, ⟨nd, rfl⟩⟩; refine ⟨_, rfl, ?_⟩))
                  go_ret3
                  exact ⟨_, by first | rfl | (simp [errW_none, errW_some] <;> rfl) | (simp [*, errW_none, errW_some] <;> rfl), by (with_reducible repeat (first | apply Kd.R_alloc | apply Kd.R_drewN | apply Kd.R_drew)); exact HO169.out, by repeat (first | (with_reducible first | exact HB.out | apply below_alloc | apply pw_below_drewN | apply below_drew1) | exact HB.out)⟩
                · replace c13 := Bool.eq_false_iff.mpr c13
                  subst c13
                  have H1 : ((depotref21_word.f k2 a0 t165 (⟨#[44]⟩ : ByteArray)).bind fun bt172 => (if bt172.2 = true then (depotref21_strs.l0 k2 a0 bt172.1 a2 y167) else (some (([] : List ByteArray), bt172.1, false)))) = some (r1, r2, r3) := by rw [if_neg (show ¬ (false = true) by decide)] at H; exact H
                  clear H
                  have H := H1
                  clear H1
                  replace H := Option.bind_eq_some_iff.mp H
                  obtain ⟨⟨t172, t173⟩, A160, H⟩ := H
                  replace H : (if t173 = true then (depotref21_strs.l0 k2 a0 t172 a2 y167) else (some (([] : List ByteArray), t172, false))) = some (r1, r2, r3) := H
                  have A16 := Aside0.mk A160
                  clear A160
                  by_cases c17 : t173 = true
                  · subst c17
                    have H1 : (depotref21_strs.l0 k2 a0 t172 a2 y167) = some (r1, r2, r3) := by rw [if_pos rfl] at H; exact H
                    clear H
                    have H := H1
                    clear H1
                    have H' := Aside0.mk H
                    clear H
                    go_wp2_with (first | ((with_reducible refine gate_callee (f := 24) rfl ?_); refine goesL_ (some 34) rfl rfl Try.func24 (by kernel_rfl) rfl #[.string a0, .int .i64 x1_2] rfl (by (try simp only [List.map_toArray, List.map_cons, List.map_nil]); first | done | rfl | (simp only [List.length_drop, List.length_take]; rfl)) ?_; (with_reducible refine (depotref21_str.calls k2 a0 x1_2 t164 t165 true _ A9.out).mono ?_); rintro e w18 ⟨rfl, hb⟩; refine ⟨_, rfl, ?_⟩; have n0_ := Aside0.mk (Kd.R_below (by (with_reducible repeat (first | apply Kd.R_alloc | apply Kd.R_drewN | apply Kd.R_drew)); exact HO_11.out) hb); have n1_ := Aside0.mk (below_step (by repeat (first | (with_reducible first | exact HB.out | apply below_alloc | apply pw_below_drewN | apply below_drew1) | exact HB.out)) hb); clear HO_11; clear HB; have HO_11 := n0_; have HB := n1_; clear n0_ n1_; (try clear hb); (try clear hb2); (try clear hk); (try clear hi)) | ((with_reducible refine gate_builtin (b := .append) (xs := #[.tmp 41, .tmp 43]) rfl ?_); at_builtin; refine Kd.R_append Kd.string (w0 := w) w.heap.size rfl (.tmp 41) (.tmp 43) 23 9 (.string ⟨#[]⟩) 16 rfl Try.underlying23 info9 rfl (by decide) (by omega) u11 x11_2 t164 [.string t164] (fun _ => True) (fun _ => False) rfl rfl ?aP (fun _ hk => hk.elim) ?aF ?aO ?aB ?aS ?aL ?_; (case aP => exact rfl); (case aB => exact (by repeat (first | (with_reducible first | exact HB.out | apply below_alloc | apply pw_below_drewN | apply below_drew1) | exact HB.out))); (case aF => exact (fun _ _ => trivial)); (case aO => exact (by (with_reducible repeat (first | apply Kd.R_alloc | apply Kd.R_drewN | apply Kd.R_drew)); exact HO_11.out)); (case aS => exact (below_size (by repeat (first | (with_reducible first | exact HB.out | apply below_alloc | apply pw_below_drewN | apply below_drew1) | exact HB.out)))); (case aL => have := LMc11.out; omega); intro v168 w19 ho hb hg hat; rw [← Ny167.out] at ho; have n0_ := Aside0.mk (hb); have n1_ := Aside0.mk (ho); clear HB; clear HO_11; have HB := n0_; have HO169 := n1_; clear n0_ n1_; clear ho hb hg hat) | ((with_reducible refine gate_callee (f := 23) rfl ?_); refine goesL_ (some 50) rfl rfl Try.func23 (by kernel_rfl) rfl #[.string a0, .int .i64 t165, .string a2] rfl (by (try simp only [List.map_toArray, List.map_cons, List.map_nil]); first | done | rfl | (simp only [List.length_drop, List.length_take]; rfl)) ?_; (with_reducible refine (depotref21_word.calls k2 a0 t165 a2 t170 false _ A12.out).mono ?_); rintro e w' ⟨rfl, ⟨nd, rfl⟩⟩; refine ⟨_, rfl, ?_⟩) | ((with_reducible refine gate_callee (f := 23) rfl ?_); refine goesL_ (some 59) rfl rfl Try.func23 (by kernel_rfl) rfl #[.string a0, .int .i64 t165, .string (⟨#[44]⟩ : ByteArray)] rfl (by (try simp only [List.map_toArray, List.map_cons, List.map_nil]); first | done | rfl | (simp only [List.length_drop, List.length_take]; rfl)) ?_; (with_reducible refine (depotref21_word.calls k2 a0 t165 (⟨#[44]⟩ : ByteArray) t172 true _ A16.out).mono ?_); rintro e w' ⟨rfl, ⟨nd, rfl⟩⟩; refine ⟨_, rfl, ?_⟩))
                    go_roundg k2
                    case measure => have := HJ5.out; have := HK2.out; omega
                    case rel => exact ⟨(t172), (y167), (by first | rfl | (simp; done) | (simp [*]; done)), H', ⟨by have := HJ5.out; have := HK2.out; omega⟩, ⟨by (with_reducible repeat (first | apply Kd.R_alloc | apply Kd.R_drewN | apply Kd.R_drew)); exact HO169.out⟩, ⟨by repeat (first | (with_reducible first | exact HB.out | apply below_alloc | apply pw_below_drewN | apply below_drew1) | exact HB.out)⟩⟩
                  · replace c17 := Bool.eq_false_iff.mpr c17
                    subst c17
                    have H1 : (some (([] : List ByteArray), t172, false)) = some (r1, r2, r3) := by rw [if_neg (show ¬ (false = true) by decide)] at H; exact H
                    clear H
                    have H := H1
                    clear H1
                    simp only [Option.some.injEq, Prod.mk.injEq] at H
                    obtain ⟨rfl, rfl, rfl⟩ := H
                    go_wp2_with (first | ((with_reducible refine gate_callee (f := 24) rfl ?_); refine goesL_ (some 34) rfl rfl Try.func24 (by kernel_rfl) rfl #[.string a0, .int .i64 x1_2] rfl (by (try simp only [List.map_toArray, List.map_cons, List.map_nil]); first | done | rfl | (simp only [List.length_drop, List.length_take]; rfl)) ?_; (with_reducible refine (depotref21_str.calls k2 a0 x1_2 t164 t165 true _ A9.out).mono ?_); rintro e w20 ⟨rfl, hb⟩; refine ⟨_, rfl, ?_⟩; have n0_ := Aside0.mk (Kd.R_below (by (with_reducible repeat (first | apply Kd.R_alloc | apply Kd.R_drewN | apply Kd.R_drew)); exact HO_11.out) hb); have n1_ := Aside0.mk (below_step (by repeat (first | (with_reducible first | exact HB.out | apply below_alloc | apply pw_below_drewN | apply below_drew1) | exact HB.out)) hb); clear HO_11; clear HB; have HO_11 := n0_; have HB := n1_; clear n0_ n1_; (try clear hb); (try clear hb2); (try clear hk); (try clear hi)) | ((with_reducible refine gate_builtin (b := .append) (xs := #[.tmp 41, .tmp 43]) rfl ?_); at_builtin; refine Kd.R_append Kd.string (w0 := w) w.heap.size rfl (.tmp 41) (.tmp 43) 23 9 (.string ⟨#[]⟩) 16 rfl Try.underlying23 info9 rfl (by decide) (by omega) u11 x11_2 t164 [.string t164] (fun _ => True) (fun _ => False) rfl rfl ?aP (fun _ hk => hk.elim) ?aF ?aO ?aB ?aS ?aL ?_; (case aP => exact rfl); (case aB => exact (by repeat (first | (with_reducible first | exact HB.out | apply below_alloc | apply pw_below_drewN | apply below_drew1) | exact HB.out))); (case aF => exact (fun _ _ => trivial)); (case aO => exact (by (with_reducible repeat (first | apply Kd.R_alloc | apply Kd.R_drewN | apply Kd.R_drew)); exact HO_11.out)); (case aS => exact (below_size (by repeat (first | (with_reducible first | exact HB.out | apply below_alloc | apply pw_below_drewN | apply below_drew1) | exact HB.out)))); (case aL => have := LMc11.out; omega); intro v168 w21 ho hb hg hat; rw [← Ny167.out] at ho; have n0_ := Aside0.mk (hb); have n1_ := Aside0.mk (ho); clear HB; clear HO_11; have HB := n0_; have HO169 := n1_; clear n0_ n1_; clear ho hb hg hat) | ((with_reducible refine gate_callee (f := 23) rfl ?_); refine goesL_ (some 50) rfl rfl Try.func23 (by kernel_rfl) rfl #[.string a0, .int .i64 t165, .string a2] rfl (by (try simp only [List.map_toArray, List.map_cons, List.map_nil]); first | done | rfl | (simp only [List.length_drop, List.length_take]; rfl)) ?_; (with_reducible refine (depotref21_word.calls k2 a0 t165 a2 t170 false _ A12.out).mono ?_); rintro e w' ⟨rfl, ⟨nd, rfl⟩⟩; refine ⟨_, rfl, ?_⟩) | ((with_reducible refine gate_callee (f := 23) rfl ?_); refine goesL_ (some 59) rfl rfl Try.func23 (by kernel_rfl) rfl #[.string a0, .int .i64 t165, .string (⟨#[44]⟩ : ByteArray)] rfl (by (try simp only [List.map_toArray, List.map_cons, List.map_nil]); first | done | rfl | (simp only [List.length_drop, List.length_take]; rfl)) ?_; (with_reducible refine (depotref21_word.calls k2 a0 t165 (⟨#[44]⟩ : ByteArray) t172 false _ A16.out).mono ?_); rintro e w' ⟨rfl, ⟨nd, rfl⟩⟩; refine ⟨_, rfl, ?_⟩))
                    go_ret3
                    exact ⟨_, by first | rfl | (simp [errW_none, errW_some] <;> rfl) | (simp [*, errW_none, errW_some] <;> rfl), by first | exact Kd.R_nil _ _ _ _ _ | exact Kd.N_nil _ _ _ _ _ | exact Kd.V_nil _ _ _ _ _ | exact Kd.Q_nil _ _ _ _ _ | exact Kd.S_nil _ _ _ _ _, by repeat (first | (with_reducible first | exact HB.out | apply below_alloc | apply pw_below_drewN | apply below_drew1) | exact HB.out)⟩
              · rw [if_neg c11] at H
                exact absurd H (by simp)
            · replace c10 := Bool.eq_false_iff.mpr c10
              subst c10
              have H1 : (some (([] : List ByteArray), t165, false)) = some (r1, r2, r3) := by rw [if_neg (show ¬ (false = true) by decide)] at H; exact H
              clear H
              have H := H1
              clear H1
              simp only [Option.some.injEq, Prod.mk.injEq] at H
              obtain ⟨rfl, rfl, rfl⟩ := H
              go_wp2_with (first | ((with_reducible refine gate_callee (f := 24) rfl ?_); refine goesL_ (some 34) rfl rfl Try.func24 (by kernel_rfl) rfl #[.string a0, .int .i64 x1_2] rfl (by (try simp only [List.map_toArray, List.map_cons, List.map_nil]); first | done | rfl | (simp only [List.length_drop, List.length_take]; rfl)) ?_; (with_reducible refine (depotref21_str.calls k2 a0 x1_2 t164 t165 false _ A9.out).mono ?_); rintro e w22 ⟨rfl, hb⟩; refine ⟨_, rfl, ?_⟩; have n0_ := Aside0.mk (Kd.R_below (by (with_reducible repeat (first | apply Kd.R_alloc | apply Kd.R_drewN | apply Kd.R_drew)); exact HO_11.out) hb); have n1_ := Aside0.mk (below_step (by repeat (first | (with_reducible first | exact HB.out | apply below_alloc | apply pw_below_drewN | apply below_drew1) | exact HB.out)) hb); clear HO_11; clear HB; have HO_11 := n0_; have HB := n1_; clear n0_ n1_; (try clear hb); (try clear hb2); (try clear hk); (try clear hi)))
              go_ret3
              exact ⟨_, by first | rfl | (simp [errW_none, errW_some] <;> rfl) | (simp [*, errW_none, errW_some] <;> rfl), by first | exact Kd.R_nil _ _ _ _ _ | exact Kd.N_nil _ _ _ _ _ | exact Kd.V_nil _ _ _ _ _ | exact Kd.Q_nil _ _ _ _ _ | exact Kd.S_nil _ _ _ _ _, by repeat (first | (with_reducible first | exact HB.out | apply below_alloc | apply pw_below_drewN | apply below_drew1) | exact HB.out)⟩

end Go.Proofs.Ytdkkgeibifpgiaa.Q
/- The recipe's reference: strs. -/
namespace Go.Proofs.Ytdkkgeibifpgiaa.Rc
open Go.RowKit Go.Proofs.YtdkkgeibifpgiaaW.PrintWords Go.Proofs.Ytdkkgeibifpgiaa.Bytes Go.Proofs.Ytdkkgeibifpgiaa.Q
set_option linter.unusedVariables false
set_option linter.unusedSimpArgs false

def toRefL {α : Type} (n : Nat) (acc : List α) (r : Res (List α)) : List α × Int × Bool := match r with | .ok xs s => (acc ++ xs, ((n - s.length : Nat) : Int), true) | .bad l => ([], ((n - l : Nat) : Int), false)
theorem toRefL_map {α : Type} (n : Nat) (acc : List α) (c : α) (r : Res (List α)) : toRefL n acc (r.map (c :: ·)) = toRefL n (acc ++ [c]) r := by
  cases r with
  | ok l s => simp [toRefL, Res.map]
  | bad l => rfl
theorem one_word (e : UInt8) (s : List UInt8) : (s.head? = some e → wordL [e] s = .ok () (s.drop 1)) ∧ (¬ s.head? = some e → wordL [e] s = .bad s.length) := by
  cases s with
  | nil => exact ⟨fun h => (by cases h), fun _ => rfl⟩
  | cons x s =>
    refine ⟨fun h => ?_, fun h => ?_⟩
    · obtain rfl : x = e := by simpa using h
      simp [wordL]
    · have : ¬ x = e := fun e' => h (by simp [e'])
      simp [wordL, this]
theorem strBody_rest : ∀ (n : Nat) (s : List UInt8), s.length ≤ n → ∀ x r, strBody s = .ok x r → ∃ j, r = s.drop (j + 1) ∧ j + 1 ≤ s.length
  | _, [], _, x, r, h => by cases h
  | 0, y :: s, hn, x, r, h => by simp at hn
  | n + 1, y :: s, hn, x, r, h => by
    simp only [List.length_cons] at hn
    rw [strBody_cons] at h
    split at h
    · cases h
      exact ⟨0, by simp, by simp⟩
    · split at h
      · cases h
      · split at h
        · cases s with
          | nil => cases h
          | cons z s' =>
            simp only at h
            split at h
            · cases h
            · cases hb : strBody s' with
              | bad l => rw [hb] at h; cases h
              | ok x2 r2 =>
                rw [hb] at h
                cases h
                obtain ⟨j, h1, h2⟩ := strBody_rest n s' (by simp at hn; omega) _ _ hb
                exact ⟨j + 2, by rw [h1]; rfl, by simp; omega⟩
        · cases hb : strBody s with
          | bad l => rw [hb] at h; cases h
          | ok x2 r2 =>
            rw [hb] at h
            cases h
            obtain ⟨j, h1, h2⟩ := strBody_rest n s (by omega) _ _ hb
            exact ⟨j + 1, by rw [h1]; rfl, by simp; omega⟩
theorem str_rest (T : ByteArray) (p : Nat) (hp : p ≤ T.size) (l r : List UInt8) (h : strL ((bs T).drop p) = .ok l r) : ∃ q, p < q ∧ q ≤ T.size ∧ r = (bs T).drop q ∧ T.size - r.length = q := by
  unfold strL at h
  cases hw : wordL [34] ((bs T).drop p) with
  | bad l2 => rw [hw] at h; cases h
  | ok u r0 =>
    obtain ⟨hr, h1, h2⟩ := word_rest T p hp [34] u r0 hw
    simp only [List.length_singleton] at hr h1 h2
    rw [hw] at h
    obtain ⟨j, h3, h4⟩ := strBody_rest _ r0 (Nat.le_refl _) l r h
    rw [hr, List.drop_drop] at h3
    rw [hr, List.length_drop, ← size_bs] at h4
    have hl : r.length = T.size - (p + 1 + (j + 1)) := by rw [h3, List.length_drop, ← size_bs]
    exact ⟨p + 1 + (j + 1), by omega, by omega, h3, by omega⟩
theorem strs_law (T : ByteArray) (hT : T.size < 1099511627776) (e : UInt8) : ∀ (k p n : Nat) (acc : List ByteArray), p ≤ T.size → acc.length ≤ p → 2 * (T.size - p) + 4 ≤ k → T.size - p < n →
    depotref21_strs.l0 k T (p : Int) (⟨#[e]⟩ : ByteArray) acc = some (toRefL T.size acc ((strB ((bs T).drop p)).bind fun x r => (moreL strB e n r).map (x :: ·)))
  | 0, p, n, acc, hp, ha, hk, hn => by omega
  | k + 1, p, n, acc, hp, ha, hk, hn => by
    have eb : bs (⟨#[e]⟩ : ByteArray) = [e] := rfl
    have ec : bs (⟨#[44]⟩ : ByteArray) = [44] := rfl
    have hsz : (⟨#[e]⟩ : ByteArray).size = 1 := rfl
    rw [depotref21_strs.l0, str_f T hT k p hp (by omega), Option.bind_some]
    have eS : strB ((bs T).drop p) = (strL ((bs T).drop p)).map (fun l => (⟨l.toArray⟩ : ByteArray)) := rfl
    rw [eS]
    cases hs : strL ((bs T).drop p) with
    | bad l =>
      rw [if_neg (by simp [toRefS])]
      rfl
    | ok l r =>
      obtain ⟨q, hq1, hq2, hr, hrl⟩ := str_rest T p hp l r hs
      obtain ⟨m, rfl⟩ : ∃ m, n = m + 1 := ⟨n - 1, by omega⟩
      rw [if_pos (show (toRefS T.size [] (Res.ok l r)).2.2 = true from rfl), if_pos (by omega), Option.bind_some]
      show (depotref21_word.f k T ((T.size - r.length : Nat) : Int) _).bind _ = some (toRefL T.size acc ((moreL strB e (m + 1) r).map ((⟨l.toArray⟩ : ByteArray) :: ·)))
      rw [hrl, word_f T _ hT (by rw [hsz]; decide) k q hq2 (by rw [hsz]; omega), Option.bind_some, eb, ← hr, toRefL_map, moreL]
      by_cases hh : r.head? = some e
      · rw [(one_word e r).1 hh, if_pos (show (toRef T.size (Res.ok () (r.drop 1))).2 = true from rfl), if_pos hh]
        simp [toRefL, toRef, toRefS]
      · rw [(one_word e r).2 hh, if_neg (by simp [toRef]), if_neg hh]
        show (depotref21_word.f k T ((T.size - r.length : Nat) : Int) _).bind _ = _
        rw [hrl, word_f T (⟨#[44]⟩ : ByteArray) hT (by decide) k q hq2 (by show 1 < k; omega), Option.bind_some, ec, ← hr]
        cases hw : wordL [44] r with
        | bad l2 =>
          rw [if_neg (by simp [toRef])]
          rfl
        | ok u r2 =>
          rw [hr] at hw
          obtain ⟨hr2, h21, h22⟩ := word_rest T q hq2 [44] u r2 hw
          simp only [List.length_singleton] at hr2 h21 h22
          rw [if_pos (show (toRef T.size (Res.ok u r2)).2 = true from rfl)]
          show depotref21_strs.l0 k T ((T.size - r2.length : Nat) : Int) _ (acc ++ [(⟨l.toArray⟩ : ByteArray)]) = _
          rw [h22, hr2]
          exact strs_law T hT e k (q + 1) m (acc ++ [(⟨l.toArray⟩ : ByteArray)]) h21 (by simp; omega) (by omega) (by omega)
end Go.Proofs.Ytdkkgeibifpgiaa.Rc
/- The recipe's reference: strs as a function. -/
namespace Go.Proofs.Ytdkkgeibifpgiaa.Rc
open Go.RowKit Go.Proofs.YtdkkgeibifpgiaaW.PrintWords Go.Proofs.Ytdkkgeibifpgiaa.Bytes Go.Proofs.Ytdkkgeibifpgiaa.Q
set_option linter.unusedVariables false
set_option linter.unusedSimpArgs false

theorem strs_f (T : ByteArray) (hT : T.size < 1099511627776) (e : UInt8) (none : Bool) (k p : Nat) (hp : p ≤ T.size) (hk : 2 * (T.size - p) + 5 ≤ k) :
    depotref21_strs.f k T (p : Int) (⟨#[e]⟩ : ByteArray) none = some (toRefL T.size [] (listL strB e none ((bs T).drop p))) := by
  have eb : bs (⟨#[e]⟩ : ByteArray) = [e] := rfl
  have hsz : (⟨#[e]⟩ : ByteArray).size = 1 := rfl
  have hlen : ((bs T).drop p).length = T.size - p := by rw [List.length_drop, ← size_bs]
  obtain ⟨k', rfl⟩ : ∃ k', k = k' + 1 := ⟨k - 1, by omega⟩
  have hlaw := strs_law T hT e k' p (T.size - p + 1) [] hp (Nat.zero_le _) (by omega) (by omega)
  have hsame : ((strB ((bs T).drop p)).bind fun x r => (moreL strB e (T.size - p + 1) r).map (x :: ·)) = ((strB ((bs T).drop p)).bind fun x r => (moreL strB e (r.length + 1) r).map (x :: ·)) := by
    cases hs : strB ((bs T).drop p) with
    | bad l => rfl
    | ok x r =>
      have h1 := strB_prog _ _ _ hs
      show (moreL strB e (T.size - p + 1) r).map (x :: ·) = (moreL strB e (r.length + 1) r).map (x :: ·)
      rw [moreL_fuel strB strB_prog e (T.size - p + 1) (r.length + 1) r (by omega) (by omega)]
  rw [hsame] at hlaw
  unfold depotref21_strs.f
  rw [word_f T _ hT (by rw [hsz]; decide) (k' + 1) p hp (by rw [hsz]; omega), Option.bind_some, eb, listL]
  by_cases hh : ((bs T).drop p).head? = some e
  · rw [(one_word e _).1 hh, if_pos (show (toRef T.size (Res.ok () (((bs T).drop p).drop 1))).2 = true from rfl), depotref21_strs.j0]
    cases none with
    | true =>
      rw [if_pos rfl, if_pos ⟨rfl, hh⟩]
      simp [toRefL, toRef]
    | false =>
      rw [if_neg (by decide), if_neg (by simp)]
      exact hlaw
  · rw [(one_word e _).2 hh, if_neg (by simp [toRef]), depotref21_strs.j0, if_neg (by decide), if_neg (fun h => hh h.2)]
    exact hlaw
end Go.Proofs.Ytdkkgeibifpgiaa.Rc
/- By a program of this session's: a plain Lean function for a Go function, and its contract. -/
namespace Go.Proofs.Ytdkkgeibifpgiaa.Q
open Go.RowKit Go.Proofs.YtdkkgeibifpgiaaW.PrintWords Go.Proofs.YtdkkgeibifpgiaaW.PrintLast Go.Proofs.YtdkkgeibifpgiaaW.PrintMore
attribute [local go_sem] max2_int min2_int max_two min_two max_three min_three max_four min_four Go.Proofs.Ytdkkgeibifpgiaa.Ord.str_leq Go.Proofs.Ytdkkgeibifpgiaa.Ord.str_gtr Go.Proofs.Ytdkkgeibifpgiaa.Ord.str_geq   -- for this text's walks alone
set_option linter.unusedVariables false
set_option linter.unusedSimpArgs false

/-! ### depotref21_steps: function 26 -/
def depotref21_steps.l0 : Nat → ByteArray → Int → List (S66) → Option ((List (S66)) × Int × Bool)
  | 0, _, _, _ => none
  | k + 1, x0, x1, x7 => (depotref21_word.f k x0 x1 (⟨#[40]⟩ : ByteArray)).bind fun bt176 => (if bt176.2 = true then ((depotref21_strs.f k x0 bt176.1 (⟨#[41]⟩ : ByteArray) false).bind fun bt178 => (if bt178.2.2 = true then (if 0 < (bt178.1.length : Int) then (if 1 ≤ (bt178.1.length : Int) then (if x7.length < 3518437208883 then ((some (x7 ++ [(⟨rdOf ByteArray.empty bt178.1 0, (bt178.1.drop 1)⟩ : S66)] : List (S66))).bind fun y189 => ((depotref21_word.f k x0 bt178.2.1 (⟨#[93]⟩ : ByteArray)).bind fun bt192 => (if bt192.2 = true then (some (y189, bt192.1, true)) else ((depotref21_word.f k x0 bt178.2.1 (⟨#[44]⟩ : ByteArray)).bind fun bt194 => (if bt194.2 = true then (depotref21_steps.l0 k x0 bt194.1 y189) else (some (([] : List (S66)), bt194.1, false))))))) else (none)) else (none)) else (none)) else (some (([] : List (S66)), bt178.2.1, false)))) else (some (([] : List (S66)), bt176.1, false)))
def depotref21_steps.f (k : Nat) (a0 : ByteArray) (a1 : Int) : Option ((List (S66)) × Int × Bool) := (depotref21_word.f k a0 a1 (⟨#[93]⟩ : ByteArray)).bind fun bt174 => (if bt174.2 = true then (some (([] : List (S66)), bt174.1, true)) else (depotref21_steps.l0 k a0 a1 ([] : List (S66))))
theorem depotref21_steps.mono_l : ∀ k, (∀ y0 y1 y2, LeO (depotref21_steps.l0 k y0 y1 y2) (depotref21_steps.l0 (k + 1) y0 y1 y2))
  | 0 => fun _ _ _ r h => by simp [depotref21_steps.l0] at h
  | k + 1 => by
    have ih0 := depotref21_steps.mono_l k
    · intro y0 y1 y2
      unfold depotref21_steps.l0
      repeat' first
      | (with_reducible exact ih0 _ _ _)
      | (with_reducible exact depotref21_strs.mono _ _ _ _ _)
      | (with_reducible exact depotref21_word.mono _ _ _ _)
      | (with_reducible exact LeO.refl _)
      | (with_reducible exact LeO.none _)
      | (with_reducible refine LeO.ite ?_ ?_)
      | (with_reducible refine LeO.bind ?_ (fun _ => ?_))
      | exact ih0 _ _ _
      | exact depotref21_strs.mono _ _ _ _ _
      | exact depotref21_word.mono _ _ _ _
      | exact LeO.none _
      | refine LeO.ite ?_ ?_
      | refine LeO.bind ?_ (fun _ => ?_)
theorem depotref21_steps.mono : ∀ a0 a1 k, LeO (depotref21_steps.f k a0 a1) (depotref21_steps.f (k + 1) a0 a1) := by
  intro a0 a1 k
  have ih0 := depotref21_steps.mono_l k
  unfold depotref21_steps.f
  repeat' first
      | (with_reducible exact ih0 _ _ _)
      | (with_reducible exact depotref21_strs.mono _ _ _ _ _)
      | (with_reducible exact depotref21_word.mono _ _ _ _)
      | (with_reducible exact LeO.refl _)
      | (with_reducible exact LeO.none _)
      | (with_reducible refine LeO.ite ?_ ?_)
      | (with_reducible refine LeO.bind ?_ (fun _ => ?_))
      | exact ih0 _ _ _
      | exact depotref21_strs.mono _ _ _ _ _
      | exact depotref21_word.mono _ _ _ _
      | exact LeO.none _
      | refine LeO.ite ?_ ?_
      | refine LeO.bind ?_ (fun _ => ?_)
def depotref21_steps.T11 : Bool × List (List Nat × List Nat) := (true, [([], []), ([], []), ([1], [1]), ([2], [2]), ([], []), ([4], [4]), ([3, 5], [3, 5]), ([6], [6]), ([0, 7], [0, 7]), ([8, 8, 0, 1, 2, 3, 4, 5, 6, 7, 8], [0, 8])])
def depotref21_steps.B11 : List Nat := [0, 0, 2, 6, 0, 16, 62, 126, 255, 511]
theorem depotref21_steps.tab11 : rtab .any (opsOf Try.f26 11) = depotref21_steps.T11 := by kernel_rfl
theorem depotref21_steps.bits11 : waitsOk depotref21_steps.T11.2 depotref21_steps.B11 = true := by kernel_rfl
set_option maxHeartbeats 8000000 in
set_option maxRecDepth 100000 in
theorem depotref21_steps.calls (k : Nat) (a0 : ByteArray) (a1 : Int) (r1 : List (S66)) (r2 : Int) (r3 : Bool) (w : World) (h : depotref21_steps.f k a0 a1 = some (r1, r2, r3)) :
    Calls Try.prog 26 #[.string a0, .int .i64 a1] w fun e w' => ∃ v0_ : Value, e = .returned (.tuple #[v0_, .int .i64 r2, .bool r3]) ∧ Kd.N k66 66 w' w.heap.size (fun k_ => (w.heap.size ≤ k_)) v0_ r1 ∧ Below w.heap.size w w' := by
  have hu66 := Try.underlying66
  have HB := Aside0.mk (Below.refl w.heap.size w)
  have H : ((depotref21_word.f k a0 a1 (⟨#[93]⟩ : ByteArray)).bind fun bt174 => (if bt174.2 = true then (some (([] : List (S66)), bt174.1, true)) else (depotref21_steps.l0 k a0 a1 ([] : List (S66))))) = some (r1, r2, r3) := h
  clear h
  replace H := Option.bind_eq_some_iff.mp H
  obtain ⟨⟨t174, t175⟩, A30, H⟩ := H
  replace H : (if t175 = true then (some (([] : List (S66)), t174, true)) else (depotref21_steps.l0 k a0 a1 ([] : List (S66)))) = some (r1, r2, r3) := H
  have A3 := Aside0.mk A30
  clear A30
  by_cases c4 : t175 = true
  · subst c4
    have H1 : (some (([] : List (S66)), t174, true)) = some (r1, r2, r3) := by rw [if_pos rfl] at H; exact H
    clear H
    have H := H1
    clear H1
    simp only [Option.some.injEq, Prod.mk.injEq] at H
    obtain ⟨rfl, rfl, rfl⟩ := H
    go_enter Try.func26, Try.ntmps26
    go_wp2_with (first | ((with_reducible refine gate_callee (f := 23) rfl ?_); refine goesL_ (some 20) rfl rfl Try.func23 (by kernel_rfl) rfl #[.string a0, .int .i64 a1, .string (⟨#[93]⟩ : ByteArray)] rfl (by (try simp only [List.map_toArray, List.map_cons, List.map_nil]); first | done | rfl | (simp only [List.length_drop, List.length_take]; rfl)) ?_; (with_reducible refine (depotref21_word.calls k a0 a1 (⟨#[93]⟩ : ByteArray) t174 true _ A3.out).mono ?_); rintro e w' ⟨rfl, ⟨nd, rfl⟩⟩; refine ⟨_, rfl, ?_⟩))
    go_ret3
    exact ⟨_, by first | rfl | (simp [errW_none, errW_some] <;> rfl) | (simp [*, errW_none, errW_some] <;> rfl), by first | exact Kd.S_nil _ _ _ _ _ | exact Kd.N_nil _ _ _ _ _ | exact Kd.V_nil _ _ _ _ _ | exact Kd.Q_nil _ _ _ _ _ | exact Kd.R_nil _ _ _ _ _, by repeat (first | (with_reducible first | exact HB.out | apply below_alloc | apply pw_below_drewN | apply below_drew1) | exact HB.out)⟩
  · replace c4 := Bool.eq_false_iff.mpr c4
    subst c4
    have H1 : (depotref21_steps.l0 k a0 a1 ([] : List (S66))) = some (r1, r2, r3) := by rw [if_neg (show ¬ (false = true) by decide)] at H; exact H
    clear H
    have H := H1
    clear H1
    have H' := Aside0.mk H
    clear H
    go_enter Try.func26, Try.ntmps26
    go_wp2_with (first | ((with_reducible refine gate_callee (f := 23) rfl ?_); refine goesL_ (some 20) rfl rfl Try.func23 (by kernel_rfl) rfl #[.string a0, .int .i64 a1, .string (⟨#[93]⟩ : ByteArray)] rfl (by (try simp only [List.map_toArray, List.map_cons, List.map_nil]); first | done | rfl | (simp only [List.length_drop, List.length_take]; rfl)) ?_; (with_reducible refine (depotref21_word.calls k a0 a1 (⟨#[93]⟩ : ByteArray) t174 false _ A3.out).mono ?_); rintro e w' ⟨rfl, ⟨nd, rfl⟩⟩; refine ⟨_, rfl, ?_⟩))
    go_loopg [1, 7] k (fun kq v1 v7 w' => ∃ (x1_1 : Int) (x7_1 : List (S66)), v1 = .int .i64 x1_1 ∧ Aside0 (depotref21_steps.l0 kq a0 x1_1 x7_1 = some (r1, r2, r3)) ∧ Aside0 (kq ≤ k) ∧ Aside0 (Kd.N k66 66 w' w.heap.size (fun k_ => (w.heap.size ≤ k_)) v7 x7_1) ∧ Aside0 (Below w.heap.size w w'))
    case atStart => exact ⟨(a1), (([] : List (S66))), (by first | rfl | (simp; done) | (simp [*]; done)), H', ⟨Nat.le_refl _⟩, ⟨by first | exact Kd.S_nil _ _ _ _ _ | exact Kd.N_nil _ _ _ _ _ | exact Kd.V_nil _ _ _ _ _ | exact Kd.Q_nil _ _ _ _ _ | exact Kd.R_nil _ _ _ _ _⟩, ⟨by repeat (first | (with_reducible first | exact HB.out | apply below_alloc | apply pw_below_drewN | apply below_drew1) | exact HB.out)⟩⟩
    case round =>
      clear H'
      try clear c2
      try clear p2
      try clear c4
      obtain ⟨x1_1, x7_1, rfl, HA, HK1, HO_7, HB⟩ := hrel
      cases gk with
      | zero => exact absurd HA.out (by simp [depotref21_steps.l0])
      | succ k1 =>
        have H := HA.out
        clear HA
        simp only [depotref21_steps.l0] at H
        replace H := Option.bind_eq_some_iff.mp H
        obtain ⟨⟨t176, t177⟩, A50, H⟩ := H
        replace H : (if t177 = true then ((depotref21_strs.f k1 a0 t176 (⟨#[41]⟩ : ByteArray) false).bind fun bt178 => (if bt178.2.2 = true then (if 0 < (bt178.1.length : Int) then (if 1 ≤ (bt178.1.length : Int) then (if x7_1.length < 3518437208883 then ((some (x7_1 ++ [(⟨rdOf ByteArray.empty bt178.1 0, (bt178.1.drop 1)⟩ : S66)] : List (S66))).bind fun y189 => ((depotref21_word.f k1 a0 bt178.2.1 (⟨#[93]⟩ : ByteArray)).bind fun bt192 => (if bt192.2 = true then (some (y189, bt192.1, true)) else ((depotref21_word.f k1 a0 bt178.2.1 (⟨#[44]⟩ : ByteArray)).bind fun bt194 => (if bt194.2 = true then (depotref21_steps.l0 k1 a0 bt194.1 y189) else (some (([] : List (S66)), bt194.1, false))))))) else (none)) else (none)) else (none)) else (some (([] : List (S66)), bt178.2.1, false)))) else (some (([] : List (S66)), t176, false))) = some (r1, r2, r3) := H
        have A5 := Aside0.mk A50
        clear A50
        by_cases c6 : t177 = true
        · subst c6
          have H1 : ((depotref21_strs.f k1 a0 t176 (⟨#[41]⟩ : ByteArray) false).bind fun bt178 => (if bt178.2.2 = true then (if 0 < (bt178.1.length : Int) then (if 1 ≤ (bt178.1.length : Int) then (if x7_1.length < 3518437208883 then ((some (x7_1 ++ [(⟨rdOf ByteArray.empty bt178.1 0, (bt178.1.drop 1)⟩ : S66)] : List (S66))).bind fun y189 => ((depotref21_word.f k1 a0 bt178.2.1 (⟨#[93]⟩ : ByteArray)).bind fun bt192 => (if bt192.2 = true then (some (y189, bt192.1, true)) else ((depotref21_word.f k1 a0 bt178.2.1 (⟨#[44]⟩ : ByteArray)).bind fun bt194 => (if bt194.2 = true then (depotref21_steps.l0 k1 a0 bt194.1 y189) else (some (([] : List (S66)), bt194.1, false))))))) else (none)) else (none)) else (none)) else (some (([] : List (S66)), bt178.2.1, false)))) = some (r1, r2, r3) := by rw [if_pos rfl] at H; exact H
          clear H
          have H := H1
          clear H1
          replace H := Option.bind_eq_some_iff.mp H
          obtain ⟨⟨t178, t179, t180⟩, A70, H⟩ := H
          replace H : (if t180 = true then (if 0 < (t178.length : Int) then (if 1 ≤ (t178.length : Int) then (if x7_1.length < 3518437208883 then ((some (x7_1 ++ [(⟨rdOf ByteArray.empty t178 0, (t178.drop 1)⟩ : S66)] : List (S66))).bind fun y189 => ((depotref21_word.f k1 a0 t179 (⟨#[93]⟩ : ByteArray)).bind fun bt192 => (if bt192.2 = true then (some (y189, bt192.1, true)) else ((depotref21_word.f k1 a0 t179 (⟨#[44]⟩ : ByteArray)).bind fun bt194 => (if bt194.2 = true then (depotref21_steps.l0 k1 a0 bt194.1 y189) else (some (([] : List (S66)), bt194.1, false))))))) else (none)) else (none)) else (none)) else (some (([] : List (S66)), t179, false))) = some (r1, r2, r3) := H
          have A7 := Aside0.mk A70
          clear A70
          by_cases c8 : t180 = true
          · subst c8
            have H1 : (if 0 < (t178.length : Int) then (if 1 ≤ (t178.length : Int) then (if x7_1.length < 3518437208883 then ((some (x7_1 ++ [(⟨rdOf ByteArray.empty t178 0, (t178.drop 1)⟩ : S66)] : List (S66))).bind fun y189 => ((depotref21_word.f k1 a0 t179 (⟨#[93]⟩ : ByteArray)).bind fun bt192 => (if bt192.2 = true then (some (y189, bt192.1, true)) else ((depotref21_word.f k1 a0 t179 (⟨#[44]⟩ : ByteArray)).bind fun bt194 => (if bt194.2 = true then (depotref21_steps.l0 k1 a0 bt194.1 y189) else (some (([] : List (S66)), bt194.1, false))))))) else (none)) else (none)) else (none)) = some (r1, r2, r3) := by rw [if_pos rfl] at H; exact H
            clear H
            have H := H1
            clear H1
            by_cases c9 : 0 < (t178.length : Int)
            · rw [if_pos c9] at H
              have c9b0 : decide (0 < (t178.length : Int)) = true := decide_eq_true c9
              have c9b1 : decide (0 < t178.length) = true := decide_eq_true (by omega)
              clear c9
              by_cases c10 : 1 ≤ (t178.length : Int)
              · rw [if_pos c10] at H
                have c10b0 := eq_true c10
                have c10b1 : decide (1 ≤ (t178.length : Int)) = true := decide_eq_true c10
                clear c10
                obtain ⟨y184, hy184⟩ : ∃ y_ : List ByteArray, y_ = (t178.drop 1) := ⟨_, rfl⟩
                replace H : (if x7_1.length < 3518437208883 then ((some (x7_1 ++ [(⟨rdOf ByteArray.empty t178 0, y184⟩ : S66)] : List (S66))).bind fun y189 => ((depotref21_word.f k1 a0 t179 (⟨#[93]⟩ : ByteArray)).bind fun bt192 => (if bt192.2 = true then (some (y189, bt192.1, true)) else ((depotref21_word.f k1 a0 t179 (⟨#[44]⟩ : ByteArray)).bind fun bt194 => (if bt194.2 = true then (depotref21_steps.l0 k1 a0 bt194.1 y189) else (some (([] : List (S66)), bt194.1, false))))))) else (none)) = some (r1, r2, r3) := by first | (rw [hy184]; with_reducible exact H) | (have H2_ := (Option.bind_some _ _).symm.trans H; rw [hy184]; with_reducible exact H2_) | (have H2_ := (Option.bind_some _ _).symm.trans H; with_reducible exact H2_) | with_reducible exact H | (rw [hy184]; exact H) | exact H
                have Ny184 := Aside0.mk hy184
                clear hy184
                by_cases c11 : x7_1.length < 3518437208883
                · rw [if_pos c11] at H
                  have LMc11 := Aside0.mk c11
                  clear c11
                  obtain ⟨y189, hy189⟩ : ∃ y_ : List (S66), y_ = (x7_1 ++ [(⟨rdOf ByteArray.empty t178 0, y184⟩ : S66)]) := ⟨_, rfl⟩
                  replace H : ((depotref21_word.f k1 a0 t179 (⟨#[93]⟩ : ByteArray)).bind fun bt192 => (if bt192.2 = true then (some (y189, bt192.1, true)) else ((depotref21_word.f k1 a0 t179 (⟨#[44]⟩ : ByteArray)).bind fun bt194 => (if bt194.2 = true then (depotref21_steps.l0 k1 a0 bt194.1 y189) else (some (([] : List (S66)), bt194.1, false)))))) = some (r1, r2, r3) := by first | (rw [hy189]; with_reducible exact H) | (have H2_ := (Option.bind_some _ _).symm.trans H; rw [hy189]; with_reducible exact H2_) | (have H2_ := (Option.bind_some _ _).symm.trans H; with_reducible exact H2_) | with_reducible exact H | (rw [hy189]; exact H) | exact H
                  have Ny189 := Aside0.mk hy189
                  clear hy189
                  replace H := Option.bind_eq_some_iff.mp H
                  obtain ⟨⟨t192, t193⟩, A120, H⟩ := H
                  replace H : (if t193 = true then (some (y189, t192, true)) else ((depotref21_word.f k1 a0 t179 (⟨#[44]⟩ : ByteArray)).bind fun bt194 => (if bt194.2 = true then (depotref21_steps.l0 k1 a0 bt194.1 y189) else (some (([] : List (S66)), bt194.1, false))))) = some (r1, r2, r3) := H
                  have A12 := Aside0.mk A120
                  clear A120
                  by_cases c13 : t193 = true
                  · subst c13
                    have H1 : (some (y189, t192, true)) = some (r1, r2, r3) := by rw [if_pos rfl] at H; exact H
                    clear H
                    have H := H1
                    clear H1
                    simp only [Option.some.injEq, Prod.mk.injEq] at H
                    obtain ⟨rfl, rfl, rfl⟩ := H
                    try go_wp2_with (first | ((with_reducible refine gate_callee (f := 23) rfl ?_); refine goesL_ (some 28) rfl rfl Try.func23 (by kernel_rfl) rfl #[.string a0, .int .i64 x1_1, .string (⟨#[40]⟩ : ByteArray)] rfl (by (try simp only [List.map_toArray, List.map_cons, List.map_nil]); first | done | rfl | (simp only [List.length_drop, List.length_take]; rfl)) ?_; (with_reducible refine (depotref21_word.calls k1 a0 x1_1 (⟨#[40]⟩ : ByteArray) t176 true _ A5.out).mono ?_); rintro e w' ⟨rfl, ⟨nd, rfl⟩⟩; refine ⟨_, rfl, ?_⟩) | ((with_reducible refine gate_callee (f := 25) rfl ?_); refine goesL_ (some 37) rfl rfl Try.func25 (by kernel_rfl) rfl #[.string a0, .int .i64 t176, .string (⟨#[41]⟩ : ByteArray), .bool false] rfl (by (try simp only [List.map_toArray, List.map_cons, List.map_nil]); first | done | rfl | (simp only [List.length_drop, List.length_take]; rfl)) ?_; (with_reducible refine (depotref21_strs.calls k1 a0 t176 (⟨#[41]⟩ : ByteArray) false t178 t179 true _ A7.out).mono ?_); rintro e w14 ⟨v181, rfl, ho0, hb⟩; refine ⟨_, rfl, ?_⟩; have n0_ := Aside0.mk (Kd.N_elder' (by (with_reducible repeat (first | apply Kd.N_alloc | apply Kd.N_drewN | apply Kd.N_drew)); exact HO_7.out) (Kd.R_base ho0) hb); have n1_ := Aside0.mk (Kd.R_lower (Kd.R_newM (M := fun k_ => (w.heap.size ≤ k_)) ho0 (below_size (by repeat (first | (with_reducible first | exact HB.out | apply below_alloc | apply pw_below_drewN | apply below_drew1) | exact HB.out))) (fun k_ h_ => h_)) (below_size (by repeat (first | (with_reducible first | exact HB.out | apply below_alloc | apply pw_below_drewN | apply below_drew1) | exact HB.out)))); have n2_ := Aside0.mk (below_step (by repeat (first | (with_reducible first | exact HB.out | apply below_alloc | apply pw_below_drewN | apply below_drew1) | exact HB.out)) hb); clear HO_7; clear HB; have HO_7 := n0_; have HO182 := n1_; have HB := n2_; clear n0_ n1_ n2_; (try clear hb); (try clear hb2); (try clear hk); (try clear hi); (try clear ho0)))
                    have n0_ := Aside0.mk (Kd.N_drew HO_7.out)
                    have n1_ := Aside0.mk (Kd.R_drew HO182.out)
                    have n2_ := Aside0.mk (below_drew1 HB.out)
                    clear HO_7
                    clear HO182
                    clear HB
                    have HO_7 := n0_
                    have HO182 := n1_
                    have HB := n2_
                    clear n0_ n1_ n2_
                    obtain ⟨Ao16, co16, eo16⟩ := Kd.R_slice HO182.out
                    (first | subst eo16 | (injection eo16 with f1_ f2_ f3_; have f4_ := f1_.symm; have f5_ := f3_.symm; clear f1_ f2_ f3_; subst f4_; subst f5_))
                    have p183 : 0 ≤ (0 : Int) := (by omega)
                    have q183 : 0 < (t178.length : Int) := of_decide_eq_true (by first | (with_reducible assumption) | assumption)
                    obtain ⟨ad183, e183, hx183_0⟩ := Kd.at_string (Kd.R_reads' HO182.out).2.2 0 p183 q183
                    cases e183
                    have qi183 : (0 < t178.length) = True := eq_true (by omega)
                    (try rw [show ((0 : Int)).toNat = 0 from rfl] at hx183_0)
                    (try rw [Addr.add_zero'] at hx183_0)
                    replace p183 := eq_true p183
                    replace q183 := eq_true q183
                    have q17 : (1 : Int) ≤ ((t178.length : Int) : Int) := of_decide_eq_true (by first | (with_reducible assumption) | assumption)
                    obtain ⟨i017, hi017, _, hsz17, _⟩ := info_parts info9
                    have hroom17 : t178.length ≤ co16 := (Kd.R_reads' HO182.out).2.1
                    have hC17 : Kd.F Kd.string _ _ (some ad183) t178.length t178 := (Kd.V_at (base := w.heap.size) (Kd.R_V (Kd.R_apart' (HO182.out) (Kd.N_typed HO_7.out) (by decide)))).2.2
                    have hcut17 := cut_from (P := Try.prog) 23 9 .i64 Try.underlying23 hi017 1 hsz17 (some ad183) t178.length co16 1 (by omega) q17
                    have hr17 := Kd.F_cut (m := (1 : Int).toNat) (c := co16) hC17 (by omega) hroom17
                    obtain ⟨A17, hA17⟩ : ∃ A1, A1 = (if co16 = (1 : Int).toNat then (some ad183) else ((some ad183) : Option Addr).map (·.add ((1 : Int).toNat * 1))) := ⟨_, rfl⟩
                    obtain ⟨c17, hc17⟩ : ∃ c1, c1 = co16 - (1 : Int).toNat := ⟨_, rfl⟩
                    have hy17 : y184.length = t178.length - (1 : Int).toNat := (by rw [Ny184.out, List.length_drop] <;> omega)
                    rw [show (t178).drop (1 : Int).toNat = y184 from Ny184.out.symm] at hr17
                    replace hr17 : Kd.F Kd.string _ _ A17 y184.length y184 := (by rw [hA17]; exact hr17)
                    rw [← hy17, ← hA17, ← hc17] at hcut17
                    have HO188 := Aside0.mk (show Kd.V Kd.string 9 _ w.heap.size _ (.slice A17 y184.length c17) y184 from Kd.V_mk (by rw [hy17, hc17]; exact Nat.sub_le_sub_right hroom17 _) hr17)
                    have HC188 := Aside0.mk (show y184.length ≤ c17 from by rw [hy17, hc17]; exact Nat.sub_le_sub_right hroom17 _)
                    clear hr17 hC17 hroom17 hi017 hsz17 hc17
                    have KY17 := Aside0.mk hy17
                    have KA17 := Aside0.mk hA17
                    clear hy17 hA17
                    replace q17 := eq_true q17
                    refine start_ (n := 10) (S := fun w' => w'.cell? ad183 = some (.string (rdOf ByteArray.empty t178 0))) (ds := [7, 8]) #[false, false, false, false, false, false, false, false, false, false] (by kernel_rfl) rfl rfl (hx183_0) (fun hHeld => ?_); refine with_tabW depotref21_steps.tab11 depotref21_steps.bits11 (fun HT_ HW_ => ?_)
                    generalize w14.drew = w15 at HO_7 HO182 HB HO188 hx183_0 hHeld ⊢
                    refine pure_ (i := 0) (N := some 44) (v := ?_) (a' := ?_) #[true, false, false, false, false, false, false, false, false, false] rfl rfl (any_of HT_.out (by kernel_rfl)) (fun _ _ _ h => h) (Or.inl ⟨by rfl, ?_⟩) ?_ ?_
                    rotate_left
                    · intro w'
                      go_simp
                      with_reducible rfl
                    rotate_left
                    · simp only [Act.put, List.setIfInBounds_toArray, List.set_cons_zero, List.set_cons_succ, i64_w, i32_w]
                      rfl
                    refine pure_ (i := 1) (N := some 45) (v := ?_) (a' := ?_) #[true, true, false, false, false, false, false, false, false, false] rfl rfl (any_of HT_.out (by kernel_rfl)) (fun _ _ _ h => h) (Or.inl ⟨by rfl, ?_⟩) ?_ ?_
                    rotate_left
                    · intro w'
                      go_simp
                      with_reducible rfl
                    rotate_left
                    · simp only [Act.put, List.setIfInBounds_toArray, List.set_cons_zero, List.set_cons_succ, i64_w, i32_w]
                      rfl
                    refine pure_ (i := 2) (N := some 46) (v := ?_) (a' := ?_) #[true, true, true, false, false, false, false, false, false, false] rfl rfl (any_of HT_.out (by kernel_rfl)) (fun _ _ _ h => h) (Or.inl ⟨by rfl, ?_⟩) ?_ ?_
                    rotate_left
                    · intro w'
                      go_simp
                      with_reducible rfl
                    rotate_left
                    · simp only [Act.put, List.setIfInBounds_toArray, List.set_cons_zero, List.set_cons_succ, i64_w, i32_w]
                      rfl
                    refine pure_ (i := 4) (N := some 48) (v := ?_) (a' := ?_) #[true, true, true, false, true, false, false, false, false, false] rfl rfl (any_of HT_.out (by kernel_rfl)) (fun _ _ _ h => h) (Or.inl ⟨by rfl, ?_⟩) ?_ ?_
                    rotate_left
                    · intro w'
                      go_simp
                      with_reducible rfl
                    rotate_left
                    · simp only [Act.put, List.setIfInBounds_toArray, List.set_cons_zero, List.set_cons_succ, i64_w, i32_w]
                      rfl
                    refine pure_ (i := 5) (N := some 49) (v := ?_) (a' := ?_) #[true, true, true, false, true, true, false, false, false, false] rfl rfl (any_of HT_.out (by kernel_rfl)) (fun _ _ _ h => h) (Or.inl ⟨by rfl, ?_⟩) ?_ ?_
                    rotate_left
                    · intro w'
                      go_simp
                      with_reducible rfl
                    rotate_left
                    · simp only [Act.put, List.setIfInBounds_toArray, List.set_cons_zero, List.set_cons_succ, i64_w, i32_w]
                      rfl
                    refine take_ (i := 3) (N := some 47) (v := ?_) (a' := ?_) #[true, true, true, true, true, true, false, false, false, false] rfl rfl (take_ofW HT_.out HW_.out (by kernel_rfl)) (fun _ _ _ h => h) (Or.inl ⟨by rfl, ?_⟩) hHeld ?_ ?_
                    rotate_left
                    · intro w' s0
                      go_simp
                      with_reducible rfl
                    rotate_left
                    · simp only [Act.put, List.setIfInBounds_toArray, List.set_cons_zero, List.set_cons_succ, i64_w, i32_w]
                      rfl
                    refine pure_ (i := 6) (N := some 50) (v := ?_) (a' := ?_) #[true, true, true, true, true, true, true, false, false, false] rfl rfl (any_of HT_.out (by kernel_rfl)) (fun _ _ _ h => h) (Or.inl ⟨by rfl, ?_⟩) ?_ ?_
                    rotate_left
                    · intro w'
                      go_simp
                      with_reducible rfl
                    rotate_left
                    · simp only [Act.put, List.setIfInBounds_toArray, List.set_cons_zero, List.set_cons_succ, i64_w, i32_w]
                      rfl
                    refine last_ (i := 7) (N := some 51) #[true, true, true, true, true, true, true, true, false, false] rfl rfl (one_of HT_.out (by kernel_rfl)) (by decide) (fun K hK => ?_)
                    refine value_ (w1 := ?_) (v := ?_) (by rfl) rfl ?_ ?_
                    rotate_left 2
                    · go_simp
                      constructor
                      · rfl
                      · rfl
                    refine hK.out _ _ ?_
                    clear hK K
                    refine norm_ (a' := ?_) ?_ ?_
                    rotate_left
                    · show Act.put _ (some 51) _ = _
                      simp only [Act.put, List.setIfInBounds_toArray, List.set_cons_zero, List.set_cons_succ, i64_w, i32_w]
                      rfl
                    refine last_ (i := 8) (N := some 52) #[true, true, true, true, true, true, true, true, true, false] rfl rfl (one_of HT_.out (by kernel_rfl)) (by decide) (fun K hK => ?_)
                    refine Kd.N_append_step k66 (w0 := w) w.heap.size (by rfl) (.tmp 44) (.tmp 51) 31 66 (.agg #[(.string ⟨#[]⟩), (.slice none 0 0)]) 40 rfl Try.underlying31 info66 rfl (by decide) (by omega) u7 x7_1 (⟨rdOf ByteArray.empty t178 0, y184⟩ : S66) [.string (rdOf ByteArray.empty t178 0), .slice A17 y184.length c17] (fun k_ => (w.heap.size ≤ k_)) (fun k_ => ((fun k_ => (w.heap.size ≤ k_))) k_ ∧ some k_ ≠ (u7 : Value).ownBlock) rfl rfl ?aP (fun _ hk => hk) ?aF ?aO ?aB ?aS ?aL ?_
                    (case aP => exact (k66_mkF _ _ (⟨rdOf ByteArray.empty t178 0, y184⟩ : S66) (Kd.V_reads' (Kd.V_mono (ok' := (fun k_ => ((fun k_ => (w.heap.size ≤ k_))) k_ ∧ some k_ ≠ (u7 : Value).ownBlock)) (HO188.out) (fun k_ hk => ⟨hk.1.1, hk.2⟩))).2.1 (Kd.V_F (Kd.V_mono (ok' := (fun k_ => ((fun k_ => (w.heap.size ≤ k_))) k_ ∧ some k_ ≠ (u7 : Value).ownBlock)) (HO188.out) (fun k_ hk => ⟨hk.1.1, hk.2⟩)))))
                    (case aB => exact (by repeat (first | (with_reducible first | exact HB.out | apply below_alloc | apply pw_below_drewN | apply below_drew1) | exact HB.out)))
                    (case aF => exact (fun k_ hk => (Nat.le_trans (below_size (by repeat (first | (with_reducible first | exact HB.out | apply below_alloc | apply pw_below_drewN | apply below_drew1) | exact HB.out))) hk)))
                    (case aO => exact (by (with_reducible repeat (first | apply Kd.N_alloc | apply Kd.N_drewN | apply Kd.N_drew)); exact Kd.N_mono HO_7.out (fun _ hk => hk.1)))
                    (case aS => exact (below_size (by repeat (first | (with_reducible first | exact HB.out | apply below_alloc | apply pw_below_drewN | apply below_drew1) | exact HB.out))))
                    (case aL => have := LMc11.out; omega)
                    intro v190 w18 ho hb hg hat
                    rw [← Ny189.out] at ho
                    have n0_ := Aside0.mk (Kd.R_over' (by (with_reducible repeat (first | apply Kd.R_alloc | apply Kd.R_drewN | apply Kd.R_drew)); exact HO182.out) (Kd.N_typed (by (with_reducible repeat (first | apply Kd.N_alloc | apply Kd.N_drewN | apply Kd.N_drew)); exact HO_7.out)) (by decide) hg)
                    have n1_ := Aside0.mk (Kd.V_afterv (ok := (fun k_ => (w.heap.size ≤ k_))) (by (with_reducible repeat (first | apply Kd.V_alloc | apply Kd.V_drewN | apply Kd.V_drew)); exact Kd.V_mono HO188.out (fun _ hk => ⟨hk.1.1, hk.2⟩)) hg hat)
                    have n2_ := Aside0.mk (hb)
                    have n3_ := Aside0.mk (ho)
                    clear HO182
                    clear HO188
                    clear HB
                    clear HO_7
                    have HO182 := n0_
                    have HO188 := n1_
                    have HB := n2_
                    have HO191 := n3_
                    clear n0_ n1_ n2_ n3_
                    clear ho hb hg hat
                    refine hK.out _ _ ?_
                    clear hK K
                    refine norm_ (a' := ?_) ?_ ?_
                    rotate_left
                    · show Act.put _ (some 52) _ = _
                      simp only [Act.put, List.setIfInBounds_toArray, List.set_cons_zero, List.set_cons_succ, i64_w, i32_w]
                      rfl
                    refine pure_ (i := 9) (N := some 7) (v := ?_) (a' := ?_) #[true, true, true, true, true, true, true, true, true, true] rfl rfl (any_of HT_.out (by kernel_rfl)) (fun _ _ _ h => h) (Or.inl ⟨by rfl, ?_⟩) ?_ ?_
                    rotate_left
                    · intro w'
                      go_simp
                      with_reducible rfl
                    rotate_left
                    · simp only [Act.put, List.setIfInBounds_toArray, List.set_cons_zero, List.set_cons_succ, i64_w, i32_w]
                      rfl
                    refine done_ (done_of HT_.out (by kernel_rfl)) ?_
                    try go_wp2_with (first | ((with_reducible refine gate_callee (f := 23) rfl ?_); refine goesL_ (some 57) rfl rfl Try.func23 (by kernel_rfl) rfl #[.string a0, .int .i64 t179, .string (⟨#[93]⟩ : ByteArray)] rfl (by (try simp only [List.map_toArray, List.map_cons, List.map_nil]); first | done | rfl | (simp only [List.length_drop, List.length_take]; rfl)) ?_; (with_reducible refine (depotref21_word.calls k1 a0 t179 (⟨#[93]⟩ : ByteArray) t192 true _ A12.out).mono ?_); rintro e w' ⟨rfl, ⟨nd, rfl⟩⟩; refine ⟨_, rfl, ?_⟩))
                    go_ret3
                    exact ⟨_, by first | rfl | (simp [errW_none, errW_some] <;> rfl) | (simp [*, errW_none, errW_some] <;> rfl), by (with_reducible repeat (first | apply Kd.N_alloc | apply Kd.N_drewN | apply Kd.N_drew)); exact HO191.out, by repeat (first | (with_reducible first | exact HB.out | apply below_alloc | apply pw_below_drewN | apply below_drew1) | exact HB.out)⟩
                  · replace c13 := Bool.eq_false_iff.mpr c13
                    subst c13
                    have H1 : ((depotref21_word.f k1 a0 t179 (⟨#[44]⟩ : ByteArray)).bind fun bt194 => (if bt194.2 = true then (depotref21_steps.l0 k1 a0 bt194.1 y189) else (some (([] : List (S66)), bt194.1, false)))) = some (r1, r2, r3) := by rw [if_neg (show ¬ (false = true) by decide)] at H; exact H
                    clear H
                    have H := H1
                    clear H1
                    replace H := Option.bind_eq_some_iff.mp H
                    obtain ⟨⟨t194, t195⟩, A190, H⟩ := H
                    replace H : (if t195 = true then (depotref21_steps.l0 k1 a0 t194 y189) else (some (([] : List (S66)), t194, false))) = some (r1, r2, r3) := H
                    have A19 := Aside0.mk A190
                    clear A190
                    by_cases c20 : t195 = true
                    · subst c20
                      have H1 : (depotref21_steps.l0 k1 a0 t194 y189) = some (r1, r2, r3) := by rw [if_pos rfl] at H; exact H
                      clear H
                      have H := H1
                      clear H1
                      have H' := Aside0.mk H
                      clear H
                      try go_wp2_with (first | ((with_reducible refine gate_callee (f := 23) rfl ?_); refine goesL_ (some 28) rfl rfl Try.func23 (by kernel_rfl) rfl #[.string a0, .int .i64 x1_1, .string (⟨#[40]⟩ : ByteArray)] rfl (by (try simp only [List.map_toArray, List.map_cons, List.map_nil]); first | done | rfl | (simp only [List.length_drop, List.length_take]; rfl)) ?_; (with_reducible refine (depotref21_word.calls k1 a0 x1_1 (⟨#[40]⟩ : ByteArray) t176 true _ A5.out).mono ?_); rintro e w' ⟨rfl, ⟨nd, rfl⟩⟩; refine ⟨_, rfl, ?_⟩) | ((with_reducible refine gate_callee (f := 25) rfl ?_); refine goesL_ (some 37) rfl rfl Try.func25 (by kernel_rfl) rfl #[.string a0, .int .i64 t176, .string (⟨#[41]⟩ : ByteArray), .bool false] rfl (by (try simp only [List.map_toArray, List.map_cons, List.map_nil]); first | done | rfl | (simp only [List.length_drop, List.length_take]; rfl)) ?_; (with_reducible refine (depotref21_strs.calls k1 a0 t176 (⟨#[41]⟩ : ByteArray) false t178 t179 true _ A7.out).mono ?_); rintro e w21 ⟨v181, rfl, ho0, hb⟩; refine ⟨_, rfl, ?_⟩; have n0_ := Aside0.mk (Kd.N_elder' (by (with_reducible repeat (first | apply Kd.N_alloc | apply Kd.N_drewN | apply Kd.N_drew)); exact HO_7.out) (Kd.R_base ho0) hb); have n1_ := Aside0.mk (Kd.R_lower (Kd.R_newM (M := fun k_ => (w.heap.size ≤ k_)) ho0 (below_size (by repeat (first | (with_reducible first | exact HB.out | apply below_alloc | apply pw_below_drewN | apply below_drew1) | exact HB.out))) (fun k_ h_ => h_)) (below_size (by repeat (first | (with_reducible first | exact HB.out | apply below_alloc | apply pw_below_drewN | apply below_drew1) | exact HB.out)))); have n2_ := Aside0.mk (below_step (by repeat (first | (with_reducible first | exact HB.out | apply below_alloc | apply pw_below_drewN | apply below_drew1) | exact HB.out)) hb); clear HO_7; clear HB; have HO_7 := n0_; have HO182 := n1_; have HB := n2_; clear n0_ n1_ n2_; (try clear hb); (try clear hb2); (try clear hk); (try clear hi); (try clear ho0)))
                      have n0_ := Aside0.mk (Kd.N_drew HO_7.out)
                      have n1_ := Aside0.mk (Kd.R_drew HO182.out)
                      have n2_ := Aside0.mk (below_drew1 HB.out)
                      clear HO_7
                      clear HO182
                      clear HB
                      have HO_7 := n0_
                      have HO182 := n1_
                      have HB := n2_
                      clear n0_ n1_ n2_
                      obtain ⟨Ao23, co23, eo23⟩ := Kd.R_slice HO182.out
                      (first | subst eo23 | (injection eo23 with f1_ f2_ f3_; have f4_ := f1_.symm; have f5_ := f3_.symm; clear f1_ f2_ f3_; subst f4_; subst f5_))
                      have p183 : 0 ≤ (0 : Int) := (by omega)
                      have q183 : 0 < (t178.length : Int) := of_decide_eq_true (by first | (with_reducible assumption) | assumption)
                      obtain ⟨ad183, e183, hx183_0⟩ := Kd.at_string (Kd.R_reads' HO182.out).2.2 0 p183 q183
                      cases e183
                      have qi183 : (0 < t178.length) = True := eq_true (by omega)
                      (try rw [show ((0 : Int)).toNat = 0 from rfl] at hx183_0)
                      (try rw [Addr.add_zero'] at hx183_0)
                      replace p183 := eq_true p183
                      replace q183 := eq_true q183
                      have q24 : (1 : Int) ≤ ((t178.length : Int) : Int) := of_decide_eq_true (by first | (with_reducible assumption) | assumption)
                      obtain ⟨i024, hi024, _, hsz24, _⟩ := info_parts info9
                      have hroom24 : t178.length ≤ co23 := (Kd.R_reads' HO182.out).2.1
                      have hC24 : Kd.F Kd.string _ _ (some ad183) t178.length t178 := (Kd.V_at (base := w.heap.size) (Kd.R_V (Kd.R_apart' (HO182.out) (Kd.N_typed HO_7.out) (by decide)))).2.2
                      have hcut24 := cut_from (P := Try.prog) 23 9 .i64 Try.underlying23 hi024 1 hsz24 (some ad183) t178.length co23 1 (by omega) q24
                      have hr24 := Kd.F_cut (m := (1 : Int).toNat) (c := co23) hC24 (by omega) hroom24
                      obtain ⟨A24, hA24⟩ : ∃ A1, A1 = (if co23 = (1 : Int).toNat then (some ad183) else ((some ad183) : Option Addr).map (·.add ((1 : Int).toNat * 1))) := ⟨_, rfl⟩
                      obtain ⟨c24, hc24⟩ : ∃ c1, c1 = co23 - (1 : Int).toNat := ⟨_, rfl⟩
                      have hy24 : y184.length = t178.length - (1 : Int).toNat := (by rw [Ny184.out, List.length_drop] <;> omega)
                      rw [show (t178).drop (1 : Int).toNat = y184 from Ny184.out.symm] at hr24
                      replace hr24 : Kd.F Kd.string _ _ A24 y184.length y184 := (by rw [hA24]; exact hr24)
                      rw [← hy24, ← hA24, ← hc24] at hcut24
                      have HO188 := Aside0.mk (show Kd.V Kd.string 9 _ w.heap.size _ (.slice A24 y184.length c24) y184 from Kd.V_mk (by rw [hy24, hc24]; exact Nat.sub_le_sub_right hroom24 _) hr24)
                      have HC188 := Aside0.mk (show y184.length ≤ c24 from by rw [hy24, hc24]; exact Nat.sub_le_sub_right hroom24 _)
                      clear hr24 hC24 hroom24 hi024 hsz24 hc24
                      have KY24 := Aside0.mk hy24
                      have KA24 := Aside0.mk hA24
                      clear hy24 hA24
                      replace q24 := eq_true q24
                      refine start_ (n := 10) (S := fun w' => w'.cell? ad183 = some (.string (rdOf ByteArray.empty t178 0))) (ds := [7, 8]) #[false, false, false, false, false, false, false, false, false, false] (by kernel_rfl) rfl rfl (hx183_0) (fun hHeld => ?_); refine with_tabW depotref21_steps.tab11 depotref21_steps.bits11 (fun HT_ HW_ => ?_)
                      generalize w21.drew = w22 at HO_7 HO182 HB HO188 hx183_0 hHeld ⊢
                      refine pure_ (i := 0) (N := some 44) (v := ?_) (a' := ?_) #[true, false, false, false, false, false, false, false, false, false] rfl rfl (any_of HT_.out (by kernel_rfl)) (fun _ _ _ h => h) (Or.inl ⟨by rfl, ?_⟩) ?_ ?_
                      rotate_left
                      · intro w'
                        go_simp
                        with_reducible rfl
                      rotate_left
                      · simp only [Act.put, List.setIfInBounds_toArray, List.set_cons_zero, List.set_cons_succ, i64_w, i32_w]
                        rfl
                      refine pure_ (i := 1) (N := some 45) (v := ?_) (a' := ?_) #[true, true, false, false, false, false, false, false, false, false] rfl rfl (any_of HT_.out (by kernel_rfl)) (fun _ _ _ h => h) (Or.inl ⟨by rfl, ?_⟩) ?_ ?_
                      rotate_left
                      · intro w'
                        go_simp
                        with_reducible rfl
                      rotate_left
                      · simp only [Act.put, List.setIfInBounds_toArray, List.set_cons_zero, List.set_cons_succ, i64_w, i32_w]
                        rfl
                      refine pure_ (i := 2) (N := some 46) (v := ?_) (a' := ?_) #[true, true, true, false, false, false, false, false, false, false] rfl rfl (any_of HT_.out (by kernel_rfl)) (fun _ _ _ h => h) (Or.inl ⟨by rfl, ?_⟩) ?_ ?_
                      rotate_left
                      · intro w'
                        go_simp
                        with_reducible rfl
                      rotate_left
                      · simp only [Act.put, List.setIfInBounds_toArray, List.set_cons_zero, List.set_cons_succ, i64_w, i32_w]
                        rfl
                      refine pure_ (i := 4) (N := some 48) (v := ?_) (a' := ?_) #[true, true, true, false, true, false, false, false, false, false] rfl rfl (any_of HT_.out (by kernel_rfl)) (fun _ _ _ h => h) (Or.inl ⟨by rfl, ?_⟩) ?_ ?_
                      rotate_left
                      · intro w'
                        go_simp
                        with_reducible rfl
                      rotate_left
                      · simp only [Act.put, List.setIfInBounds_toArray, List.set_cons_zero, List.set_cons_succ, i64_w, i32_w]
                        rfl
                      refine pure_ (i := 5) (N := some 49) (v := ?_) (a' := ?_) #[true, true, true, false, true, true, false, false, false, false] rfl rfl (any_of HT_.out (by kernel_rfl)) (fun _ _ _ h => h) (Or.inl ⟨by rfl, ?_⟩) ?_ ?_
                      rotate_left
                      · intro w'
                        go_simp
                        with_reducible rfl
                      rotate_left
                      · simp only [Act.put, List.setIfInBounds_toArray, List.set_cons_zero, List.set_cons_succ, i64_w, i32_w]
                        rfl
                      refine take_ (i := 3) (N := some 47) (v := ?_) (a' := ?_) #[true, true, true, true, true, true, false, false, false, false] rfl rfl (take_ofW HT_.out HW_.out (by kernel_rfl)) (fun _ _ _ h => h) (Or.inl ⟨by rfl, ?_⟩) hHeld ?_ ?_
                      rotate_left
                      · intro w' s0
                        go_simp
                        with_reducible rfl
                      rotate_left
                      · simp only [Act.put, List.setIfInBounds_toArray, List.set_cons_zero, List.set_cons_succ, i64_w, i32_w]
                        rfl
                      refine pure_ (i := 6) (N := some 50) (v := ?_) (a' := ?_) #[true, true, true, true, true, true, true, false, false, false] rfl rfl (any_of HT_.out (by kernel_rfl)) (fun _ _ _ h => h) (Or.inl ⟨by rfl, ?_⟩) ?_ ?_
                      rotate_left
                      · intro w'
                        go_simp
                        with_reducible rfl
                      rotate_left
                      · simp only [Act.put, List.setIfInBounds_toArray, List.set_cons_zero, List.set_cons_succ, i64_w, i32_w]
                        rfl
                      refine last_ (i := 7) (N := some 51) #[true, true, true, true, true, true, true, true, false, false] rfl rfl (one_of HT_.out (by kernel_rfl)) (by decide) (fun K hK => ?_)
                      refine value_ (w1 := ?_) (v := ?_) (by rfl) rfl ?_ ?_
                      rotate_left 2
                      · go_simp
                        constructor
                        · rfl
                        · rfl
                      refine hK.out _ _ ?_
                      clear hK K
                      refine norm_ (a' := ?_) ?_ ?_
                      rotate_left
                      · show Act.put _ (some 51) _ = _
                        simp only [Act.put, List.setIfInBounds_toArray, List.set_cons_zero, List.set_cons_succ, i64_w, i32_w]
                        rfl
                      refine last_ (i := 8) (N := some 52) #[true, true, true, true, true, true, true, true, true, false] rfl rfl (one_of HT_.out (by kernel_rfl)) (by decide) (fun K hK => ?_)
                      refine Kd.N_append_step k66 (w0 := w) w.heap.size (by rfl) (.tmp 44) (.tmp 51) 31 66 (.agg #[(.string ⟨#[]⟩), (.slice none 0 0)]) 40 rfl Try.underlying31 info66 rfl (by decide) (by omega) u7 x7_1 (⟨rdOf ByteArray.empty t178 0, y184⟩ : S66) [.string (rdOf ByteArray.empty t178 0), .slice A24 y184.length c24] (fun k_ => (w.heap.size ≤ k_)) (fun k_ => ((fun k_ => (w.heap.size ≤ k_))) k_ ∧ some k_ ≠ (u7 : Value).ownBlock) rfl rfl ?aP (fun _ hk => hk) ?aF ?aO ?aB ?aS ?aL ?_
                      (case aP => exact (k66_mkF _ _ (⟨rdOf ByteArray.empty t178 0, y184⟩ : S66) (Kd.V_reads' (Kd.V_mono (ok' := (fun k_ => ((fun k_ => (w.heap.size ≤ k_))) k_ ∧ some k_ ≠ (u7 : Value).ownBlock)) (HO188.out) (fun k_ hk => ⟨hk.1.1, hk.2⟩))).2.1 (Kd.V_F (Kd.V_mono (ok' := (fun k_ => ((fun k_ => (w.heap.size ≤ k_))) k_ ∧ some k_ ≠ (u7 : Value).ownBlock)) (HO188.out) (fun k_ hk => ⟨hk.1.1, hk.2⟩)))))
                      (case aB => exact (by repeat (first | (with_reducible first | exact HB.out | apply below_alloc | apply pw_below_drewN | apply below_drew1) | exact HB.out)))
                      (case aF => exact (fun k_ hk => (Nat.le_trans (below_size (by repeat (first | (with_reducible first | exact HB.out | apply below_alloc | apply pw_below_drewN | apply below_drew1) | exact HB.out))) hk)))
                      (case aO => exact (by (with_reducible repeat (first | apply Kd.N_alloc | apply Kd.N_drewN | apply Kd.N_drew)); exact Kd.N_mono HO_7.out (fun _ hk => hk.1)))
                      (case aS => exact (below_size (by repeat (first | (with_reducible first | exact HB.out | apply below_alloc | apply pw_below_drewN | apply below_drew1) | exact HB.out))))
                      (case aL => have := LMc11.out; omega)
                      intro v190 w25 ho hb hg hat
                      rw [← Ny189.out] at ho
                      have n0_ := Aside0.mk (Kd.R_over' (by (with_reducible repeat (first | apply Kd.R_alloc | apply Kd.R_drewN | apply Kd.R_drew)); exact HO182.out) (Kd.N_typed (by (with_reducible repeat (first | apply Kd.N_alloc | apply Kd.N_drewN | apply Kd.N_drew)); exact HO_7.out)) (by decide) hg)
                      have n1_ := Aside0.mk (Kd.V_afterv (ok := (fun k_ => (w.heap.size ≤ k_))) (by (with_reducible repeat (first | apply Kd.V_alloc | apply Kd.V_drewN | apply Kd.V_drew)); exact Kd.V_mono HO188.out (fun _ hk => ⟨hk.1.1, hk.2⟩)) hg hat)
                      have n2_ := Aside0.mk (hb)
                      have n3_ := Aside0.mk (ho)
                      clear HO182
                      clear HO188
                      clear HB
                      clear HO_7
                      have HO182 := n0_
                      have HO188 := n1_
                      have HB := n2_
                      have HO191 := n3_
                      clear n0_ n1_ n2_ n3_
                      clear ho hb hg hat
                      refine hK.out _ _ ?_
                      clear hK K
                      refine norm_ (a' := ?_) ?_ ?_
                      rotate_left
                      · show Act.put _ (some 52) _ = _
                        simp only [Act.put, List.setIfInBounds_toArray, List.set_cons_zero, List.set_cons_succ, i64_w, i32_w]
                        rfl
                      refine pure_ (i := 9) (N := some 7) (v := ?_) (a' := ?_) #[true, true, true, true, true, true, true, true, true, true] rfl rfl (any_of HT_.out (by kernel_rfl)) (fun _ _ _ h => h) (Or.inl ⟨by rfl, ?_⟩) ?_ ?_
                      rotate_left
                      · intro w'
                        go_simp
                        with_reducible rfl
                      rotate_left
                      · simp only [Act.put, List.setIfInBounds_toArray, List.set_cons_zero, List.set_cons_succ, i64_w, i32_w]
                        rfl
                      refine done_ (done_of HT_.out (by kernel_rfl)) ?_
                      try go_wp2_with (first | ((with_reducible refine gate_callee (f := 23) rfl ?_); refine goesL_ (some 57) rfl rfl Try.func23 (by kernel_rfl) rfl #[.string a0, .int .i64 t179, .string (⟨#[93]⟩ : ByteArray)] rfl (by (try simp only [List.map_toArray, List.map_cons, List.map_nil]); first | done | rfl | (simp only [List.length_drop, List.length_take]; rfl)) ?_; (with_reducible refine (depotref21_word.calls k1 a0 t179 (⟨#[93]⟩ : ByteArray) t192 false _ A12.out).mono ?_); rintro e w' ⟨rfl, ⟨nd, rfl⟩⟩; refine ⟨_, rfl, ?_⟩) | ((with_reducible refine gate_callee (f := 23) rfl ?_); refine goesL_ (some 66) rfl rfl Try.func23 (by kernel_rfl) rfl #[.string a0, .int .i64 t179, .string (⟨#[44]⟩ : ByteArray)] rfl (by (try simp only [List.map_toArray, List.map_cons, List.map_nil]); first | done | rfl | (simp only [List.length_drop, List.length_take]; rfl)) ?_; (with_reducible refine (depotref21_word.calls k1 a0 t179 (⟨#[44]⟩ : ByteArray) t194 true _ A19.out).mono ?_); rintro e w' ⟨rfl, ⟨nd, rfl⟩⟩; refine ⟨_, rfl, ?_⟩))
                      go_roundg k1
                      case measure => have := HK1.out; omega
                      case rel => exact ⟨(t194), (y189), (by first | rfl | (simp; done) | (simp [*]; done)), H', ⟨by have := HK1.out; omega⟩, ⟨by (with_reducible repeat (first | apply Kd.N_alloc | apply Kd.N_drewN | apply Kd.N_drew)); exact HO191.out⟩, ⟨by repeat (first | (with_reducible first | exact HB.out | apply below_alloc | apply pw_below_drewN | apply below_drew1) | exact HB.out)⟩⟩
                    · replace c20 := Bool.eq_false_iff.mpr c20
                      subst c20
                      have H1 : (some (([] : List (S66)), t194, false)) = some (r1, r2, r3) := by rw [if_neg (show ¬ (false = true) by decide)] at H; exact H
                      clear H
                      have H := H1
                      clear H1
                      simp only [Option.some.injEq, Prod.mk.injEq] at H
                      obtain ⟨rfl, rfl, rfl⟩ := H
                      try go_wp2_with (first | ((with_reducible refine gate_callee (f := 23) rfl ?_); refine goesL_ (some 28) rfl rfl Try.func23 (by kernel_rfl) rfl #[.string a0, .int .i64 x1_1, .string (⟨#[40]⟩ : ByteArray)] rfl (by (try simp only [List.map_toArray, List.map_cons, List.map_nil]); first | done | rfl | (simp only [List.length_drop, List.length_take]; rfl)) ?_; (with_reducible refine (depotref21_word.calls k1 a0 x1_1 (⟨#[40]⟩ : ByteArray) t176 true _ A5.out).mono ?_); rintro e w' ⟨rfl, ⟨nd, rfl⟩⟩; refine ⟨_, rfl, ?_⟩) | ((with_reducible refine gate_callee (f := 25) rfl ?_); refine goesL_ (some 37) rfl rfl Try.func25 (by kernel_rfl) rfl #[.string a0, .int .i64 t176, .string (⟨#[41]⟩ : ByteArray), .bool false] rfl (by (try simp only [List.map_toArray, List.map_cons, List.map_nil]); first | done | rfl | (simp only [List.length_drop, List.length_take]; rfl)) ?_; (with_reducible refine (depotref21_strs.calls k1 a0 t176 (⟨#[41]⟩ : ByteArray) false t178 t179 true _ A7.out).mono ?_); rintro e w26 ⟨v181, rfl, ho0, hb⟩; refine ⟨_, rfl, ?_⟩; have n0_ := Aside0.mk (Kd.N_elder' (by (with_reducible repeat (first | apply Kd.N_alloc | apply Kd.N_drewN | apply Kd.N_drew)); exact HO_7.out) (Kd.R_base ho0) hb); have n1_ := Aside0.mk (Kd.R_lower (Kd.R_newM (M := fun k_ => (w.heap.size ≤ k_)) ho0 (below_size (by repeat (first | (with_reducible first | exact HB.out | apply below_alloc | apply pw_below_drewN | apply below_drew1) | exact HB.out))) (fun k_ h_ => h_)) (below_size (by repeat (first | (with_reducible first | exact HB.out | apply below_alloc | apply pw_below_drewN | apply below_drew1) | exact HB.out)))); have n2_ := Aside0.mk (below_step (by repeat (first | (with_reducible first | exact HB.out | apply below_alloc | apply pw_below_drewN | apply below_drew1) | exact HB.out)) hb); clear HO_7; clear HB; have HO_7 := n0_; have HO182 := n1_; have HB := n2_; clear n0_ n1_ n2_; (try clear hb); (try clear hb2); (try clear hk); (try clear hi); (try clear ho0)))
                      have n0_ := Aside0.mk (Kd.N_drew HO_7.out)
                      have n1_ := Aside0.mk (Kd.R_drew HO182.out)
                      have n2_ := Aside0.mk (below_drew1 HB.out)
                      clear HO_7
                      clear HO182
                      clear HB
                      have HO_7 := n0_
                      have HO182 := n1_
                      have HB := n2_
                      clear n0_ n1_ n2_
                      obtain ⟨Ao28, co28, eo28⟩ := Kd.R_slice HO182.out
                      (first | subst eo28 | (injection eo28 with f1_ f2_ f3_; have f4_ := f1_.symm; have f5_ := f3_.symm; clear f1_ f2_ f3_; subst f4_; subst f5_))
                      have p183 : 0 ≤ (0 : Int) := (by omega)
                      have q183 : 0 < (t178.length : Int) := of_decide_eq_true (by first | (with_reducible assumption) | assumption)
                      obtain ⟨ad183, e183, hx183_0⟩ := Kd.at_string (Kd.R_reads' HO182.out).2.2 0 p183 q183
                      cases e183
                      have qi183 : (0 < t178.length) = True := eq_true (by omega)
                      (try rw [show ((0 : Int)).toNat = 0 from rfl] at hx183_0)
                      (try rw [Addr.add_zero'] at hx183_0)
                      replace p183 := eq_true p183
                      replace q183 := eq_true q183
                      have q29 : (1 : Int) ≤ ((t178.length : Int) : Int) := of_decide_eq_true (by first | (with_reducible assumption) | assumption)
                      obtain ⟨i029, hi029, _, hsz29, _⟩ := info_parts info9
                      have hroom29 : t178.length ≤ co28 := (Kd.R_reads' HO182.out).2.1
                      have hC29 : Kd.F Kd.string _ _ (some ad183) t178.length t178 := (Kd.V_at (base := w.heap.size) (Kd.R_V (Kd.R_apart' (HO182.out) (Kd.N_typed HO_7.out) (by decide)))).2.2
                      have hcut29 := cut_from (P := Try.prog) 23 9 .i64 Try.underlying23 hi029 1 hsz29 (some ad183) t178.length co28 1 (by omega) q29
                      have hr29 := Kd.F_cut (m := (1 : Int).toNat) (c := co28) hC29 (by omega) hroom29
                      obtain ⟨A29, hA29⟩ : ∃ A1, A1 = (if co28 = (1 : Int).toNat then (some ad183) else ((some ad183) : Option Addr).map (·.add ((1 : Int).toNat * 1))) := ⟨_, rfl⟩
                      obtain ⟨c29, hc29⟩ : ∃ c1, c1 = co28 - (1 : Int).toNat := ⟨_, rfl⟩
                      have hy29 : y184.length = t178.length - (1 : Int).toNat := (by rw [Ny184.out, List.length_drop] <;> omega)
                      rw [show (t178).drop (1 : Int).toNat = y184 from Ny184.out.symm] at hr29
                      replace hr29 : Kd.F Kd.string _ _ A29 y184.length y184 := (by rw [hA29]; exact hr29)
                      rw [← hy29, ← hA29, ← hc29] at hcut29
                      have HO188 := Aside0.mk (show Kd.V Kd.string 9 _ w.heap.size _ (.slice A29 y184.length c29) y184 from Kd.V_mk (by rw [hy29, hc29]; exact Nat.sub_le_sub_right hroom29 _) hr29)
                      have HC188 := Aside0.mk (show y184.length ≤ c29 from by rw [hy29, hc29]; exact Nat.sub_le_sub_right hroom29 _)
                      clear hr29 hC29 hroom29 hi029 hsz29 hc29
                      have KY29 := Aside0.mk hy29
                      have KA29 := Aside0.mk hA29
                      clear hy29 hA29
                      replace q29 := eq_true q29
                      refine start_ (n := 10) (S := fun w' => w'.cell? ad183 = some (.string (rdOf ByteArray.empty t178 0))) (ds := [7, 8]) #[false, false, false, false, false, false, false, false, false, false] (by kernel_rfl) rfl rfl (hx183_0) (fun hHeld => ?_); refine with_tabW depotref21_steps.tab11 depotref21_steps.bits11 (fun HT_ HW_ => ?_)
                      generalize w26.drew = w27 at HO_7 HO182 HB HO188 hx183_0 hHeld ⊢
                      refine pure_ (i := 0) (N := some 44) (v := ?_) (a' := ?_) #[true, false, false, false, false, false, false, false, false, false] rfl rfl (any_of HT_.out (by kernel_rfl)) (fun _ _ _ h => h) (Or.inl ⟨by rfl, ?_⟩) ?_ ?_
                      rotate_left
                      · intro w'
                        go_simp
                        with_reducible rfl
                      rotate_left
                      · simp only [Act.put, List.setIfInBounds_toArray, List.set_cons_zero, List.set_cons_succ, i64_w, i32_w]
                        rfl
                      refine pure_ (i := 1) (N := some 45) (v := ?_) (a' := ?_) #[true, true, false, false, false, false, false, false, false, false] rfl rfl (any_of HT_.out (by kernel_rfl)) (fun _ _ _ h => h) (Or.inl ⟨by rfl, ?_⟩) ?_ ?_
                      rotate_left
                      · intro w'
                        go_simp
                        with_reducible rfl
                      rotate_left
                      · simp only [Act.put, List.setIfInBounds_toArray, List.set_cons_zero, List.set_cons_succ, i64_w, i32_w]
                        rfl
                      refine pure_ (i := 2) (N := some 46) (v := ?_) (a' := ?_) #[true, true, true, false, false, false, false, false, false, false] rfl rfl (any_of HT_.out (by kernel_rfl)) (fun _ _ _ h => h) (Or.inl ⟨by rfl, ?_⟩) ?_ ?_
                      rotate_left
                      · intro w'
                        go_simp
                        with_reducible rfl
                      rotate_left
                      · simp only [Act.put, List.setIfInBounds_toArray, List.set_cons_zero, List.set_cons_succ, i64_w, i32_w]
                        rfl
                      refine pure_ (i := 4) (N := some 48) (v := ?_) (a' := ?_) #[true, true, true, false, true, false, false, false, false, false] rfl rfl (any_of HT_.out (by kernel_rfl)) (fun _ _ _ h => h) (Or.inl ⟨by rfl, ?_⟩) ?_ ?_
                      rotate_left
                      · intro w'
                        go_simp
                        with_reducible rfl
                      rotate_left
                      · simp only [Act.put, List.setIfInBounds_toArray, List.set_cons_zero, List.set_cons_succ, i64_w, i32_w]
                        rfl
                      refine pure_ (i := 5) (N := some 49) (v := ?_) (a' := ?_) #[true, true, true, false, true, true, false, false, false, false] rfl rfl (any_of HT_.out (by kernel_rfl)) (fun _ _ _ h => h) (Or.inl ⟨by rfl, ?_⟩) ?_ ?_
                      rotate_left
                      · intro w'
                        go_simp
                        with_reducible rfl
                      rotate_left
                      · simp only [Act.put, List.setIfInBounds_toArray, List.set_cons_zero, List.set_cons_succ, i64_w, i32_w]
                        rfl
                      refine take_ (i := 3) (N := some 47) (v := ?_) (a' := ?_) #[true, true, true, true, true, true, false, false, false, false] rfl rfl (take_ofW HT_.out HW_.out (by kernel_rfl)) (fun _ _ _ h => h) (Or.inl ⟨by rfl, ?_⟩) hHeld ?_ ?_
                      rotate_left
                      · intro w' s0
                        go_simp
                        with_reducible rfl
                      rotate_left
                      · simp only [Act.put, List.setIfInBounds_toArray, List.set_cons_zero, List.set_cons_succ, i64_w, i32_w]
                        rfl
                      refine pure_ (i := 6) (N := some 50) (v := ?_) (a' := ?_) #[true, true, true, true, true, true, true, false, false, false] rfl rfl (any_of HT_.out (by kernel_rfl)) (fun _ _ _ h => h) (Or.inl ⟨by rfl, ?_⟩) ?_ ?_
                      rotate_left
                      · intro w'
                        go_simp
                        with_reducible rfl
                      rotate_left
                      · simp only [Act.put, List.setIfInBounds_toArray, List.set_cons_zero, List.set_cons_succ, i64_w, i32_w]
                        rfl
                      refine last_ (i := 7) (N := some 51) #[true, true, true, true, true, true, true, true, false, false] rfl rfl (one_of HT_.out (by kernel_rfl)) (by decide) (fun K hK => ?_)
                      refine value_ (w1 := ?_) (v := ?_) (by rfl) rfl ?_ ?_
                      rotate_left 2
                      · go_simp
                        constructor
                        · rfl
                        · rfl
                      refine hK.out _ _ ?_
                      clear hK K
                      refine norm_ (a' := ?_) ?_ ?_
                      rotate_left
                      · show Act.put _ (some 51) _ = _
                        simp only [Act.put, List.setIfInBounds_toArray, List.set_cons_zero, List.set_cons_succ, i64_w, i32_w]
                        rfl
                      refine last_ (i := 8) (N := some 52) #[true, true, true, true, true, true, true, true, true, false] rfl rfl (one_of HT_.out (by kernel_rfl)) (by decide) (fun K hK => ?_)
                      refine Kd.N_append_step k66 (w0 := w) w.heap.size (by rfl) (.tmp 44) (.tmp 51) 31 66 (.agg #[(.string ⟨#[]⟩), (.slice none 0 0)]) 40 rfl Try.underlying31 info66 rfl (by decide) (by omega) u7 x7_1 (⟨rdOf ByteArray.empty t178 0, y184⟩ : S66) [.string (rdOf ByteArray.empty t178 0), .slice A29 y184.length c29] (fun k_ => (w.heap.size ≤ k_)) (fun k_ => ((fun k_ => (w.heap.size ≤ k_))) k_ ∧ some k_ ≠ (u7 : Value).ownBlock) rfl rfl ?aP (fun _ hk => hk) ?aF ?aO ?aB ?aS ?aL ?_
                      (case aP => exact (k66_mkF _ _ (⟨rdOf ByteArray.empty t178 0, y184⟩ : S66) (Kd.V_reads' (Kd.V_mono (ok' := (fun k_ => ((fun k_ => (w.heap.size ≤ k_))) k_ ∧ some k_ ≠ (u7 : Value).ownBlock)) (HO188.out) (fun k_ hk => ⟨hk.1.1, hk.2⟩))).2.1 (Kd.V_F (Kd.V_mono (ok' := (fun k_ => ((fun k_ => (w.heap.size ≤ k_))) k_ ∧ some k_ ≠ (u7 : Value).ownBlock)) (HO188.out) (fun k_ hk => ⟨hk.1.1, hk.2⟩)))))
                      (case aB => exact (by repeat (first | (with_reducible first | exact HB.out | apply below_alloc | apply pw_below_drewN | apply below_drew1) | exact HB.out)))
                      (case aF => exact (fun k_ hk => (Nat.le_trans (below_size (by repeat (first | (with_reducible first | exact HB.out | apply below_alloc | apply pw_below_drewN | apply below_drew1) | exact HB.out))) hk)))
                      (case aO => exact (by (with_reducible repeat (first | apply Kd.N_alloc | apply Kd.N_drewN | apply Kd.N_drew)); exact Kd.N_mono HO_7.out (fun _ hk => hk.1)))
                      (case aS => exact (below_size (by repeat (first | (with_reducible first | exact HB.out | apply below_alloc | apply pw_below_drewN | apply below_drew1) | exact HB.out))))
                      (case aL => have := LMc11.out; omega)
                      intro v190 w30 ho hb hg hat
                      rw [← Ny189.out] at ho
                      have n0_ := Aside0.mk (Kd.R_over' (by (with_reducible repeat (first | apply Kd.R_alloc | apply Kd.R_drewN | apply Kd.R_drew)); exact HO182.out) (Kd.N_typed (by (with_reducible repeat (first | apply Kd.N_alloc | apply Kd.N_drewN | apply Kd.N_drew)); exact HO_7.out)) (by decide) hg)
                      have n1_ := Aside0.mk (Kd.V_afterv (ok := (fun k_ => (w.heap.size ≤ k_))) (by (with_reducible repeat (first | apply Kd.V_alloc | apply Kd.V_drewN | apply Kd.V_drew)); exact Kd.V_mono HO188.out (fun _ hk => ⟨hk.1.1, hk.2⟩)) hg hat)
                      have n2_ := Aside0.mk (hb)
                      have n3_ := Aside0.mk (ho)
                      clear HO182
                      clear HO188
                      clear HB
                      clear HO_7
                      have HO182 := n0_
                      have HO188 := n1_
                      have HB := n2_
                      have HO191 := n3_
                      clear n0_ n1_ n2_ n3_
                      clear ho hb hg hat
                      refine hK.out _ _ ?_
                      clear hK K
                      refine norm_ (a' := ?_) ?_ ?_
                      rotate_left
                      · show Act.put _ (some 52) _ = _
                        simp only [Act.put, List.setIfInBounds_toArray, List.set_cons_zero, List.set_cons_succ, i64_w, i32_w]
                        rfl
                      refine pure_ (i := 9) (N := some 7) (v := ?_) (a' := ?_) #[true, true, true, true, true, true, true, true, true, true] rfl rfl (any_of HT_.out (by kernel_rfl)) (fun _ _ _ h => h) (Or.inl ⟨by rfl, ?_⟩) ?_ ?_
                      rotate_left
                      · intro w'
                        go_simp
                        with_reducible rfl
                      rotate_left
                      · simp only [Act.put, List.setIfInBounds_toArray, List.set_cons_zero, List.set_cons_succ, i64_w, i32_w]
                        rfl
                      refine done_ (done_of HT_.out (by kernel_rfl)) ?_
                      try go_wp2_with (first | ((with_reducible refine gate_callee (f := 23) rfl ?_); refine goesL_ (some 57) rfl rfl Try.func23 (by kernel_rfl) rfl #[.string a0, .int .i64 t179, .string (⟨#[93]⟩ : ByteArray)] rfl (by (try simp only [List.map_toArray, List.map_cons, List.map_nil]); first | done | rfl | (simp only [List.length_drop, List.length_take]; rfl)) ?_; (with_reducible refine (depotref21_word.calls k1 a0 t179 (⟨#[93]⟩ : ByteArray) t192 false _ A12.out).mono ?_); rintro e w' ⟨rfl, ⟨nd, rfl⟩⟩; refine ⟨_, rfl, ?_⟩) | ((with_reducible refine gate_callee (f := 23) rfl ?_); refine goesL_ (some 66) rfl rfl Try.func23 (by kernel_rfl) rfl #[.string a0, .int .i64 t179, .string (⟨#[44]⟩ : ByteArray)] rfl (by (try simp only [List.map_toArray, List.map_cons, List.map_nil]); first | done | rfl | (simp only [List.length_drop, List.length_take]; rfl)) ?_; (with_reducible refine (depotref21_word.calls k1 a0 t179 (⟨#[44]⟩ : ByteArray) t194 false _ A19.out).mono ?_); rintro e w' ⟨rfl, ⟨nd, rfl⟩⟩; refine ⟨_, rfl, ?_⟩))
                      go_ret3
                      exact ⟨_, by first | rfl | (simp [errW_none, errW_some] <;> rfl) | (simp [*, errW_none, errW_some] <;> rfl), by first | exact Kd.S_nil _ _ _ _ _ | exact Kd.N_nil _ _ _ _ _ | exact Kd.V_nil _ _ _ _ _ | exact Kd.Q_nil _ _ _ _ _ | exact Kd.R_nil _ _ _ _ _, by repeat (first | (with_reducible first | exact HB.out | apply below_alloc | apply pw_below_drewN | apply below_drew1) | exact HB.out)⟩
                · rw [if_neg c11] at H
                  exact absurd H (by simp)
              · rw [if_neg c10] at H
                exact absurd H (by simp)
            · rw [if_neg c9] at H
              exact absurd H (by simp)
          · replace c8 := Bool.eq_false_iff.mpr c8
            subst c8
            have H1 : (some (([] : List (S66)), t179, false)) = some (r1, r2, r3) := by rw [if_neg (show ¬ (false = true) by decide)] at H; exact H
            clear H
            have H := H1
            clear H1
            simp only [Option.some.injEq, Prod.mk.injEq] at H
            obtain ⟨rfl, rfl, rfl⟩ := H
            go_wp2_with (first | ((with_reducible refine gate_callee (f := 23) rfl ?_); refine goesL_ (some 28) rfl rfl Try.func23 (by kernel_rfl) rfl #[.string a0, .int .i64 x1_1, .string (⟨#[40]⟩ : ByteArray)] rfl (by (try simp only [List.map_toArray, List.map_cons, List.map_nil]); first | done | rfl | (simp only [List.length_drop, List.length_take]; rfl)) ?_; (with_reducible refine (depotref21_word.calls k1 a0 x1_1 (⟨#[40]⟩ : ByteArray) t176 true _ A5.out).mono ?_); rintro e w' ⟨rfl, ⟨nd, rfl⟩⟩; refine ⟨_, rfl, ?_⟩) | ((with_reducible refine gate_callee (f := 25) rfl ?_); refine goesL_ (some 37) rfl rfl Try.func25 (by kernel_rfl) rfl #[.string a0, .int .i64 t176, .string (⟨#[41]⟩ : ByteArray), .bool false] rfl (by (try simp only [List.map_toArray, List.map_cons, List.map_nil]); first | done | rfl | (simp only [List.length_drop, List.length_take]; rfl)) ?_; (with_reducible refine (depotref21_strs.calls k1 a0 t176 (⟨#[41]⟩ : ByteArray) false t178 t179 false _ A7.out).mono ?_); rintro e w31 ⟨v181, rfl, ho0, hb⟩; refine ⟨_, rfl, ?_⟩; have n0_ := Aside0.mk (Kd.N_elder' (by (with_reducible repeat (first | apply Kd.N_alloc | apply Kd.N_drewN | apply Kd.N_drew)); exact HO_7.out) (Kd.R_base ho0) hb); have n1_ := Aside0.mk (Kd.R_lower (Kd.R_newM (M := fun k_ => (w.heap.size ≤ k_)) ho0 (below_size (by repeat (first | (with_reducible first | exact HB.out | apply below_alloc | apply pw_below_drewN | apply below_drew1) | exact HB.out))) (fun k_ h_ => h_)) (below_size (by repeat (first | (with_reducible first | exact HB.out | apply below_alloc | apply pw_below_drewN | apply below_drew1) | exact HB.out)))); have n2_ := Aside0.mk (below_step (by repeat (first | (with_reducible first | exact HB.out | apply below_alloc | apply pw_below_drewN | apply below_drew1) | exact HB.out)) hb); clear HO_7; clear HB; have HO_7 := n0_; have HO182 := n1_; have HB := n2_; clear n0_ n1_ n2_; (try clear hb); (try clear hb2); (try clear hk); (try clear hi); (try clear ho0)))
            go_ret3
            exact ⟨_, by first | rfl | (simp [errW_none, errW_some] <;> rfl) | (simp [*, errW_none, errW_some] <;> rfl), by first | exact Kd.S_nil _ _ _ _ _ | exact Kd.N_nil _ _ _ _ _ | exact Kd.V_nil _ _ _ _ _ | exact Kd.Q_nil _ _ _ _ _ | exact Kd.R_nil _ _ _ _ _, by repeat (first | (with_reducible first | exact HB.out | apply below_alloc | apply pw_below_drewN | apply below_drew1) | exact HB.out)⟩
        · replace c6 := Bool.eq_false_iff.mpr c6
          subst c6
          have H1 : (some (([] : List (S66)), t176, false)) = some (r1, r2, r3) := by rw [if_neg (show ¬ (false = true) by decide)] at H; exact H
          clear H
          have H := H1
          clear H1
          simp only [Option.some.injEq, Prod.mk.injEq] at H
          obtain ⟨rfl, rfl, rfl⟩ := H
          go_wp2_with (first | ((with_reducible refine gate_callee (f := 23) rfl ?_); refine goesL_ (some 28) rfl rfl Try.func23 (by kernel_rfl) rfl #[.string a0, .int .i64 x1_1, .string (⟨#[40]⟩ : ByteArray)] rfl (by (try simp only [List.map_toArray, List.map_cons, List.map_nil]); first | done | rfl | (simp only [List.length_drop, List.length_take]; rfl)) ?_; (with_reducible refine (depotref21_word.calls k1 a0 x1_1 (⟨#[40]⟩ : ByteArray) t176 false _ A5.out).mono ?_); rintro e w' ⟨rfl, ⟨nd, rfl⟩⟩; refine ⟨_, rfl, ?_⟩))
          go_ret3
          exact ⟨_, by first | rfl | (simp [errW_none, errW_some] <;> rfl) | (simp [*, errW_none, errW_some] <;> rfl), by first | exact Kd.S_nil _ _ _ _ _ | exact Kd.N_nil _ _ _ _ _ | exact Kd.V_nil _ _ _ _ _ | exact Kd.Q_nil _ _ _ _ _ | exact Kd.R_nil _ _ _ _ _, by repeat (first | (with_reducible first | exact HB.out | apply below_alloc | apply pw_below_drewN | apply below_drew1) | exact HB.out)⟩

end Go.Proofs.Ytdkkgeibifpgiaa.Q
