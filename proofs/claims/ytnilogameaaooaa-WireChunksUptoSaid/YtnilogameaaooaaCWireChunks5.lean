/- Texts of this claim, put together: RefRead, Q31, Q32, Whole, Alike, PureWireChunks, Opens. -/
import Derived.Test.YtnilogameaaooaaCWireChunks4
import Derived.Test.YtnilogameaaooaaCWireChunks2
import Derived.Test.YtnilogameaaooaaCWireChunks1
import Derived.Test.YtnilogameaaooaaCWireChunks3
import Derived.Test.YtnilogameaaooaaRows
import Derived.Test.YtnilogameaaooaaWWords
import Derived.Test.YtnilogameaaooaaWLast
import Derived.Deep.Slices
import Derived.ProofKit
import Derived.SizedLaws
/- depotref03.Read is parse, too. -/
set_option linter.unusedVariables false
set_option linter.unusedSimpArgs false
namespace Go.Proofs.Ytnilogameaaooaa.Pure
open Go.RowKit Go.Proofs.Ytnilogameaaooaa.Q Go.Proofs.Ytnilogameaaooaa.Rdr Go.Proofs.Ytnilogameaaooaa.Tail Go.Proofs.YtnilogameaaooaaW.PrintWords Go.Proofs.YtnilogameaaooaaW.PrintLast Go.Proofs.YtnilogameaaooaaW.PrintMore Go.Proofs.Ytnilogameaaooaa.Bytes Go.Proofs.Ytnilogameaaooaa.Evs

def to78 (x : S55) : S78 := ⟨x.f0, x.f1, x.f2⟩
theorem ext_nums (s : ByteArray) (i n : Nat) : s.extract i (i + n) = strOfNums (((numsOf s).drop i).take n) := by
  apply bs_inj
  rw [bs_extract, bs_strOfNums, List.map_take, List.map_drop, bs_numsOf, Nat.add_sub_cancel_left]
theorem read_ev (text plan : ByteArray) (m : Int) (hs : text.size ≤ 1099511627776) (hp : plan.size ≤ 1099511627776) (h0 : 0 ≤ m) (h1 : m ≤ 9223372036854775807) :
    ∀ (l : List UInt8) (i a : Nat) (its : List S78), (bs plan).drop i = l → i ≤ plan.size → a ≤ text.size → its.length = i → (∀ c ∈ l, c = 105 ∨ c = 116) →
    Ev (fun k => depotref03_Read.l0 k text plan m (a : Int) (i : Int) its 0 0 0) (its ++ (parse m l ((numsOf text).drop a) (a : Int)).1.map to78, (parse m l ((numsOf text).drop a) (a : Int)).2.1, (parse m l ((numsOf text).drop a) (a : Int)).2.2.1, (parse m l ((numsOf text).drop a) (a : Int)).2.2.2) := by
  intro l
  induction l with
  | nil =>
    intro i a its hl hi ha hlen _
    have hie : i = plan.size := by
      have := congrArg List.length hl
      rw [List.length_drop, ← size_bs] at this
      simp at this
      omega
    apply succ
    simp only [depotref03_Read.l0, parse]
    refine neg (by omega) ?_
    by_cases he : a < text.size
    · have hne : (numsOf text).drop a ≠ [] := fun q => by have := congrArg List.length q; rw [List.length_drop, numsOf_len] at this; simp at this; omega
      rw [if_neg hne]
      exact pos (by omega) (now (by simp))
    · have hne : (numsOf text).drop a = [] := List.drop_of_length_le (by rw [numsOf_len]; omega)
      rw [if_pos hne]
      exact neg (by omega) (now (by simp))
  | cons c l ih =>
    intro i a its hl hi ha hlen hlet
    have hlt : i < (bs plan).length := by
      have := congrArg List.length hl
      rw [List.length_drop, List.length_cons] at this
      omega
    have hip : i < plan.size := by rw [size_bs]; exact hlt
    have hcd := List.drop_eq_getElem_cons hlt
    rw [hl] at hcd
    have hce : c = (bs plan)[i] := (List.cons.inj hcd).1
    have hle : (bs plan).drop (i + 1) = l := (List.cons.inj hcd).2.symm
    have HBT := Aside0.mk (show bt plan (i : Int) = (c.toNat : Int) by
      have hg : (bs plan).getD i 0 = c := by rw [List.getD_eq_getElem?_getD, List.getElem?_eq_getElem hlt]; exact hce.symm
      rw [bt_bs, Int.toNat_natCast, hg])
    clear hcd hl hce
    have hbl : ((numsOf text).drop a).length = text.size - a := by rw [List.length_drop, numsOf_len]
    apply succ
    simp only [depotref03_Read.l0, parse]
    refine pos (by omega) (pos (by omega) ?_)
    have hw : wrap64 ((i : Int) + 1) = ((i + 1 : Nat) : Int) := wr i (by omega)
    rw [hw, HBT.out]
    by_cases hc5 : c = 105
    · refine pos (by rw [hc5]; rfl) ?_
      rw [if_pos hc5, w64 (x := (text.size : Int) - 8) (by omega) (by omega)]
      by_cases h8 : text.size < a + 8
      · rw [if_pos (by rw [hbl]; omega)]
        refine pos (by omega) (now ?_)
        have : (a : Int) + (((numsOf text).drop a).length : Int) = (text.size : Int) := by rw [hbl]; omega
        rw [this, List.map_nil, List.append_nil]
      · rw [if_neg (by rw [hbl]; omega)]
        refine neg (by omega) (Ev.bind (num_ev text a (by omega) hs) (pos (by omega) ?_))
        have e1 : wrap64 ((a : Int) + 8) = ((a + 8 : Nat) : Int) := by rw [w64 (by omega) (by omega)]; omega
        rw [e1]
        have hlet2 : ∀ d ∈ l, d = 105 ∨ d = 116 := fun d hd => hlet d (List.mem_cons_of_mem _ hd)
        have := ih (i + 1) (a + 8) (its ++ [⟨true, val (((numsOf text).drop a).take 8), ⟨#[]⟩⟩]) hle hip (Nat.le_of_not_lt h8) (by rw [List.length_append, hlen]; rfl) hlet2
        have e2 : ((a + 8 : Nat) : Int) = (a : Int) + 8 := by omega
        rw [List.drop_drop]
        rw [e2] at this ⊢
        refine same ?_ this
        rw [List.map_cons, List.append_assoc]
        rfl
    · have hc6 : c = 116 := (hlet c List.mem_cons_self).resolve_left hc5
      refine neg (fun q => hc5 ((byte_eq_iff c 105).1 q)) (Ev.bind (one_ev text a m ha hs h0 h1) ?_)
      rw [if_neg hc5]
      unfold oneR
      by_cases h8 : text.size < a + 8
      · rw [if_pos h8, if_pos (by rw [hbl]; omega)]
        refine pos (show (-1 : Int) < 0 by decide) (now ?_)
        have : (a : Int) + (((numsOf text).drop a).length : Int) = (text.size : Int) := by rw [hbl]; omega
        rw [this, List.map_nil, List.append_nil]
      · rw [if_neg h8, if_neg (show ¬ ((numsOf text).drop a).length < 8 by rw [hbl]; omega)]
        have hV := val_nonneg _ (byts_take (byts_drop (byts_text text) a) 8)
        generalize val (((numsOf text).drop a).take 8) = V at hV ⊢
        obtain ⟨n, rfl⟩ := Int.eq_ofNat_of_zero_le hV
        by_cases hlong : m < (n : Int)
        · rw [if_pos hlong, if_pos hlong]
          exact pos (show (-1 : Int) < 0 by decide) (now (by rw [List.map_nil, List.append_nil]))
        · rw [if_neg hlong, if_neg hlong, Int.toNat_natCast]
          have d8 : List.drop 8 (List.drop a (numsOf text)) = List.drop (a + 8) (numsOf text) := by rw [List.drop_drop]
          have dn : List.drop n (List.drop (a + 8) (numsOf text)) = List.drop (a + 8 + n) (numsOf text) := by rw [List.drop_drop]
          have dp : List.drop (n + padOf n) (List.drop (a + 8) (numsOf text)) = List.drop (a + 8 + n + padOf n) (numsOf text) := by rw [List.drop_drop, Nat.add_assoc (a + 8)]
          have dl : (List.drop (a + 8) (numsOf text)).length = text.size - a - 8 := by rw [List.length_drop, numsOf_len]; omega
          rw [d8, dn, dp, dl, hbl]
          have hlet2 : ∀ d ∈ l, d = 105 ∨ d = 116 := fun d hd => hlet d (List.mem_cons_of_mem _ hd)
          cases hz : firstNZ (List.take (padOf n) (List.drop (a + 8 + n) (numsOf text))) with
          | some j =>
            simp only [scanR]
            refine pos (show (-1 : Int) < 0 by decide) (now ?_)
            have : ((a + 8 + n + 0 + j : Nat) : Int) = (a : Int) + 8 + n + j := by omega
            rw [List.map_nil, List.append_nil, this]
          | none =>
            by_cases hsh : text.size - a - 8 < n + padOf n
            · have hZ : scanR text a n none 0 = (⟨#[]⟩, -1, 0, 0, (text.size : Int)) := by simp only [scanR]; exact if_pos hsh
              rw [hZ]
              simp only [if_pos hsh]
              refine pos (show (-1 : Int) < 0 by decide) (now ?_)
              have : (a : Int) + ((text.size - a : Nat) : Int) = (text.size : Int) := by omega
              rw [List.map_nil, List.append_nil, this]
            · have hZ : scanR text a n none 0 = (text.extract (a + 8) (a + 8 + n), ((a + 8 + n + padOf n : Nat) : Int), 0, 0, 0) := by simp only [scanR]; exact if_neg hsh
              rw [hZ]
              simp only [if_neg hsh]
              refine neg (by omega) (pos (by omega) ?_)
              have ex := ext_nums text (a + 8) n
              have hb : a + 8 + n + padOf n ≤ text.size := by omega
              have := ih (i + 1) (a + 8 + n + padOf n) (its ++ [⟨false, 0, text.extract (a + 8) (a + 8 + n)⟩]) hle hip hb (by rw [List.length_append, hlen]; rfl) hlet2
              have e2 : ((a + 8 + n + padOf n : Nat) : Int) = (a : Int) + 8 + n + (padOf n : Int) := by omega
              rw [← ex]
              rw [e2] at this ⊢
              refine same ?_ this
              rw [List.map_cons, List.append_assoc]
              rfl
end Go.Proofs.Ytnilogameaaooaa.Pure
/- By a program of this session's: a plain Lean function for a Go function, and its contract. -/
namespace Go.Proofs.Ytnilogameaaooaa.Q
open Go.RowKit Go.Proofs.YtnilogameaaooaaW.PrintWords Go.Proofs.YtnilogameaaooaaW.PrintLast Go.Proofs.YtnilogameaaooaaW.PrintMore
attribute [local go_sem] max2_int min2_int max_two min_two max_three min_three max_four min_four Go.Proofs.Ytnilogameaaooaa.Ord.str_leq Go.Proofs.Ytnilogameaaooaa.Ord.str_gtr Go.Proofs.Ytnilogameaaooaa.Ord.str_geq   -- for this text's walks alone
set_option linter.unusedVariables false
set_option linter.unusedSimpArgs false

/-! ### depotref03_Closed: function 21 -/
def depotref03_Closed.f (k : Nat) (a0 : ByteArray) (a1 : ByteArray) (a2 : Int) : Option (Int × Int) := (depotref03_Read.f k a0 a1 a2).bind fun bt151 => (if bt151.2.1 = 0 then (if (bt151.1.length : Int) < (a1.size : Int) then (some (4, bt151.2.2.2)) else (some (bt151.2.1, bt151.2.2.1))) else (some (bt151.2.1, bt151.2.2.1)))
theorem depotref03_Closed.mono : ∀ a0 a1 a2 k, LeO (depotref03_Closed.f k a0 a1 a2) (depotref03_Closed.f (k + 1) a0 a1 a2) := by
  intro a0 a1 a2 k
  unfold depotref03_Closed.f
  repeat' first
      | (with_reducible exact depotref03_Read.mono _ _ _ _)
      | (with_reducible exact LeO.refl _)
      | (with_reducible exact LeO.none _)
      | (with_reducible refine LeO.ite ?_ ?_)
      | (with_reducible refine LeO.bind ?_ (fun _ => ?_))
      | exact depotref03_Read.mono _ _ _ _
      | exact LeO.none _
      | refine LeO.ite ?_ ?_
      | refine LeO.bind ?_ (fun _ => ?_)
set_option maxHeartbeats 8000000 in
set_option maxRecDepth 100000 in
theorem depotref03_Closed.calls (k : Nat) (a0 : ByteArray) (a1 : ByteArray) (a2 : Int) (r1 : Int) (r2 : Int) (w : World) (h : depotref03_Closed.f k a0 a1 a2 = some (r1, r2)) :
    Calls Try.prog 21 #[.string a0, .string a1, .int .i64 a2] w fun e w' => e = .returned (.tuple #[.int .i64 r1, .int .i64 r2]) ∧ Below w.heap.size w w' := by
  have hu36 := Try.underlying36
  have HB := Aside0.mk (Below.refl w.heap.size w)
  have H : ((depotref03_Read.f k a0 a1 a2).bind fun bt151 => (if bt151.2.1 = 0 then (if (bt151.1.length : Int) < (a1.size : Int) then (some (4, bt151.2.2.2)) else (some (bt151.2.1, bt151.2.2.1))) else (some (bt151.2.1, bt151.2.2.1)))) = some (r1, r2) := h
  clear h
  replace H := Option.bind_eq_some_iff.mp H
  obtain ⟨⟨t151, t154, t155, t156⟩, A40, H⟩ := H
  replace H : (if t154 = 0 then (if (t151.length : Int) < (a1.size : Int) then (some (4, t156)) else (some (t154, t155))) else (some (t154, t155))) = some (r1, r2) := H
  have A4 := Aside0.mk A40
  clear A40
  by_cases c5 : t154 = 0
  · rw [if_pos c5] at H
    have c5b0 : (t154 == 0) = true := beq_iff_eq.mpr c5
    have c5b1 : (t154 != 0) = false := bne_eq_false_iff_eq.mpr c5
    clear c5
    by_cases c6 : (t151.length : Int) < (a1.size : Int)
    · rw [if_pos c6] at H
      have c6b0 : decide ((t151.length : Int) < (a1.size : Int)) = true := decide_eq_true c6
      have c6b1 : decide (t151.length < a1.size) = true := decide_eq_true (Int.ofNat_lt.mp c6)
      clear c6
      simp only [Option.some.injEq, Prod.mk.injEq] at H
      obtain ⟨rfl, rfl⟩ := H
      go_enter Try.func21, Try.ntmps21
      go_wp2_with (first | (go_at_call 20; (with_reducible refine (depotref03_Read.calls k a0 a1 a2 t151 t154 t155 t156 _ A4.out).mono ?_); rintro e w7 ⟨v152, rfl, ho0, hb⟩; have n0_ := Aside0.mk (Kd.R_lower ho0 (below_size (by repeat (first | (with_reducible first | exact HB.out | apply below_alloc | apply pw_below_drewN | apply below_drew1) | exact HB.out)))); have n1_ := Aside0.mk (below_step (by repeat (first | (with_reducible first | exact HB.out | apply below_alloc | apply pw_below_drewN | apply below_drew1) | exact HB.out)) hb); clear HB; have HO153 := n0_; have HB := n1_; clear n0_ n1_; (try clear hb); (try clear hb2); (try clear hk); (try clear hi); (try clear ho0)) | ((with_reducible refine gate_dst (N := 8) rfl ?_); (try (refine gate_guard (by rfl) ?_; dsimp only)); refine box_event ?hg (N := 8) ?hd (cs := #[.slice none 0 0, .int .i64 0, .int .i64 0, .int .i64 0]) (t := 36) ?hr ?_; (case hd => rfl); (case hg => rfl); (case hr => first | (go_simp; done) | (go_simp; rfl)); intro gb157 hg w8 hbox hb; have n0_ := Aside0.mk (Kd.R_below (by (with_reducible repeat (first | apply Kd.R_alloc | apply Kd.R_drewN | apply Kd.R_drew)); exact HO153.out) hb); have n1_ := Aside0.mk (below_step (by repeat (first | (with_reducible first | exact HB.out | apply below_alloc | apply pw_below_drewN | apply below_drew1) | exact HB.out)) hb); have n2_ := Aside0.mk (hbox); have n3_ := Aside0.mk ((by rw [hg]; exact (below_size (by repeat (first | (with_reducible first | exact HB.out | apply below_alloc | apply pw_below_drewN | apply below_drew1) | exact HB.out))) : w.heap.size ≤ gb157)); have n4_ := Aside0.mk ((by rw [hg]; exact (below_size (by repeat (first | (with_reducible first | exact HB.out | apply below_alloc | apply pw_below_drewN | apply below_drew1) | exact HB.out))) : w.heap.size ≤ gb157)); clear HO153; clear HB; have HO153 := n0_; have HB := n1_; have BK157 := n2_; have GW157 := n3_; have GE157 := n4_; clear n0_ n1_ n2_ n3_ n4_; clear hb hbox hg; obtain ⟨Ao9, co9, eo9⟩ := Kd.R_slice HO153.out; subst eo9; have hcz10_0 : w8.cell? ⟨gb157, 0, none⟩ = some (.slice none 0 0) := (blk_cell BK157.out 0).trans rfl; have hcz10_1 : w8.cell? ⟨gb157, 1, none⟩ = some (.int .i64 0) := (blk_cell BK157.out 1).trans rfl; have hcz10_2 : w8.cell? ⟨gb157, 2, none⟩ = some (.int .i64 0) := (blk_cell BK157.out 2).trans rfl; have hcz10_3 : w8.cell? ⟨gb157, 3, none⟩ = some (.int .i64 0) := (blk_cell BK157.out 3).trans rfl; have hfz10_0 := blk_frozen BK157.out 0; have hfz10_1 := blk_frozen BK157.out 1; have hfz10_2 := blk_frozen BK157.out 2; have hfz10_3 := blk_frozen BK157.out 3))
      repeat (go_quiet (first | (go_at_call 20; (with_reducible refine (depotref03_Read.calls k a0 a1 a2 t151 t154 t155 t156 _ A4.out).mono ?_); rintro e w7 ⟨v152, rfl, ho0, hb⟩; have n0_ := Aside0.mk (Kd.R_lower ho0 (below_size (by repeat (first | (with_reducible first | exact HB.out | apply below_alloc | apply pw_below_drewN | apply below_drew1) | exact HB.out)))); have n1_ := Aside0.mk (below_step (by repeat (first | (with_reducible first | exact HB.out | apply below_alloc | apply pw_below_drewN | apply below_drew1) | exact HB.out)) hb); clear HB; have HO153 := n0_; have HB := n1_; clear n0_ n1_; (try clear hb); (try clear hb2); (try clear hk); (try clear hi); (try clear ho0)) | ((with_reducible refine gate_dst (N := 8) rfl ?_); (try (refine gate_guard (by rfl) ?_; dsimp only)); refine box_event ?hg (N := 8) ?hd (cs := #[.slice none 0 0, .int .i64 0, .int .i64 0, .int .i64 0]) (t := 36) ?hr ?_; (case hd => rfl); (case hg => rfl); (case hr => first | (go_simp; done) | (go_simp; rfl)); intro gb157 hg w8 hbox hb; have n0_ := Aside0.mk (Kd.R_below (by (with_reducible repeat (first | apply Kd.R_alloc | apply Kd.R_drewN | apply Kd.R_drew)); exact HO153.out) hb); have n1_ := Aside0.mk (below_step (by repeat (first | (with_reducible first | exact HB.out | apply below_alloc | apply pw_below_drewN | apply below_drew1) | exact HB.out)) hb); have n2_ := Aside0.mk (hbox); have n3_ := Aside0.mk ((by rw [hg]; exact (below_size (by repeat (first | (with_reducible first | exact HB.out | apply below_alloc | apply pw_below_drewN | apply below_drew1) | exact HB.out))) : w.heap.size ≤ gb157)); have n4_ := Aside0.mk ((by rw [hg]; exact (below_size (by repeat (first | (with_reducible first | exact HB.out | apply below_alloc | apply pw_below_drewN | apply below_drew1) | exact HB.out))) : w.heap.size ≤ gb157)); clear HO153; clear HB; have HO153 := n0_; have HB := n1_; have BK157 := n2_; have GW157 := n3_; have GE157 := n4_; clear n0_ n1_ n2_ n3_ n4_; clear hb hbox hg; obtain ⟨Ao9, co9, eo9⟩ := Kd.R_slice HO153.out; subst eo9; have hcz10_0 : w8.cell? ⟨gb157, 0, none⟩ = some (.slice none 0 0) := (blk_cell BK157.out 0).trans rfl; have hcz10_1 : w8.cell? ⟨gb157, 1, none⟩ = some (.int .i64 0) := (blk_cell BK157.out 1).trans rfl; have hcz10_2 : w8.cell? ⟨gb157, 2, none⟩ = some (.int .i64 0) := (blk_cell BK157.out 2).trans rfl; have hcz10_3 : w8.cell? ⟨gb157, 3, none⟩ = some (.int .i64 0) := (blk_cell BK157.out 3).trans rfl; have hfz10_0 := blk_frozen BK157.out 0; have hfz10_1 := blk_frozen BK157.out 1; have hfz10_2 := blk_frozen BK157.out 2; have hfz10_3 := blk_frozen BK157.out 3)); try go_wp2_with (first | (go_at_call 20; (with_reducible refine (depotref03_Read.calls k a0 a1 a2 t151 t154 t155 t156 _ A4.out).mono ?_); rintro e w7 ⟨v152, rfl, ho0, hb⟩; have n0_ := Aside0.mk (Kd.R_lower ho0 (below_size (by repeat (first | (with_reducible first | exact HB.out | apply below_alloc | apply pw_below_drewN | apply below_drew1) | exact HB.out)))); have n1_ := Aside0.mk (below_step (by repeat (first | (with_reducible first | exact HB.out | apply below_alloc | apply pw_below_drewN | apply below_drew1) | exact HB.out)) hb); clear HB; have HO153 := n0_; have HB := n1_; clear n0_ n1_; (try clear hb); (try clear hb2); (try clear hk); (try clear hi); (try clear ho0)) | ((with_reducible refine gate_dst (N := 8) rfl ?_); (try (refine gate_guard (by rfl) ?_; dsimp only)); refine box_event ?hg (N := 8) ?hd (cs := #[.slice none 0 0, .int .i64 0, .int .i64 0, .int .i64 0]) (t := 36) ?hr ?_; (case hd => rfl); (case hg => rfl); (case hr => first | (go_simp; done) | (go_simp; rfl)); intro gb157 hg w8 hbox hb; have n0_ := Aside0.mk (Kd.R_below (by (with_reducible repeat (first | apply Kd.R_alloc | apply Kd.R_drewN | apply Kd.R_drew)); exact HO153.out) hb); have n1_ := Aside0.mk (below_step (by repeat (first | (with_reducible first | exact HB.out | apply below_alloc | apply pw_below_drewN | apply below_drew1) | exact HB.out)) hb); have n2_ := Aside0.mk (hbox); have n3_ := Aside0.mk ((by rw [hg]; exact (below_size (by repeat (first | (with_reducible first | exact HB.out | apply below_alloc | apply pw_below_drewN | apply below_drew1) | exact HB.out))) : w.heap.size ≤ gb157)); have n4_ := Aside0.mk ((by rw [hg]; exact (below_size (by repeat (first | (with_reducible first | exact HB.out | apply below_alloc | apply pw_below_drewN | apply below_drew1) | exact HB.out))) : w.heap.size ≤ gb157)); clear HO153; clear HB; have HO153 := n0_; have HB := n1_; have BK157 := n2_; have GW157 := n3_; have GE157 := n4_; clear n0_ n1_ n2_ n3_ n4_; clear hb hbox hg; obtain ⟨Ao9, co9, eo9⟩ := Kd.R_slice HO153.out; subst eo9; have hcz10_0 : w8.cell? ⟨gb157, 0, none⟩ = some (.slice none 0 0) := (blk_cell BK157.out 0).trans rfl; have hcz10_1 : w8.cell? ⟨gb157, 1, none⟩ = some (.int .i64 0) := (blk_cell BK157.out 1).trans rfl; have hcz10_2 : w8.cell? ⟨gb157, 2, none⟩ = some (.int .i64 0) := (blk_cell BK157.out 2).trans rfl; have hcz10_3 : w8.cell? ⟨gb157, 3, none⟩ = some (.int .i64 0) := (blk_cell BK157.out 3).trans rfl; have hfz10_0 := blk_frozen BK157.out 0; have hfz10_1 := blk_frozen BK157.out 1; have hfz10_2 := blk_frozen BK157.out 2; have hfz10_3 := blk_frozen BK157.out 3)))
      go_ret2
      exact ⟨by first | rfl | (simp [errW_none, errW_some] <;> rfl) | (simp [*, errW_none, errW_some] <;> rfl), by repeat (first | (with_reducible first | exact HB.out | apply below_alloc | apply pw_below_drewN | apply below_drew1 | refine below_set ?_ GE157.out) | exact HB.out)⟩
    · rw [if_neg c6] at H
      have c6b0 : decide ((t151.length : Int) < (a1.size : Int)) = false := decide_eq_false c6
      have c6b1 : decide (t151.length < a1.size) = false := decide_eq_false (fun h => c6 (Int.ofNat_lt.mpr h))
      clear c6
      simp only [Option.some.injEq, Prod.mk.injEq] at H
      obtain ⟨rfl, rfl⟩ := H
      go_enter Try.func21, Try.ntmps21
      go_wp2_with (first | (go_at_call 20; (with_reducible refine (depotref03_Read.calls k a0 a1 a2 t151 t154 t155 t156 _ A4.out).mono ?_); rintro e w11 ⟨v152, rfl, ho0, hb⟩; have n0_ := Aside0.mk (Kd.R_lower ho0 (below_size (by repeat (first | (with_reducible first | exact HB.out | apply below_alloc | apply pw_below_drewN | apply below_drew1) | exact HB.out)))); have n1_ := Aside0.mk (below_step (by repeat (first | (with_reducible first | exact HB.out | apply below_alloc | apply pw_below_drewN | apply below_drew1) | exact HB.out)) hb); clear HB; have HO153 := n0_; have HB := n1_; clear n0_ n1_; (try clear hb); (try clear hb2); (try clear hk); (try clear hi); (try clear ho0)) | ((with_reducible refine gate_dst (N := 8) rfl ?_); (try (refine gate_guard (by rfl) ?_; dsimp only)); refine box_event ?hg (N := 8) ?hd (cs := #[.slice none 0 0, .int .i64 0, .int .i64 0, .int .i64 0]) (t := 36) ?hr ?_; (case hd => rfl); (case hg => rfl); (case hr => first | (go_simp; done) | (go_simp; rfl)); intro gb157 hg w12 hbox hb; have n0_ := Aside0.mk (Kd.R_below (by (with_reducible repeat (first | apply Kd.R_alloc | apply Kd.R_drewN | apply Kd.R_drew)); exact HO153.out) hb); have n1_ := Aside0.mk (below_step (by repeat (first | (with_reducible first | exact HB.out | apply below_alloc | apply pw_below_drewN | apply below_drew1) | exact HB.out)) hb); have n2_ := Aside0.mk (hbox); have n3_ := Aside0.mk ((by rw [hg]; exact (below_size (by repeat (first | (with_reducible first | exact HB.out | apply below_alloc | apply pw_below_drewN | apply below_drew1) | exact HB.out))) : w.heap.size ≤ gb157)); have n4_ := Aside0.mk ((by rw [hg]; exact (below_size (by repeat (first | (with_reducible first | exact HB.out | apply below_alloc | apply pw_below_drewN | apply below_drew1) | exact HB.out))) : w.heap.size ≤ gb157)); clear HO153; clear HB; have HO153 := n0_; have HB := n1_; have BK157 := n2_; have GW157 := n3_; have GE157 := n4_; clear n0_ n1_ n2_ n3_ n4_; clear hb hbox hg; obtain ⟨Ao13, co13, eo13⟩ := Kd.R_slice HO153.out; subst eo13; have hcz14_0 : w12.cell? ⟨gb157, 0, none⟩ = some (.slice none 0 0) := (blk_cell BK157.out 0).trans rfl; have hcz14_1 : w12.cell? ⟨gb157, 1, none⟩ = some (.int .i64 0) := (blk_cell BK157.out 1).trans rfl; have hcz14_2 : w12.cell? ⟨gb157, 2, none⟩ = some (.int .i64 0) := (blk_cell BK157.out 2).trans rfl; have hcz14_3 : w12.cell? ⟨gb157, 3, none⟩ = some (.int .i64 0) := (blk_cell BK157.out 3).trans rfl; have hfz14_0 := blk_frozen BK157.out 0; have hfz14_1 := blk_frozen BK157.out 1; have hfz14_2 := blk_frozen BK157.out 2; have hfz14_3 := blk_frozen BK157.out 3))
      repeat (go_quiet (first | (go_at_call 20; (with_reducible refine (depotref03_Read.calls k a0 a1 a2 t151 t154 t155 t156 _ A4.out).mono ?_); rintro e w11 ⟨v152, rfl, ho0, hb⟩; have n0_ := Aside0.mk (Kd.R_lower ho0 (below_size (by repeat (first | (with_reducible first | exact HB.out | apply below_alloc | apply pw_below_drewN | apply below_drew1) | exact HB.out)))); have n1_ := Aside0.mk (below_step (by repeat (first | (with_reducible first | exact HB.out | apply below_alloc | apply pw_below_drewN | apply below_drew1) | exact HB.out)) hb); clear HB; have HO153 := n0_; have HB := n1_; clear n0_ n1_; (try clear hb); (try clear hb2); (try clear hk); (try clear hi); (try clear ho0)) | ((with_reducible refine gate_dst (N := 8) rfl ?_); (try (refine gate_guard (by rfl) ?_; dsimp only)); refine box_event ?hg (N := 8) ?hd (cs := #[.slice none 0 0, .int .i64 0, .int .i64 0, .int .i64 0]) (t := 36) ?hr ?_; (case hd => rfl); (case hg => rfl); (case hr => first | (go_simp; done) | (go_simp; rfl)); intro gb157 hg w12 hbox hb; have n0_ := Aside0.mk (Kd.R_below (by (with_reducible repeat (first | apply Kd.R_alloc | apply Kd.R_drewN | apply Kd.R_drew)); exact HO153.out) hb); have n1_ := Aside0.mk (below_step (by repeat (first | (with_reducible first | exact HB.out | apply below_alloc | apply pw_below_drewN | apply below_drew1) | exact HB.out)) hb); have n2_ := Aside0.mk (hbox); have n3_ := Aside0.mk ((by rw [hg]; exact (below_size (by repeat (first | (with_reducible first | exact HB.out | apply below_alloc | apply pw_below_drewN | apply below_drew1) | exact HB.out))) : w.heap.size ≤ gb157)); have n4_ := Aside0.mk ((by rw [hg]; exact (below_size (by repeat (first | (with_reducible first | exact HB.out | apply below_alloc | apply pw_below_drewN | apply below_drew1) | exact HB.out))) : w.heap.size ≤ gb157)); clear HO153; clear HB; have HO153 := n0_; have HB := n1_; have BK157 := n2_; have GW157 := n3_; have GE157 := n4_; clear n0_ n1_ n2_ n3_ n4_; clear hb hbox hg; obtain ⟨Ao13, co13, eo13⟩ := Kd.R_slice HO153.out; subst eo13; have hcz14_0 : w12.cell? ⟨gb157, 0, none⟩ = some (.slice none 0 0) := (blk_cell BK157.out 0).trans rfl; have hcz14_1 : w12.cell? ⟨gb157, 1, none⟩ = some (.int .i64 0) := (blk_cell BK157.out 1).trans rfl; have hcz14_2 : w12.cell? ⟨gb157, 2, none⟩ = some (.int .i64 0) := (blk_cell BK157.out 2).trans rfl; have hcz14_3 : w12.cell? ⟨gb157, 3, none⟩ = some (.int .i64 0) := (blk_cell BK157.out 3).trans rfl; have hfz14_0 := blk_frozen BK157.out 0; have hfz14_1 := blk_frozen BK157.out 1; have hfz14_2 := blk_frozen BK157.out 2; have hfz14_3 := blk_frozen BK157.out 3)); try go_wp2_with (first | (go_at_call 20; (with_reducible refine (depotref03_Read.calls k a0 a1 a2 t151 t154 t155 t156 _ A4.out).mono ?_); rintro e w11 ⟨v152, rfl, ho0, hb⟩; have n0_ := Aside0.mk (Kd.R_lower ho0 (below_size (by repeat (first | (with_reducible first | exact HB.out | apply below_alloc | apply pw_below_drewN | apply below_drew1) | exact HB.out)))); have n1_ := Aside0.mk (below_step (by repeat (first | (with_reducible first | exact HB.out | apply below_alloc | apply pw_below_drewN | apply below_drew1) | exact HB.out)) hb); clear HB; have HO153 := n0_; have HB := n1_; clear n0_ n1_; (try clear hb); (try clear hb2); (try clear hk); (try clear hi); (try clear ho0)) | ((with_reducible refine gate_dst (N := 8) rfl ?_); (try (refine gate_guard (by rfl) ?_; dsimp only)); refine box_event ?hg (N := 8) ?hd (cs := #[.slice none 0 0, .int .i64 0, .int .i64 0, .int .i64 0]) (t := 36) ?hr ?_; (case hd => rfl); (case hg => rfl); (case hr => first | (go_simp; done) | (go_simp; rfl)); intro gb157 hg w12 hbox hb; have n0_ := Aside0.mk (Kd.R_below (by (with_reducible repeat (first | apply Kd.R_alloc | apply Kd.R_drewN | apply Kd.R_drew)); exact HO153.out) hb); have n1_ := Aside0.mk (below_step (by repeat (first | (with_reducible first | exact HB.out | apply below_alloc | apply pw_below_drewN | apply below_drew1) | exact HB.out)) hb); have n2_ := Aside0.mk (hbox); have n3_ := Aside0.mk ((by rw [hg]; exact (below_size (by repeat (first | (with_reducible first | exact HB.out | apply below_alloc | apply pw_below_drewN | apply below_drew1) | exact HB.out))) : w.heap.size ≤ gb157)); have n4_ := Aside0.mk ((by rw [hg]; exact (below_size (by repeat (first | (with_reducible first | exact HB.out | apply below_alloc | apply pw_below_drewN | apply below_drew1) | exact HB.out))) : w.heap.size ≤ gb157)); clear HO153; clear HB; have HO153 := n0_; have HB := n1_; have BK157 := n2_; have GW157 := n3_; have GE157 := n4_; clear n0_ n1_ n2_ n3_ n4_; clear hb hbox hg; obtain ⟨Ao13, co13, eo13⟩ := Kd.R_slice HO153.out; subst eo13; have hcz14_0 : w12.cell? ⟨gb157, 0, none⟩ = some (.slice none 0 0) := (blk_cell BK157.out 0).trans rfl; have hcz14_1 : w12.cell? ⟨gb157, 1, none⟩ = some (.int .i64 0) := (blk_cell BK157.out 1).trans rfl; have hcz14_2 : w12.cell? ⟨gb157, 2, none⟩ = some (.int .i64 0) := (blk_cell BK157.out 2).trans rfl; have hcz14_3 : w12.cell? ⟨gb157, 3, none⟩ = some (.int .i64 0) := (blk_cell BK157.out 3).trans rfl; have hfz14_0 := blk_frozen BK157.out 0; have hfz14_1 := blk_frozen BK157.out 1; have hfz14_2 := blk_frozen BK157.out 2; have hfz14_3 := blk_frozen BK157.out 3)))
      go_ret2
      exact ⟨by first | rfl | (simp [errW_none, errW_some] <;> rfl) | (simp [*, errW_none, errW_some] <;> rfl), by repeat (first | (with_reducible first | exact HB.out | apply below_alloc | apply pw_below_drewN | apply below_drew1 | refine below_set ?_ GE157.out) | exact HB.out)⟩
  · rw [if_neg c5] at H
    have c5b0 : (t154 == 0) = false := beq_eq_false_iff_ne.mpr c5
    have c5b1 : (t154 != 0) = true := bne_iff_ne.mpr c5
    simp only [Option.some.injEq, Prod.mk.injEq] at H
    obtain ⟨rfl, rfl⟩ := H
    go_enter Try.func21, Try.ntmps21
    go_wp2_with (first | (go_at_call 20; (with_reducible refine (depotref03_Read.calls k a0 a1 a2 t151 t154 t155 t156 _ A4.out).mono ?_); rintro e w15 ⟨v152, rfl, ho0, hb⟩; have n0_ := Aside0.mk (Kd.R_lower ho0 (below_size (by repeat (first | (with_reducible first | exact HB.out | apply below_alloc | apply pw_below_drewN | apply below_drew1) | exact HB.out)))); have n1_ := Aside0.mk (below_step (by repeat (first | (with_reducible first | exact HB.out | apply below_alloc | apply pw_below_drewN | apply below_drew1) | exact HB.out)) hb); clear HB; have HO153 := n0_; have HB := n1_; clear n0_ n1_; (try clear hb); (try clear hb2); (try clear hk); (try clear hi); (try clear ho0)) | ((with_reducible refine gate_dst (N := 8) rfl ?_); (try (refine gate_guard (by rfl) ?_; dsimp only)); refine box_event ?hg (N := 8) ?hd (cs := #[.slice none 0 0, .int .i64 0, .int .i64 0, .int .i64 0]) (t := 36) ?hr ?_; (case hd => rfl); (case hg => rfl); (case hr => first | (go_simp; done) | (go_simp; rfl)); intro gb157 hg w16 hbox hb; have n0_ := Aside0.mk (Kd.R_below (by (with_reducible repeat (first | apply Kd.R_alloc | apply Kd.R_drewN | apply Kd.R_drew)); exact HO153.out) hb); have n1_ := Aside0.mk (below_step (by repeat (first | (with_reducible first | exact HB.out | apply below_alloc | apply pw_below_drewN | apply below_drew1) | exact HB.out)) hb); have n2_ := Aside0.mk (hbox); have n3_ := Aside0.mk ((by rw [hg]; exact (below_size (by repeat (first | (with_reducible first | exact HB.out | apply below_alloc | apply pw_below_drewN | apply below_drew1) | exact HB.out))) : w.heap.size ≤ gb157)); have n4_ := Aside0.mk ((by rw [hg]; exact (below_size (by repeat (first | (with_reducible first | exact HB.out | apply below_alloc | apply pw_below_drewN | apply below_drew1) | exact HB.out))) : w.heap.size ≤ gb157)); clear HO153; clear HB; have HO153 := n0_; have HB := n1_; have BK157 := n2_; have GW157 := n3_; have GE157 := n4_; clear n0_ n1_ n2_ n3_ n4_; clear hb hbox hg; obtain ⟨Ao17, co17, eo17⟩ := Kd.R_slice HO153.out; subst eo17; have hcz18_0 : w16.cell? ⟨gb157, 0, none⟩ = some (.slice none 0 0) := (blk_cell BK157.out 0).trans rfl; have hcz18_1 : w16.cell? ⟨gb157, 1, none⟩ = some (.int .i64 0) := (blk_cell BK157.out 1).trans rfl; have hcz18_2 : w16.cell? ⟨gb157, 2, none⟩ = some (.int .i64 0) := (blk_cell BK157.out 2).trans rfl; have hcz18_3 : w16.cell? ⟨gb157, 3, none⟩ = some (.int .i64 0) := (blk_cell BK157.out 3).trans rfl; have hfz18_0 := blk_frozen BK157.out 0; have hfz18_1 := blk_frozen BK157.out 1; have hfz18_2 := blk_frozen BK157.out 2; have hfz18_3 := blk_frozen BK157.out 3))
    repeat (go_quiet (first | (go_at_call 20; (with_reducible refine (depotref03_Read.calls k a0 a1 a2 t151 t154 t155 t156 _ A4.out).mono ?_); rintro e w15 ⟨v152, rfl, ho0, hb⟩; have n0_ := Aside0.mk (Kd.R_lower ho0 (below_size (by repeat (first | (with_reducible first | exact HB.out | apply below_alloc | apply pw_below_drewN | apply below_drew1) | exact HB.out)))); have n1_ := Aside0.mk (below_step (by repeat (first | (with_reducible first | exact HB.out | apply below_alloc | apply pw_below_drewN | apply below_drew1) | exact HB.out)) hb); clear HB; have HO153 := n0_; have HB := n1_; clear n0_ n1_; (try clear hb); (try clear hb2); (try clear hk); (try clear hi); (try clear ho0)) | ((with_reducible refine gate_dst (N := 8) rfl ?_); (try (refine gate_guard (by rfl) ?_; dsimp only)); refine box_event ?hg (N := 8) ?hd (cs := #[.slice none 0 0, .int .i64 0, .int .i64 0, .int .i64 0]) (t := 36) ?hr ?_; (case hd => rfl); (case hg => rfl); (case hr => first | (go_simp; done) | (go_simp; rfl)); intro gb157 hg w16 hbox hb; have n0_ := Aside0.mk (Kd.R_below (by (with_reducible repeat (first | apply Kd.R_alloc | apply Kd.R_drewN | apply Kd.R_drew)); exact HO153.out) hb); have n1_ := Aside0.mk (below_step (by repeat (first | (with_reducible first | exact HB.out | apply below_alloc | apply pw_below_drewN | apply below_drew1) | exact HB.out)) hb); have n2_ := Aside0.mk (hbox); have n3_ := Aside0.mk ((by rw [hg]; exact (below_size (by repeat (first | (with_reducible first | exact HB.out | apply below_alloc | apply pw_below_drewN | apply below_drew1) | exact HB.out))) : w.heap.size ≤ gb157)); have n4_ := Aside0.mk ((by rw [hg]; exact (below_size (by repeat (first | (with_reducible first | exact HB.out | apply below_alloc | apply pw_below_drewN | apply below_drew1) | exact HB.out))) : w.heap.size ≤ gb157)); clear HO153; clear HB; have HO153 := n0_; have HB := n1_; have BK157 := n2_; have GW157 := n3_; have GE157 := n4_; clear n0_ n1_ n2_ n3_ n4_; clear hb hbox hg; obtain ⟨Ao17, co17, eo17⟩ := Kd.R_slice HO153.out; subst eo17; have hcz18_0 : w16.cell? ⟨gb157, 0, none⟩ = some (.slice none 0 0) := (blk_cell BK157.out 0).trans rfl; have hcz18_1 : w16.cell? ⟨gb157, 1, none⟩ = some (.int .i64 0) := (blk_cell BK157.out 1).trans rfl; have hcz18_2 : w16.cell? ⟨gb157, 2, none⟩ = some (.int .i64 0) := (blk_cell BK157.out 2).trans rfl; have hcz18_3 : w16.cell? ⟨gb157, 3, none⟩ = some (.int .i64 0) := (blk_cell BK157.out 3).trans rfl; have hfz18_0 := blk_frozen BK157.out 0; have hfz18_1 := blk_frozen BK157.out 1; have hfz18_2 := blk_frozen BK157.out 2; have hfz18_3 := blk_frozen BK157.out 3)); try go_wp2_with (first | (go_at_call 20; (with_reducible refine (depotref03_Read.calls k a0 a1 a2 t151 t154 t155 t156 _ A4.out).mono ?_); rintro e w15 ⟨v152, rfl, ho0, hb⟩; have n0_ := Aside0.mk (Kd.R_lower ho0 (below_size (by repeat (first | (with_reducible first | exact HB.out | apply below_alloc | apply pw_below_drewN | apply below_drew1) | exact HB.out)))); have n1_ := Aside0.mk (below_step (by repeat (first | (with_reducible first | exact HB.out | apply below_alloc | apply pw_below_drewN | apply below_drew1) | exact HB.out)) hb); clear HB; have HO153 := n0_; have HB := n1_; clear n0_ n1_; (try clear hb); (try clear hb2); (try clear hk); (try clear hi); (try clear ho0)) | ((with_reducible refine gate_dst (N := 8) rfl ?_); (try (refine gate_guard (by rfl) ?_; dsimp only)); refine box_event ?hg (N := 8) ?hd (cs := #[.slice none 0 0, .int .i64 0, .int .i64 0, .int .i64 0]) (t := 36) ?hr ?_; (case hd => rfl); (case hg => rfl); (case hr => first | (go_simp; done) | (go_simp; rfl)); intro gb157 hg w16 hbox hb; have n0_ := Aside0.mk (Kd.R_below (by (with_reducible repeat (first | apply Kd.R_alloc | apply Kd.R_drewN | apply Kd.R_drew)); exact HO153.out) hb); have n1_ := Aside0.mk (below_step (by repeat (first | (with_reducible first | exact HB.out | apply below_alloc | apply pw_below_drewN | apply below_drew1) | exact HB.out)) hb); have n2_ := Aside0.mk (hbox); have n3_ := Aside0.mk ((by rw [hg]; exact (below_size (by repeat (first | (with_reducible first | exact HB.out | apply below_alloc | apply pw_below_drewN | apply below_drew1) | exact HB.out))) : w.heap.size ≤ gb157)); have n4_ := Aside0.mk ((by rw [hg]; exact (below_size (by repeat (first | (with_reducible first | exact HB.out | apply below_alloc | apply pw_below_drewN | apply below_drew1) | exact HB.out))) : w.heap.size ≤ gb157)); clear HO153; clear HB; have HO153 := n0_; have HB := n1_; have BK157 := n2_; have GW157 := n3_; have GE157 := n4_; clear n0_ n1_ n2_ n3_ n4_; clear hb hbox hg; obtain ⟨Ao17, co17, eo17⟩ := Kd.R_slice HO153.out; subst eo17; have hcz18_0 : w16.cell? ⟨gb157, 0, none⟩ = some (.slice none 0 0) := (blk_cell BK157.out 0).trans rfl; have hcz18_1 : w16.cell? ⟨gb157, 1, none⟩ = some (.int .i64 0) := (blk_cell BK157.out 1).trans rfl; have hcz18_2 : w16.cell? ⟨gb157, 2, none⟩ = some (.int .i64 0) := (blk_cell BK157.out 2).trans rfl; have hcz18_3 : w16.cell? ⟨gb157, 3, none⟩ = some (.int .i64 0) := (blk_cell BK157.out 3).trans rfl; have hfz18_0 := blk_frozen BK157.out 0; have hfz18_1 := blk_frozen BK157.out 1; have hfz18_2 := blk_frozen BK157.out 2; have hfz18_3 := blk_frozen BK157.out 3)))
    go_ret2
    exact ⟨by first | rfl | (simp [errW_none, errW_some] <;> rfl) | (simp [*, errW_none, errW_some] <;> rfl), by repeat (first | (with_reducible first | exact HB.out | apply below_alloc | apply pw_below_drewN | apply below_drew1 | refine below_set ?_ GE157.out) | exact HB.out)⟩

end Go.Proofs.Ytnilogameaaooaa.Q
/- By a program of this session's: a plain Lean function for a Go function, and its contract. -/
namespace Go.Proofs.Ytnilogameaaooaa.Q
open Go.RowKit Go.Proofs.YtnilogameaaooaaW.PrintWords Go.Proofs.YtnilogameaaooaaW.PrintLast Go.Proofs.YtnilogameaaooaaW.PrintMore
attribute [local go_sem] max2_int min2_int max_two min_two max_three min_three max_four min_four Go.Proofs.Ytnilogameaaooaa.Ord.str_leq Go.Proofs.Ytnilogameaaooaa.Ord.str_gtr Go.Proofs.Ytnilogameaaooaa.Ord.str_geq   -- for this text's walks alone
set_option linter.unusedVariables false
set_option linter.unusedSimpArgs false

/-! ### depotlaw03_same: function 22 -/
def depotlaw03_same.l0 : Nat → List (S78) → Int → List (S55) → Int → Int → Option (Bool)
  | 0, _, _, _, _, _ => none
  | k + 1, x1, x2, x17, x18, x19 => if x19 < x18 then (if 0 ≤ x19 then (if x19 < (x17.length : Int) then (if 0 ≤ (wrap64 (x2 + x19)) then (if (wrap64 (x2 + x19)) < (x1.length : Int) then (if (((rd_T55 x17 x19).f0) != ((rd_T78 x1 (wrap64 (x2 + x19))).f0)) = true then (some false) else (if ((rd_T55 x17 x19).f1) = ((rd_T78 x1 (wrap64 (x2 + x19))).f1) then (if ((rd_T55 x17 x19).f2).toList = ((rd_T78 x1 (wrap64 (x2 + x19))).f2).toList then (depotlaw03_same.l0 k x1 x2 x17 x18 (wrap64 (x19 + 1))) else (some false)) else (some false))) else (none)) else (none)) else (none)) else (none)) else (some true)
def depotlaw03_same.f (k : Nat) (l0 : List (S55)) (l1 : List (S78)) (a2 : Int) : Option (Bool) := if (wrap64 ((l1.length : Int) - a2)) = (l0.length : Int) then (depotlaw03_same.l0 k l1 a2 l0 (l0.length : Int) 0) else (some false)
theorem depotlaw03_same.mono_l : ∀ k, (∀ y0 y1 y2 y3 y4, LeO (depotlaw03_same.l0 k y0 y1 y2 y3 y4) (depotlaw03_same.l0 (k + 1) y0 y1 y2 y3 y4))
  | 0 => fun _ _ _ _ _ r h => by simp [depotlaw03_same.l0] at h
  | k + 1 => by
    have ih0 := depotlaw03_same.mono_l k
    · intro y0 y1 y2 y3 y4
      unfold depotlaw03_same.l0
      repeat' first
      | (with_reducible exact ih0 _ _ _ _ _)
      | (with_reducible exact LeO.refl _)
      | (with_reducible exact LeO.none _)
      | (with_reducible refine LeO.ite ?_ ?_)
      | (with_reducible refine LeO.bind ?_ (fun _ => ?_))
      | exact ih0 _ _ _ _ _
      | exact LeO.none _
      | refine LeO.ite ?_ ?_
      | refine LeO.bind ?_ (fun _ => ?_)
theorem depotlaw03_same.mono : ∀ a0 a1 a2 k, LeO (depotlaw03_same.f k a0 a1 a2) (depotlaw03_same.f (k + 1) a0 a1 a2) := by
  intro a0 a1 a2 k
  have ih0 := depotlaw03_same.mono_l k
  unfold depotlaw03_same.f
  repeat' first
      | (with_reducible exact ih0 _ _ _ _ _)
      | (with_reducible exact LeO.refl _)
      | (with_reducible exact LeO.none _)
      | (with_reducible refine LeO.ite ?_ ?_)
      | (with_reducible refine LeO.bind ?_ (fun _ => ?_))
      | exact ih0 _ _ _ _ _
      | exact LeO.none _
      | refine LeO.ite ?_ ?_
      | refine LeO.bind ?_ (fun _ => ?_)
set_option maxHeartbeats 8000000 in
set_option maxRecDepth 100000 in
theorem depotlaw03_same.calls (k : Nat) (A0 : Option Addr) (c0 : Nat) (l0 : List (S55)) (A1 : Option Addr) (c1 : Nat) (l1 : List (S78)) (a2 : Int) (r : Bool) (w : World) (hr0 : Kd.C k55 w A0 l0.length l0) (hc0 : l0.length ≤ c0) (hr1 : Kd.C k78 w A1 l1.length l1) (hc1 : l1.length ≤ c1) (h : depotlaw03_same.f k l0 l1 a2 = some r) :
    Calls Try.prog 22 #[.slice A0 l0.length c0, .slice A1 l1.length c1, .int .i64 a2] w fun e w' => e = .returned (.bool r) ∧ Below w.heap.size w w' := by
  have hu55 := Try.underlying55
  have hu78 := Try.underlying78
  have HR0 := Aside0.mk hr0
  have HC0 := Aside0.mk hc0
  clear hr0 hc0
  have HR1 := Aside0.mk hr1
  have HC1 := Aside0.mk hc1
  clear hr1 hc1
  have HB := Aside0.mk (Below.refl w.heap.size w)
  have H : (if (wrap64 ((l1.length : Int) - a2)) = (l0.length : Int) then (depotlaw03_same.l0 k l1 a2 l0 (l0.length : Int) 0) else (some false)) = some r := h
  clear h
  by_cases c4 : (wrap64 ((l1.length : Int) - a2)) = (l0.length : Int)
  · rw [if_pos c4] at H
    have c4b0 : ((wrap64 ((l1.length : Int) - a2)) == (l0.length : Int)) = true := beq_iff_eq.mpr c4
    have c4b1 : ((wrap64 ((l1.length : Int) - a2)) != (l0.length : Int)) = false := bne_eq_false_iff_eq.mpr c4
    clear c4
    have H' := Aside0.mk H
    clear H
    go_enter Try.func22, Try.ntmps22
    go_wp2
    go_loopg [19] k (fun kq v19 w' => ∃ (x19_1 : Int), v19 = .int .i64 x19_1 ∧ Aside0 (depotlaw03_same.l0 kq l1 a2 l0 (l0.length : Int) x19_1 = some r) ∧ Aside0 (kq ≤ k) ∧ Aside0 (Below w.heap.size w w'))
    case atStart => exact ⟨(0), (by first | rfl | (simp; done) | (simp [*]; done)), H', ⟨Nat.le_refl _⟩, ⟨by repeat (first | (with_reducible first | exact HB.out | apply below_alloc | apply pw_below_drewN | apply below_drew1) | exact HB.out)⟩⟩
    case round =>
      clear H'
      try clear c1
      try clear c2
      try clear p2
      try clear c4
      try clear c4b0
      try clear c4b1
      obtain ⟨x19_1, rfl, HA, HK1, HB⟩ := hrel
      cases gk with
      | zero => exact absurd HA.out (by simp [depotlaw03_same.l0])
      | succ k1 =>
        have H := HA.out
        clear HA
        simp only [depotlaw03_same.l0] at H
        by_cases c5 : x19_1 < (l0.length : Int)
        · rw [if_pos c5] at H
          have c5b0 : decide (x19_1 < (l0.length : Int)) = true := decide_eq_true c5
          clear c5
          by_cases c6 : 0 ≤ x19_1
          · rw [if_pos c6] at H
            have c6b0 : decide (0 ≤ x19_1) = true := decide_eq_true c6
            clear c6
            by_cases c7 : x19_1 < (l0.length : Int)
            · rw [if_pos c7] at H
              have c7b0 : decide (x19_1 < (l0.length : Int)) = true := decide_eq_true c7
              clear c7
              obtain ⟨ji8, hji8⟩ : ∃ j_ : Int, (wrap64 (a2 + x19_1)) = j_ := ⟨_, rfl⟩
              replace H : (if 0 ≤ (ji8) then (if (ji8) < (l1.length : Int) then (if (((rd_T55 l0 x19_1).f0) != ((rd_T78 l1 (ji8)).f0)) = true then (some false) else (if ((rd_T55 l0 x19_1).f1) = ((rd_T78 l1 (ji8)).f1) then (if ((rd_T55 l0 x19_1).f2).toList = ((rd_T78 l1 (ji8)).f2).toList then (depotlaw03_same.l0 k1 l1 a2 l0 (l0.length : Int) (wrap64 (x19_1 + 1))) else (some false)) else (some false))) else (none)) else (none)) = some r := by first | (rw [hji8] at H; exact H) | (simp only [hji8] at H ⊢; exact H)
              have hji8w : (IntKind.i64.wrap (a2 + x19_1)) = ji8 := (i64_w _).trans hji8
              by_cases c9 : 0 ≤ (ji8)
              · rw [if_pos c9] at H
                have c9b0 : decide (0 ≤ (ji8)) = true := decide_eq_true c9
                clear c9
                by_cases c10 : (ji8) < (l1.length : Int)
                · rw [if_pos c10] at H
                  have c10b0 : decide ((ji8) < (l1.length : Int)) = true := decide_eq_true c10
                  clear c10
                  by_cases c11 : (((rd_T55 l0 x19_1).f0) != ((rd_T78 l1 (ji8)).f0)) = true
                  · rw [if_pos c11] at H
                    have c11b0 : (((rd_T55 l0 x19_1).f0) != ((rd_T78 l1 (ji8)).f0)) = true := c11
                    (try (have c11b1 : decide (((rd_T55 l0 x19_1).f0) = ((rd_T78 l1 (ji8)).f0)) = false := by simpa using c11))
                    (try (have c11b2 : (((rd_T55 l0 x19_1).f0) == ((rd_T78 l1 (ji8)).f0)) = false := by simpa using c11))
                    (try (have c11b3 : ¬ (((rd_T55 l0 x19_1).f0) = ((rd_T78 l1 (ji8)).f0)) := by simpa using c11))
                    clear c11
                    obtain rfl := Option.some.inj H
                    have p158 : 0 ≤ (x19_1 : Int) := of_decide_eq_true (by first | (with_reducible assumption) | assumption)
                    have q158 : x19_1 < (l0.length : Int) := of_decide_eq_true (by first | (with_reducible assumption) | assumption)
                    obtain ⟨ad158, e158, hx158_0, hx158_1, hx158_2⟩ := at_T55 HR0.out x19_1 p158 q158
                    cases e158
                    replace hx158_0 := (HB.out.cell (World.block_lt_of_cell? w _ hx158_0)).trans hx158_0
                    replace hx158_1 := (HB.out.cell (World.block_lt_of_cell? w _ hx158_1)).trans hx158_1
                    replace hx158_2 := (HB.out.cell (World.block_lt_of_cell? w _ hx158_2)).trans hx158_2
                    replace p158 := eq_true p158
                    replace q158 := eq_true q158
                    go_wp2_with (first | ((with_reducible refine gate_dst (N := 8) rfl ?_); refine box_event ?hg (N := 8) ?hd (cs := #[.bool false, .int .u64 0, .string (⟨#[]⟩ : ByteArray)]) (t := 55) ?hr ?_; (case hd => rfl); (case hg => rfl); (case hr => first | (go_simp; done) | (go_simp; rfl)); intro gb159 hg w12 hbox hb; have n0_ := Aside0.mk (below_step (by repeat (first | (with_reducible first | exact HB.out | apply below_alloc | apply pw_below_drewN | apply below_drew1) | exact HB.out)) hb); have n1_ := Aside0.mk (hbox); have n2_ := Aside0.mk ((by rw [hg]; exact (below_size (by repeat (first | (with_reducible first | exact HB.out | apply below_alloc | apply pw_below_drewN | apply below_drew1) | exact HB.out))) : w.heap.size ≤ gb159)); have n3_ := Aside0.mk ((by rw [hg]; exact (below_size (by repeat (first | (with_reducible first | exact HB.out | apply below_alloc | apply pw_below_drewN | apply below_drew1) | exact HB.out))) : w.heap.size ≤ gb159)); clear HB; have HB := n0_; have BK159 := n1_; have GW159 := n2_; have GE159 := n3_; clear n0_ n1_ n2_ n3_; clear hb hbox hg; have hcz13_0 : w12.cell? ⟨gb159, 0, none⟩ = some (.bool false) := (blk_cell BK159.out 0).trans rfl; have hcz13_1 : w12.cell? ⟨gb159, 1, none⟩ = some (.int .u64 0) := (blk_cell BK159.out 1).trans rfl; have hcz13_2 : w12.cell? ⟨gb159, 2, none⟩ = some (.string (⟨#[]⟩ : ByteArray)) := (blk_cell BK159.out 2).trans rfl; have hfz13_0 := blk_frozen BK159.out 0; have hfz13_1 := blk_frozen BK159.out 1; have hfz13_2 := blk_frozen BK159.out 2; have p160 : 0 ≤ ((ji8) : Int) := of_decide_eq_true (by first | (with_reducible assumption) | assumption); have q160 : (ji8) < (l1.length : Int) := of_decide_eq_true (by first | (with_reducible assumption) | assumption); obtain ⟨ad160, e160, hx160_0, hx160_1, hx160_2⟩ := at_T78 HR1.out (ji8) p160 q160; cases e160; have hn160_0 : ad160.block ≠ gb159 := Nat.ne_of_lt (Nat.lt_of_lt_of_le (by have := World.block_lt_of_cell? _ _ hx160_0; first | rwa [add_block] at this | exact this) GW159.out); have hn160_1 : ad160.block ≠ gb159 := Nat.ne_of_lt (Nat.lt_of_lt_of_le (by have := World.block_lt_of_cell? _ _ hx160_0; first | rwa [add_block] at this | exact this) GW159.out); have hn160_2 : ad160.block ≠ gb159 := Nat.ne_of_lt (Nat.lt_of_lt_of_le (by have := World.block_lt_of_cell? _ _ hx160_0; first | rwa [add_block] at this | exact this) GW159.out); replace hx160_0 := (HB.out.cell (World.block_lt_of_cell? w _ hx160_0)).trans hx160_0; replace hx160_1 := (HB.out.cell (World.block_lt_of_cell? w _ hx160_1)).trans hx160_1; replace hx160_2 := (HB.out.cell (World.block_lt_of_cell? w _ hx160_2)).trans hx160_2; replace hx160_0 := (cell_far (p := ⟨gb159, 0, none⟩) (by first | (rw [add_block]; exact hn160_0) | (show (Addr.add _ _).block ≠ _; rw [add_block]; exact hn160_0) | exact hn160_0) (.bool ((rd_T55 l0 x19_1).f0))).trans hx160_0; replace hx160_1 := (cell_far (p := ⟨gb159, 0, none⟩) (by first | (rw [add_block]; exact hn160_0) | (show (Addr.add _ _).block ≠ _; rw [add_block]; exact hn160_0) | exact hn160_0) (.bool ((rd_T55 l0 x19_1).f0))).trans hx160_1; replace hx160_2 := (cell_far (p := ⟨gb159, 0, none⟩) (by first | (rw [add_block]; exact hn160_0) | (show (Addr.add _ _).block ≠ _; rw [add_block]; exact hn160_0) | exact hn160_0) (.bool ((rd_T55 l0 x19_1).f0))).trans hx160_2; replace hx160_0 := (cell_far (p := ⟨gb159, 1, none⟩) (by first | (rw [add_block]; exact hn160_1) | (show (Addr.add _ _).block ≠ _; rw [add_block]; exact hn160_1) | exact hn160_1) (.int .u64 ((rd_T55 l0 x19_1).f1))).trans hx160_0; replace hx160_1 := (cell_far (p := ⟨gb159, 1, none⟩) (by first | (rw [add_block]; exact hn160_1) | (show (Addr.add _ _).block ≠ _; rw [add_block]; exact hn160_1) | exact hn160_1) (.int .u64 ((rd_T55 l0 x19_1).f1))).trans hx160_1; replace hx160_2 := (cell_far (p := ⟨gb159, 1, none⟩) (by first | (rw [add_block]; exact hn160_1) | (show (Addr.add _ _).block ≠ _; rw [add_block]; exact hn160_1) | exact hn160_1) (.int .u64 ((rd_T55 l0 x19_1).f1))).trans hx160_2; replace hx160_0 := (cell_far (p := ⟨gb159, 2, none⟩) (by first | (rw [add_block]; exact hn160_2) | (show (Addr.add _ _).block ≠ _; rw [add_block]; exact hn160_2) | exact hn160_2) (.string ((rd_T55 l0 x19_1).f2))).trans hx160_0; replace hx160_1 := (cell_far (p := ⟨gb159, 2, none⟩) (by first | (rw [add_block]; exact hn160_2) | (show (Addr.add _ _).block ≠ _; rw [add_block]; exact hn160_2) | exact hn160_2) (.string ((rd_T55 l0 x19_1).f2))).trans hx160_1; replace hx160_2 := (cell_far (p := ⟨gb159, 2, none⟩) (by first | (rw [add_block]; exact hn160_2) | (show (Addr.add _ _).block ≠ _; rw [add_block]; exact hn160_2) | exact hn160_2) (.string ((rd_T55 l0 x19_1).f2))).trans hx160_2; clear hn160_0; clear hn160_1; clear hn160_2; replace p160 := eq_true p160; replace q160 := eq_true q160) | ((with_reducible refine gate_dst (N := 9) rfl ?_); refine box_event ?hg (N := 9) ?hd (cs := #[.bool false, .int .u64 0, .string (⟨#[]⟩ : ByteArray)]) (t := 78) ?hr ?_; (case hd => rfl); (case hg => rfl); (case hr => first | (go_simp; done) | (go_simp; rfl)); intro gb161 hg w14 hbox hb; have n0_ := Aside0.mk (blk_below (g := gb159) (o := .cells #[.bool ((rd_T55 l0 x19_1).f0), .int .u64 ((rd_T55 l0 x19_1).f1), .string ((rd_T55 l0 x19_1).f2)] 55 (0, 0)) (by (with_reducible repeat (first | refine blk_drewN ?_ _ | refine blk_drew ?_ | refine blk_alloc ?_ _)); refine blk_put (cs := #[.bool ((rd_T55 l0 x19_1).f0), .int .u64 ((rd_T55 l0 x19_1).f1), .string (⟨#[]⟩ : ByteArray)]) ?_ 2 _ rfl; (with_reducible repeat (first | refine blk_drewN ?_ _ | refine blk_drew ?_ | refine blk_alloc ?_ _)); refine blk_put (cs := #[.bool ((rd_T55 l0 x19_1).f0), .int .u64 0, .string (⟨#[]⟩ : ByteArray)]) ?_ 1 _ rfl; (with_reducible repeat (first | refine blk_drewN ?_ _ | refine blk_drew ?_ | refine blk_alloc ?_ _)); refine blk_put (cs := #[.bool false, .int .u64 0, .string (⟨#[]⟩ : ByteArray)]) ?_ 0 _ rfl; (with_reducible repeat (first | refine blk_drewN ?_ _ | refine blk_drew ?_ | refine blk_alloc ?_ _)); exact BK159.out) hb); have n1_ := Aside0.mk (below_step (by repeat (first | (with_reducible first | exact HB.out | apply below_alloc | apply pw_below_drewN | apply below_drew1 | refine below_set ?_ GE159.out) | exact HB.out)) hb); have n2_ := Aside0.mk (hbox); have n3_ := Aside0.mk ((by rw [hg]; exact (below_size (by repeat (first | (with_reducible first | exact HB.out | apply below_alloc | apply pw_below_drewN | apply below_drew1 | refine below_set ?_ GE159.out) | exact HB.out))) : w.heap.size ≤ gb161)); have n4_ := Aside0.mk ((by rw [hg]; exact (below_size (by repeat (first | (with_reducible first | exact HB.out | apply below_alloc | apply pw_below_drewN | apply below_drew1 | refine below_set ?_ GE159.out) | exact HB.out))) : w.heap.size ≤ gb161)); have n5_ := Aside0.mk ((by rw [hg]; exact Nat.ne_of_lt (blk_lt (g := gb159) (o := .cells #[.bool ((rd_T55 l0 x19_1).f0), .int .u64 ((rd_T55 l0 x19_1).f1), .string ((rd_T55 l0 x19_1).f2)] 55 (0, 0)) (by (with_reducible repeat (first | refine blk_drewN ?_ _ | refine blk_drew ?_ | refine blk_alloc ?_ _)); refine blk_put (cs := #[.bool ((rd_T55 l0 x19_1).f0), .int .u64 ((rd_T55 l0 x19_1).f1), .string (⟨#[]⟩ : ByteArray)]) ?_ 2 _ rfl; (with_reducible repeat (first | refine blk_drewN ?_ _ | refine blk_drew ?_ | refine blk_alloc ?_ _)); refine blk_put (cs := #[.bool ((rd_T55 l0 x19_1).f0), .int .u64 0, .string (⟨#[]⟩ : ByteArray)]) ?_ 1 _ rfl; (with_reducible repeat (first | refine blk_drewN ?_ _ | refine blk_drew ?_ | refine blk_alloc ?_ _)); refine blk_put (cs := #[.bool false, .int .u64 0, .string (⟨#[]⟩ : ByteArray)]) ?_ 0 _ rfl; (with_reducible repeat (first | refine blk_drewN ?_ _ | refine blk_drew ?_ | refine blk_alloc ?_ _)); exact BK159.out)) : gb159 ≠ gb161)); have n6_ := Aside0.mk ((by rw [hg]; exact Nat.ne_of_gt (blk_lt (g := gb159) (o := .cells #[.bool ((rd_T55 l0 x19_1).f0), .int .u64 ((rd_T55 l0 x19_1).f1), .string ((rd_T55 l0 x19_1).f2)] 55 (0, 0)) (by (with_reducible repeat (first | refine blk_drewN ?_ _ | refine blk_drew ?_ | refine blk_alloc ?_ _)); refine blk_put (cs := #[.bool ((rd_T55 l0 x19_1).f0), .int .u64 ((rd_T55 l0 x19_1).f1), .string (⟨#[]⟩ : ByteArray)]) ?_ 2 _ rfl; (with_reducible repeat (first | refine blk_drewN ?_ _ | refine blk_drew ?_ | refine blk_alloc ?_ _)); refine blk_put (cs := #[.bool ((rd_T55 l0 x19_1).f0), .int .u64 0, .string (⟨#[]⟩ : ByteArray)]) ?_ 1 _ rfl; (with_reducible repeat (first | refine blk_drewN ?_ _ | refine blk_drew ?_ | refine blk_alloc ?_ _)); refine blk_put (cs := #[.bool false, .int .u64 0, .string (⟨#[]⟩ : ByteArray)]) ?_ 0 _ rfl; (with_reducible repeat (first | refine blk_drewN ?_ _ | refine blk_drew ?_ | refine blk_alloc ?_ _)); exact BK159.out)) : gb161 ≠ gb159)); clear BK159; clear HB; have BK159 := n0_; have HB := n1_; have BK161 := n2_; have GW161 := n3_; have GE161 := n4_; have NB159_161 := n5_; have NB161_159 := n6_; clear n0_ n1_ n2_ n3_ n4_ n5_ n6_; clear hb hbox hg; have hnb15 := NB161_159.out; have hnc15 := NB159_161.out; have hcz16_0 : w14.cell? ⟨gb161, 0, none⟩ = some (.bool false) := (blk_cell BK161.out 0).trans rfl; have hcz16_1 : w14.cell? ⟨gb161, 1, none⟩ = some (.int .u64 0) := (blk_cell BK161.out 1).trans rfl; have hcz16_2 : w14.cell? ⟨gb161, 2, none⟩ = some (.string (⟨#[]⟩ : ByteArray)) := (blk_cell BK161.out 2).trans rfl; have hfz16_0 := blk_frozen BK161.out 0; have hfz16_1 := blk_frozen BK161.out 1; have hfz16_2 := blk_frozen BK161.out 2; have hcz17_0 : w14.cell? ⟨gb159, 0, none⟩ = some (.bool ((rd_T55 l0 x19_1).f0)) := (blk_cell BK159.out 0).trans rfl; have hcz17_1 : w14.cell? ⟨gb159, 1, none⟩ = some (.int .u64 ((rd_T55 l0 x19_1).f1)) := (blk_cell BK159.out 1).trans rfl; have hcz17_2 : w14.cell? ⟨gb159, 2, none⟩ = some (.string ((rd_T55 l0 x19_1).f2)) := (blk_cell BK159.out 2).trans rfl; have hfz17_0 := blk_frozen BK159.out 0; have hfz17_1 := blk_frozen BK159.out 1; have hfz17_2 := blk_frozen BK159.out 2))
                    go_ret
                    exact ⟨by first | rfl | (simp [errW_none, errW_some] <;> rfl) | (simp only [← hji8]; first | rfl | (simp [errW_none, errW_some] <;> rfl)) | (simp [*, errW_none, errW_some] <;> rfl), by repeat (first | (with_reducible first | exact HB.out | apply below_alloc | apply pw_below_drewN | apply below_drew1 | refine below_set ?_ GE159.out | refine below_set ?_ GE161.out) | exact HB.out)⟩
                  · rw [if_neg c11] at H
                    have c11b0 : (((rd_T55 l0 x19_1).f0) != ((rd_T78 l1 (ji8)).f0)) = false := by simpa using c11
                    (try (have c11b1 : decide (((rd_T55 l0 x19_1).f0) = ((rd_T78 l1 (ji8)).f0)) = true := by simpa using c11))
                    (try (have c11b2 : (((rd_T55 l0 x19_1).f0) == ((rd_T78 l1 (ji8)).f0)) = true := by simpa using c11))
                    clear c11
                    by_cases c18 : ((rd_T55 l0 x19_1).f1) = ((rd_T78 l1 (ji8)).f1)
                    · rw [if_pos c18] at H
                      have c18b0 : (((rd_T55 l0 x19_1).f1) == ((rd_T78 l1 (ji8)).f1)) = true := beq_iff_eq.mpr c18
                      have c18b1 : (((rd_T55 l0 x19_1).f1) != ((rd_T78 l1 (ji8)).f1)) = false := bne_eq_false_iff_eq.mpr c18
                      clear c18
                      by_cases c19 : ((rd_T55 l0 x19_1).f2).toList = ((rd_T78 l1 (ji8)).f2).toList
                      · rw [if_pos c19] at H
                        have c19b0 : (((rd_T55 l0 x19_1).f2).toList == ((rd_T78 l1 (ji8)).f2).toList) = true := beq_iff_eq.mpr c19
                        have c19b1 : (((rd_T55 l0 x19_1).f2).toList != ((rd_T78 l1 (ji8)).f2).toList) = false := bne_eq_false_iff_eq.mpr c19
                        clear c19
                        have H' := Aside0.mk H
                        clear H
                        have p158 : 0 ≤ (x19_1 : Int) := of_decide_eq_true (by first | (with_reducible assumption) | assumption)
                        have q158 : x19_1 < (l0.length : Int) := of_decide_eq_true (by first | (with_reducible assumption) | assumption)
                        obtain ⟨ad158, e158, hx158_0, hx158_1, hx158_2⟩ := at_T55 HR0.out x19_1 p158 q158
                        cases e158
                        replace hx158_0 := (HB.out.cell (World.block_lt_of_cell? w _ hx158_0)).trans hx158_0
                        replace hx158_1 := (HB.out.cell (World.block_lt_of_cell? w _ hx158_1)).trans hx158_1
                        replace hx158_2 := (HB.out.cell (World.block_lt_of_cell? w _ hx158_2)).trans hx158_2
                        replace p158 := eq_true p158
                        replace q158 := eq_true q158
                        go_wp2_with (first | ((with_reducible refine gate_dst (N := 8) rfl ?_); refine box_event ?hg (N := 8) ?hd (cs := #[.bool false, .int .u64 0, .string (⟨#[]⟩ : ByteArray)]) (t := 55) ?hr ?_; (case hd => rfl); (case hg => rfl); (case hr => first | (go_simp; done) | (go_simp; rfl)); intro gb159 hg w20 hbox hb; have n0_ := Aside0.mk (below_step (by repeat (first | (with_reducible first | exact HB.out | apply below_alloc | apply pw_below_drewN | apply below_drew1) | exact HB.out)) hb); have n1_ := Aside0.mk (hbox); have n2_ := Aside0.mk ((by rw [hg]; exact (below_size (by repeat (first | (with_reducible first | exact HB.out | apply below_alloc | apply pw_below_drewN | apply below_drew1) | exact HB.out))) : w.heap.size ≤ gb159)); have n3_ := Aside0.mk ((by rw [hg]; exact (below_size (by repeat (first | (with_reducible first | exact HB.out | apply below_alloc | apply pw_below_drewN | apply below_drew1) | exact HB.out))) : w.heap.size ≤ gb159)); clear HB; have HB := n0_; have BK159 := n1_; have GW159 := n2_; have GE159 := n3_; clear n0_ n1_ n2_ n3_; clear hb hbox hg; have hcz21_0 : w20.cell? ⟨gb159, 0, none⟩ = some (.bool false) := (blk_cell BK159.out 0).trans rfl; have hcz21_1 : w20.cell? ⟨gb159, 1, none⟩ = some (.int .u64 0) := (blk_cell BK159.out 1).trans rfl; have hcz21_2 : w20.cell? ⟨gb159, 2, none⟩ = some (.string (⟨#[]⟩ : ByteArray)) := (blk_cell BK159.out 2).trans rfl; have hfz21_0 := blk_frozen BK159.out 0; have hfz21_1 := blk_frozen BK159.out 1; have hfz21_2 := blk_frozen BK159.out 2; have p160 : 0 ≤ ((ji8) : Int) := of_decide_eq_true (by first | (with_reducible assumption) | assumption); have q160 : (ji8) < (l1.length : Int) := of_decide_eq_true (by first | (with_reducible assumption) | assumption); obtain ⟨ad160, e160, hx160_0, hx160_1, hx160_2⟩ := at_T78 HR1.out (ji8) p160 q160; cases e160; have hn160_0 : ad160.block ≠ gb159 := Nat.ne_of_lt (Nat.lt_of_lt_of_le (by have := World.block_lt_of_cell? _ _ hx160_0; first | rwa [add_block] at this | exact this) GW159.out); have hn160_1 : ad160.block ≠ gb159 := Nat.ne_of_lt (Nat.lt_of_lt_of_le (by have := World.block_lt_of_cell? _ _ hx160_0; first | rwa [add_block] at this | exact this) GW159.out); have hn160_2 : ad160.block ≠ gb159 := Nat.ne_of_lt (Nat.lt_of_lt_of_le (by have := World.block_lt_of_cell? _ _ hx160_0; first | rwa [add_block] at this | exact this) GW159.out); replace hx160_0 := (HB.out.cell (World.block_lt_of_cell? w _ hx160_0)).trans hx160_0; replace hx160_1 := (HB.out.cell (World.block_lt_of_cell? w _ hx160_1)).trans hx160_1; replace hx160_2 := (HB.out.cell (World.block_lt_of_cell? w _ hx160_2)).trans hx160_2; replace hx160_0 := (cell_far (p := ⟨gb159, 0, none⟩) (by first | (rw [add_block]; exact hn160_0) | (show (Addr.add _ _).block ≠ _; rw [add_block]; exact hn160_0) | exact hn160_0) (.bool ((rd_T55 l0 x19_1).f0))).trans hx160_0; replace hx160_1 := (cell_far (p := ⟨gb159, 0, none⟩) (by first | (rw [add_block]; exact hn160_0) | (show (Addr.add _ _).block ≠ _; rw [add_block]; exact hn160_0) | exact hn160_0) (.bool ((rd_T55 l0 x19_1).f0))).trans hx160_1; replace hx160_2 := (cell_far (p := ⟨gb159, 0, none⟩) (by first | (rw [add_block]; exact hn160_0) | (show (Addr.add _ _).block ≠ _; rw [add_block]; exact hn160_0) | exact hn160_0) (.bool ((rd_T55 l0 x19_1).f0))).trans hx160_2; replace hx160_0 := (cell_far (p := ⟨gb159, 1, none⟩) (by first | (rw [add_block]; exact hn160_1) | (show (Addr.add _ _).block ≠ _; rw [add_block]; exact hn160_1) | exact hn160_1) (.int .u64 ((rd_T55 l0 x19_1).f1))).trans hx160_0; replace hx160_1 := (cell_far (p := ⟨gb159, 1, none⟩) (by first | (rw [add_block]; exact hn160_1) | (show (Addr.add _ _).block ≠ _; rw [add_block]; exact hn160_1) | exact hn160_1) (.int .u64 ((rd_T55 l0 x19_1).f1))).trans hx160_1; replace hx160_2 := (cell_far (p := ⟨gb159, 1, none⟩) (by first | (rw [add_block]; exact hn160_1) | (show (Addr.add _ _).block ≠ _; rw [add_block]; exact hn160_1) | exact hn160_1) (.int .u64 ((rd_T55 l0 x19_1).f1))).trans hx160_2; replace hx160_0 := (cell_far (p := ⟨gb159, 2, none⟩) (by first | (rw [add_block]; exact hn160_2) | (show (Addr.add _ _).block ≠ _; rw [add_block]; exact hn160_2) | exact hn160_2) (.string ((rd_T55 l0 x19_1).f2))).trans hx160_0; replace hx160_1 := (cell_far (p := ⟨gb159, 2, none⟩) (by first | (rw [add_block]; exact hn160_2) | (show (Addr.add _ _).block ≠ _; rw [add_block]; exact hn160_2) | exact hn160_2) (.string ((rd_T55 l0 x19_1).f2))).trans hx160_1; replace hx160_2 := (cell_far (p := ⟨gb159, 2, none⟩) (by first | (rw [add_block]; exact hn160_2) | (show (Addr.add _ _).block ≠ _; rw [add_block]; exact hn160_2) | exact hn160_2) (.string ((rd_T55 l0 x19_1).f2))).trans hx160_2; clear hn160_0; clear hn160_1; clear hn160_2; replace p160 := eq_true p160; replace q160 := eq_true q160) | ((with_reducible refine gate_dst (N := 9) rfl ?_); refine box_event ?hg (N := 9) ?hd (cs := #[.bool false, .int .u64 0, .string (⟨#[]⟩ : ByteArray)]) (t := 78) ?hr ?_; (case hd => rfl); (case hg => rfl); (case hr => first | (go_simp; done) | (go_simp; rfl)); intro gb161 hg w22 hbox hb; have n0_ := Aside0.mk (blk_below (g := gb159) (o := .cells #[.bool ((rd_T55 l0 x19_1).f0), .int .u64 ((rd_T55 l0 x19_1).f1), .string ((rd_T55 l0 x19_1).f2)] 55 (0, 0)) (by (with_reducible repeat (first | refine blk_drewN ?_ _ | refine blk_drew ?_ | refine blk_alloc ?_ _)); refine blk_put (cs := #[.bool ((rd_T55 l0 x19_1).f0), .int .u64 ((rd_T55 l0 x19_1).f1), .string (⟨#[]⟩ : ByteArray)]) ?_ 2 _ rfl; (with_reducible repeat (first | refine blk_drewN ?_ _ | refine blk_drew ?_ | refine blk_alloc ?_ _)); refine blk_put (cs := #[.bool ((rd_T55 l0 x19_1).f0), .int .u64 0, .string (⟨#[]⟩ : ByteArray)]) ?_ 1 _ rfl; (with_reducible repeat (first | refine blk_drewN ?_ _ | refine blk_drew ?_ | refine blk_alloc ?_ _)); refine blk_put (cs := #[.bool false, .int .u64 0, .string (⟨#[]⟩ : ByteArray)]) ?_ 0 _ rfl; (with_reducible repeat (first | refine blk_drewN ?_ _ | refine blk_drew ?_ | refine blk_alloc ?_ _)); exact BK159.out) hb); have n1_ := Aside0.mk (below_step (by repeat (first | (with_reducible first | exact HB.out | apply below_alloc | apply pw_below_drewN | apply below_drew1 | refine below_set ?_ GE159.out) | exact HB.out)) hb); have n2_ := Aside0.mk (hbox); have n3_ := Aside0.mk ((by rw [hg]; exact (below_size (by repeat (first | (with_reducible first | exact HB.out | apply below_alloc | apply pw_below_drewN | apply below_drew1 | refine below_set ?_ GE159.out) | exact HB.out))) : w.heap.size ≤ gb161)); have n4_ := Aside0.mk ((by rw [hg]; exact (below_size (by repeat (first | (with_reducible first | exact HB.out | apply below_alloc | apply pw_below_drewN | apply below_drew1 | refine below_set ?_ GE159.out) | exact HB.out))) : w.heap.size ≤ gb161)); have n5_ := Aside0.mk ((by rw [hg]; exact Nat.ne_of_lt (blk_lt (g := gb159) (o := .cells #[.bool ((rd_T55 l0 x19_1).f0), .int .u64 ((rd_T55 l0 x19_1).f1), .string ((rd_T55 l0 x19_1).f2)] 55 (0, 0)) (by (with_reducible repeat (first | refine blk_drewN ?_ _ | refine blk_drew ?_ | refine blk_alloc ?_ _)); refine blk_put (cs := #[.bool ((rd_T55 l0 x19_1).f0), .int .u64 ((rd_T55 l0 x19_1).f1), .string (⟨#[]⟩ : ByteArray)]) ?_ 2 _ rfl; (with_reducible repeat (first | refine blk_drewN ?_ _ | refine blk_drew ?_ | refine blk_alloc ?_ _)); refine blk_put (cs := #[.bool ((rd_T55 l0 x19_1).f0), .int .u64 0, .string (⟨#[]⟩ : ByteArray)]) ?_ 1 _ rfl; (with_reducible repeat (first | refine blk_drewN ?_ _ | refine blk_drew ?_ | refine blk_alloc ?_ _)); refine blk_put (cs := #[.bool false, .int .u64 0, .string (⟨#[]⟩ : ByteArray)]) ?_ 0 _ rfl; (with_reducible repeat (first | refine blk_drewN ?_ _ | refine blk_drew ?_ | refine blk_alloc ?_ _)); exact BK159.out)) : gb159 ≠ gb161)); have n6_ := Aside0.mk ((by rw [hg]; exact Nat.ne_of_gt (blk_lt (g := gb159) (o := .cells #[.bool ((rd_T55 l0 x19_1).f0), .int .u64 ((rd_T55 l0 x19_1).f1), .string ((rd_T55 l0 x19_1).f2)] 55 (0, 0)) (by (with_reducible repeat (first | refine blk_drewN ?_ _ | refine blk_drew ?_ | refine blk_alloc ?_ _)); refine blk_put (cs := #[.bool ((rd_T55 l0 x19_1).f0), .int .u64 ((rd_T55 l0 x19_1).f1), .string (⟨#[]⟩ : ByteArray)]) ?_ 2 _ rfl; (with_reducible repeat (first | refine blk_drewN ?_ _ | refine blk_drew ?_ | refine blk_alloc ?_ _)); refine blk_put (cs := #[.bool ((rd_T55 l0 x19_1).f0), .int .u64 0, .string (⟨#[]⟩ : ByteArray)]) ?_ 1 _ rfl; (with_reducible repeat (first | refine blk_drewN ?_ _ | refine blk_drew ?_ | refine blk_alloc ?_ _)); refine blk_put (cs := #[.bool false, .int .u64 0, .string (⟨#[]⟩ : ByteArray)]) ?_ 0 _ rfl; (with_reducible repeat (first | refine blk_drewN ?_ _ | refine blk_drew ?_ | refine blk_alloc ?_ _)); exact BK159.out)) : gb161 ≠ gb159)); clear BK159; clear HB; have BK159 := n0_; have HB := n1_; have BK161 := n2_; have GW161 := n3_; have GE161 := n4_; have NB159_161 := n5_; have NB161_159 := n6_; clear n0_ n1_ n2_ n3_ n4_ n5_ n6_; clear hb hbox hg; have hnb23 := NB161_159.out; have hnc23 := NB159_161.out; have hcz24_0 : w22.cell? ⟨gb161, 0, none⟩ = some (.bool false) := (blk_cell BK161.out 0).trans rfl; have hcz24_1 : w22.cell? ⟨gb161, 1, none⟩ = some (.int .u64 0) := (blk_cell BK161.out 1).trans rfl; have hcz24_2 : w22.cell? ⟨gb161, 2, none⟩ = some (.string (⟨#[]⟩ : ByteArray)) := (blk_cell BK161.out 2).trans rfl; have hfz24_0 := blk_frozen BK161.out 0; have hfz24_1 := blk_frozen BK161.out 1; have hfz24_2 := blk_frozen BK161.out 2; have hcz25_0 : w22.cell? ⟨gb159, 0, none⟩ = some (.bool ((rd_T55 l0 x19_1).f0)) := (blk_cell BK159.out 0).trans rfl; have hcz25_1 : w22.cell? ⟨gb159, 1, none⟩ = some (.int .u64 ((rd_T55 l0 x19_1).f1)) := (blk_cell BK159.out 1).trans rfl; have hcz25_2 : w22.cell? ⟨gb159, 2, none⟩ = some (.string ((rd_T55 l0 x19_1).f2)) := (blk_cell BK159.out 2).trans rfl; have hfz25_0 := blk_frozen BK159.out 0; have hfz25_1 := blk_frozen BK159.out 1; have hfz25_2 := blk_frozen BK159.out 2))
                        go_roundg k1
                        case measure => have := HK1.out; omega
                        case rel => exact ⟨(wrap64 (x19_1 + 1)), (by first | rfl | (simp; done) | (simp [*]; done)), H', ⟨by have := HK1.out; omega⟩, ⟨by repeat (first | (with_reducible first | exact HB.out | apply below_alloc | apply pw_below_drewN | apply below_drew1 | refine below_set ?_ GE159.out | refine below_set ?_ GE161.out) | exact HB.out)⟩⟩
                      · rw [if_neg c19] at H
                        have c19b0 : (((rd_T55 l0 x19_1).f2).toList == ((rd_T78 l1 (ji8)).f2).toList) = false := beq_eq_false_iff_ne.mpr c19
                        have c19b1 : (((rd_T55 l0 x19_1).f2).toList != ((rd_T78 l1 (ji8)).f2).toList) = true := bne_iff_ne.mpr c19
                        obtain rfl := Option.some.inj H
                        have p158 : 0 ≤ (x19_1 : Int) := of_decide_eq_true (by first | (with_reducible assumption) | assumption)
                        have q158 : x19_1 < (l0.length : Int) := of_decide_eq_true (by first | (with_reducible assumption) | assumption)
                        obtain ⟨ad158, e158, hx158_0, hx158_1, hx158_2⟩ := at_T55 HR0.out x19_1 p158 q158
                        cases e158
                        replace hx158_0 := (HB.out.cell (World.block_lt_of_cell? w _ hx158_0)).trans hx158_0
                        replace hx158_1 := (HB.out.cell (World.block_lt_of_cell? w _ hx158_1)).trans hx158_1
                        replace hx158_2 := (HB.out.cell (World.block_lt_of_cell? w _ hx158_2)).trans hx158_2
                        replace p158 := eq_true p158
                        replace q158 := eq_true q158
                        go_wp2_with (first | ((with_reducible refine gate_dst (N := 8) rfl ?_); refine box_event ?hg (N := 8) ?hd (cs := #[.bool false, .int .u64 0, .string (⟨#[]⟩ : ByteArray)]) (t := 55) ?hr ?_; (case hd => rfl); (case hg => rfl); (case hr => first | (go_simp; done) | (go_simp; rfl)); intro gb159 hg w26 hbox hb; have n0_ := Aside0.mk (below_step (by repeat (first | (with_reducible first | exact HB.out | apply below_alloc | apply pw_below_drewN | apply below_drew1) | exact HB.out)) hb); have n1_ := Aside0.mk (hbox); have n2_ := Aside0.mk ((by rw [hg]; exact (below_size (by repeat (first | (with_reducible first | exact HB.out | apply below_alloc | apply pw_below_drewN | apply below_drew1) | exact HB.out))) : w.heap.size ≤ gb159)); have n3_ := Aside0.mk ((by rw [hg]; exact (below_size (by repeat (first | (with_reducible first | exact HB.out | apply below_alloc | apply pw_below_drewN | apply below_drew1) | exact HB.out))) : w.heap.size ≤ gb159)); clear HB; have HB := n0_; have BK159 := n1_; have GW159 := n2_; have GE159 := n3_; clear n0_ n1_ n2_ n3_; clear hb hbox hg; have hcz27_0 : w26.cell? ⟨gb159, 0, none⟩ = some (.bool false) := (blk_cell BK159.out 0).trans rfl; have hcz27_1 : w26.cell? ⟨gb159, 1, none⟩ = some (.int .u64 0) := (blk_cell BK159.out 1).trans rfl; have hcz27_2 : w26.cell? ⟨gb159, 2, none⟩ = some (.string (⟨#[]⟩ : ByteArray)) := (blk_cell BK159.out 2).trans rfl; have hfz27_0 := blk_frozen BK159.out 0; have hfz27_1 := blk_frozen BK159.out 1; have hfz27_2 := blk_frozen BK159.out 2; have p160 : 0 ≤ ((ji8) : Int) := of_decide_eq_true (by first | (with_reducible assumption) | assumption); have q160 : (ji8) < (l1.length : Int) := of_decide_eq_true (by first | (with_reducible assumption) | assumption); obtain ⟨ad160, e160, hx160_0, hx160_1, hx160_2⟩ := at_T78 HR1.out (ji8) p160 q160; cases e160; have hn160_0 : ad160.block ≠ gb159 := Nat.ne_of_lt (Nat.lt_of_lt_of_le (by have := World.block_lt_of_cell? _ _ hx160_0; first | rwa [add_block] at this | exact this) GW159.out); have hn160_1 : ad160.block ≠ gb159 := Nat.ne_of_lt (Nat.lt_of_lt_of_le (by have := World.block_lt_of_cell? _ _ hx160_0; first | rwa [add_block] at this | exact this) GW159.out); have hn160_2 : ad160.block ≠ gb159 := Nat.ne_of_lt (Nat.lt_of_lt_of_le (by have := World.block_lt_of_cell? _ _ hx160_0; first | rwa [add_block] at this | exact this) GW159.out); replace hx160_0 := (HB.out.cell (World.block_lt_of_cell? w _ hx160_0)).trans hx160_0; replace hx160_1 := (HB.out.cell (World.block_lt_of_cell? w _ hx160_1)).trans hx160_1; replace hx160_2 := (HB.out.cell (World.block_lt_of_cell? w _ hx160_2)).trans hx160_2; replace hx160_0 := (cell_far (p := ⟨gb159, 0, none⟩) (by first | (rw [add_block]; exact hn160_0) | (show (Addr.add _ _).block ≠ _; rw [add_block]; exact hn160_0) | exact hn160_0) (.bool ((rd_T55 l0 x19_1).f0))).trans hx160_0; replace hx160_1 := (cell_far (p := ⟨gb159, 0, none⟩) (by first | (rw [add_block]; exact hn160_0) | (show (Addr.add _ _).block ≠ _; rw [add_block]; exact hn160_0) | exact hn160_0) (.bool ((rd_T55 l0 x19_1).f0))).trans hx160_1; replace hx160_2 := (cell_far (p := ⟨gb159, 0, none⟩) (by first | (rw [add_block]; exact hn160_0) | (show (Addr.add _ _).block ≠ _; rw [add_block]; exact hn160_0) | exact hn160_0) (.bool ((rd_T55 l0 x19_1).f0))).trans hx160_2; replace hx160_0 := (cell_far (p := ⟨gb159, 1, none⟩) (by first | (rw [add_block]; exact hn160_1) | (show (Addr.add _ _).block ≠ _; rw [add_block]; exact hn160_1) | exact hn160_1) (.int .u64 ((rd_T55 l0 x19_1).f1))).trans hx160_0; replace hx160_1 := (cell_far (p := ⟨gb159, 1, none⟩) (by first | (rw [add_block]; exact hn160_1) | (show (Addr.add _ _).block ≠ _; rw [add_block]; exact hn160_1) | exact hn160_1) (.int .u64 ((rd_T55 l0 x19_1).f1))).trans hx160_1; replace hx160_2 := (cell_far (p := ⟨gb159, 1, none⟩) (by first | (rw [add_block]; exact hn160_1) | (show (Addr.add _ _).block ≠ _; rw [add_block]; exact hn160_1) | exact hn160_1) (.int .u64 ((rd_T55 l0 x19_1).f1))).trans hx160_2; replace hx160_0 := (cell_far (p := ⟨gb159, 2, none⟩) (by first | (rw [add_block]; exact hn160_2) | (show (Addr.add _ _).block ≠ _; rw [add_block]; exact hn160_2) | exact hn160_2) (.string ((rd_T55 l0 x19_1).f2))).trans hx160_0; replace hx160_1 := (cell_far (p := ⟨gb159, 2, none⟩) (by first | (rw [add_block]; exact hn160_2) | (show (Addr.add _ _).block ≠ _; rw [add_block]; exact hn160_2) | exact hn160_2) (.string ((rd_T55 l0 x19_1).f2))).trans hx160_1; replace hx160_2 := (cell_far (p := ⟨gb159, 2, none⟩) (by first | (rw [add_block]; exact hn160_2) | (show (Addr.add _ _).block ≠ _; rw [add_block]; exact hn160_2) | exact hn160_2) (.string ((rd_T55 l0 x19_1).f2))).trans hx160_2; clear hn160_0; clear hn160_1; clear hn160_2; replace p160 := eq_true p160; replace q160 := eq_true q160) | ((with_reducible refine gate_dst (N := 9) rfl ?_); refine box_event ?hg (N := 9) ?hd (cs := #[.bool false, .int .u64 0, .string (⟨#[]⟩ : ByteArray)]) (t := 78) ?hr ?_; (case hd => rfl); (case hg => rfl); (case hr => first | (go_simp; done) | (go_simp; rfl)); intro gb161 hg w28 hbox hb; have n0_ := Aside0.mk (blk_below (g := gb159) (o := .cells #[.bool ((rd_T55 l0 x19_1).f0), .int .u64 ((rd_T55 l0 x19_1).f1), .string ((rd_T55 l0 x19_1).f2)] 55 (0, 0)) (by (with_reducible repeat (first | refine blk_drewN ?_ _ | refine blk_drew ?_ | refine blk_alloc ?_ _)); refine blk_put (cs := #[.bool ((rd_T55 l0 x19_1).f0), .int .u64 ((rd_T55 l0 x19_1).f1), .string (⟨#[]⟩ : ByteArray)]) ?_ 2 _ rfl; (with_reducible repeat (first | refine blk_drewN ?_ _ | refine blk_drew ?_ | refine blk_alloc ?_ _)); refine blk_put (cs := #[.bool ((rd_T55 l0 x19_1).f0), .int .u64 0, .string (⟨#[]⟩ : ByteArray)]) ?_ 1 _ rfl; (with_reducible repeat (first | refine blk_drewN ?_ _ | refine blk_drew ?_ | refine blk_alloc ?_ _)); refine blk_put (cs := #[.bool false, .int .u64 0, .string (⟨#[]⟩ : ByteArray)]) ?_ 0 _ rfl; (with_reducible repeat (first | refine blk_drewN ?_ _ | refine blk_drew ?_ | refine blk_alloc ?_ _)); exact BK159.out) hb); have n1_ := Aside0.mk (below_step (by repeat (first | (with_reducible first | exact HB.out | apply below_alloc | apply pw_below_drewN | apply below_drew1 | refine below_set ?_ GE159.out) | exact HB.out)) hb); have n2_ := Aside0.mk (hbox); have n3_ := Aside0.mk ((by rw [hg]; exact (below_size (by repeat (first | (with_reducible first | exact HB.out | apply below_alloc | apply pw_below_drewN | apply below_drew1 | refine below_set ?_ GE159.out) | exact HB.out))) : w.heap.size ≤ gb161)); have n4_ := Aside0.mk ((by rw [hg]; exact (below_size (by repeat (first | (with_reducible first | exact HB.out | apply below_alloc | apply pw_below_drewN | apply below_drew1 | refine below_set ?_ GE159.out) | exact HB.out))) : w.heap.size ≤ gb161)); have n5_ := Aside0.mk ((by rw [hg]; exact Nat.ne_of_lt (blk_lt (g := gb159) (o := .cells #[.bool ((rd_T55 l0 x19_1).f0), .int .u64 ((rd_T55 l0 x19_1).f1), .string ((rd_T55 l0 x19_1).f2)] 55 (0, 0)) (by (with_reducible repeat (first | refine blk_drewN ?_ _ | refine blk_drew ?_ | refine blk_alloc ?_ _)); refine blk_put (cs := #[.bool ((rd_T55 l0 x19_1).f0), .int .u64 ((rd_T55 l0 x19_1).f1), .string (⟨#[]⟩ : ByteArray)]) ?_ 2 _ rfl; (with_reducible repeat (first | refine blk_drewN ?_ _ | refine blk_drew ?_ | refine blk_alloc ?_ _)); refine blk_put (cs := #[.bool ((rd_T55 l0 x19_1).f0), .int .u64 0, .string (⟨#[]⟩ : ByteArray)]) ?_ 1 _ rfl; (with_reducible repeat (first | refine blk_drewN ?_ _ | refine blk_drew ?_ | refine blk_alloc ?_ _)); refine blk_put (cs := #[.bool false, .int .u64 0, .string (⟨#[]⟩ : ByteArray)]) ?_ 0 _ rfl; (with_reducible repeat (first | refine blk_drewN ?_ _ | refine blk_drew ?_ | refine blk_alloc ?_ _)); exact BK159.out)) : gb159 ≠ gb161)); have n6_ := Aside0.mk ((by rw [hg]; exact Nat.ne_of_gt (blk_lt (g := gb159) (o := .cells #[.bool ((rd_T55 l0 x19_1).f0), .int .u64 ((rd_T55 l0 x19_1).f1), .string ((rd_T55 l0 x19_1).f2)] 55 (0, 0)) (by (with_reducible repeat (first | refine blk_drewN ?_ _ | refine blk_drew ?_ | refine blk_alloc ?_ _)); refine blk_put (cs := #[.bool ((rd_T55 l0 x19_1).f0), .int .u64 ((rd_T55 l0 x19_1).f1), .string (⟨#[]⟩ : ByteArray)]) ?_ 2 _ rfl; (with_reducible repeat (first | refine blk_drewN ?_ _ | refine blk_drew ?_ | refine blk_alloc ?_ _)); refine blk_put (cs := #[.bool ((rd_T55 l0 x19_1).f0), .int .u64 0, .string (⟨#[]⟩ : ByteArray)]) ?_ 1 _ rfl; (with_reducible repeat (first | refine blk_drewN ?_ _ | refine blk_drew ?_ | refine blk_alloc ?_ _)); refine blk_put (cs := #[.bool false, .int .u64 0, .string (⟨#[]⟩ : ByteArray)]) ?_ 0 _ rfl; (with_reducible repeat (first | refine blk_drewN ?_ _ | refine blk_drew ?_ | refine blk_alloc ?_ _)); exact BK159.out)) : gb161 ≠ gb159)); clear BK159; clear HB; have BK159 := n0_; have HB := n1_; have BK161 := n2_; have GW161 := n3_; have GE161 := n4_; have NB159_161 := n5_; have NB161_159 := n6_; clear n0_ n1_ n2_ n3_ n4_ n5_ n6_; clear hb hbox hg; have hnb29 := NB161_159.out; have hnc29 := NB159_161.out; have hcz30_0 : w28.cell? ⟨gb161, 0, none⟩ = some (.bool false) := (blk_cell BK161.out 0).trans rfl; have hcz30_1 : w28.cell? ⟨gb161, 1, none⟩ = some (.int .u64 0) := (blk_cell BK161.out 1).trans rfl; have hcz30_2 : w28.cell? ⟨gb161, 2, none⟩ = some (.string (⟨#[]⟩ : ByteArray)) := (blk_cell BK161.out 2).trans rfl; have hfz30_0 := blk_frozen BK161.out 0; have hfz30_1 := blk_frozen BK161.out 1; have hfz30_2 := blk_frozen BK161.out 2; have hcz31_0 : w28.cell? ⟨gb159, 0, none⟩ = some (.bool ((rd_T55 l0 x19_1).f0)) := (blk_cell BK159.out 0).trans rfl; have hcz31_1 : w28.cell? ⟨gb159, 1, none⟩ = some (.int .u64 ((rd_T55 l0 x19_1).f1)) := (blk_cell BK159.out 1).trans rfl; have hcz31_2 : w28.cell? ⟨gb159, 2, none⟩ = some (.string ((rd_T55 l0 x19_1).f2)) := (blk_cell BK159.out 2).trans rfl; have hfz31_0 := blk_frozen BK159.out 0; have hfz31_1 := blk_frozen BK159.out 1; have hfz31_2 := blk_frozen BK159.out 2))
                        go_ret
                        exact ⟨by first | rfl | (simp [errW_none, errW_some] <;> rfl) | (simp only [← hji8]; first | rfl | (simp [errW_none, errW_some] <;> rfl)) | (simp [*, errW_none, errW_some] <;> rfl), by repeat (first | (with_reducible first | exact HB.out | apply below_alloc | apply pw_below_drewN | apply below_drew1 | refine below_set ?_ GE159.out | refine below_set ?_ GE161.out) | exact HB.out)⟩
                    · rw [if_neg c18] at H
                      have c18b0 : (((rd_T55 l0 x19_1).f1) == ((rd_T78 l1 (ji8)).f1)) = false := beq_eq_false_iff_ne.mpr c18
                      have c18b1 : (((rd_T55 l0 x19_1).f1) != ((rd_T78 l1 (ji8)).f1)) = true := bne_iff_ne.mpr c18
                      obtain rfl := Option.some.inj H
                      have p158 : 0 ≤ (x19_1 : Int) := of_decide_eq_true (by first | (with_reducible assumption) | assumption)
                      have q158 : x19_1 < (l0.length : Int) := of_decide_eq_true (by first | (with_reducible assumption) | assumption)
                      obtain ⟨ad158, e158, hx158_0, hx158_1, hx158_2⟩ := at_T55 HR0.out x19_1 p158 q158
                      cases e158
                      replace hx158_0 := (HB.out.cell (World.block_lt_of_cell? w _ hx158_0)).trans hx158_0
                      replace hx158_1 := (HB.out.cell (World.block_lt_of_cell? w _ hx158_1)).trans hx158_1
                      replace hx158_2 := (HB.out.cell (World.block_lt_of_cell? w _ hx158_2)).trans hx158_2
                      replace p158 := eq_true p158
                      replace q158 := eq_true q158
                      go_wp2_with (first | ((with_reducible refine gate_dst (N := 8) rfl ?_); refine box_event ?hg (N := 8) ?hd (cs := #[.bool false, .int .u64 0, .string (⟨#[]⟩ : ByteArray)]) (t := 55) ?hr ?_; (case hd => rfl); (case hg => rfl); (case hr => first | (go_simp; done) | (go_simp; rfl)); intro gb159 hg w32 hbox hb; have n0_ := Aside0.mk (below_step (by repeat (first | (with_reducible first | exact HB.out | apply below_alloc | apply pw_below_drewN | apply below_drew1) | exact HB.out)) hb); have n1_ := Aside0.mk (hbox); have n2_ := Aside0.mk ((by rw [hg]; exact (below_size (by repeat (first | (with_reducible first | exact HB.out | apply below_alloc | apply pw_below_drewN | apply below_drew1) | exact HB.out))) : w.heap.size ≤ gb159)); have n3_ := Aside0.mk ((by rw [hg]; exact (below_size (by repeat (first | (with_reducible first | exact HB.out | apply below_alloc | apply pw_below_drewN | apply below_drew1) | exact HB.out))) : w.heap.size ≤ gb159)); clear HB; have HB := n0_; have BK159 := n1_; have GW159 := n2_; have GE159 := n3_; clear n0_ n1_ n2_ n3_; clear hb hbox hg; have hcz33_0 : w32.cell? ⟨gb159, 0, none⟩ = some (.bool false) := (blk_cell BK159.out 0).trans rfl; have hcz33_1 : w32.cell? ⟨gb159, 1, none⟩ = some (.int .u64 0) := (blk_cell BK159.out 1).trans rfl; have hcz33_2 : w32.cell? ⟨gb159, 2, none⟩ = some (.string (⟨#[]⟩ : ByteArray)) := (blk_cell BK159.out 2).trans rfl; have hfz33_0 := blk_frozen BK159.out 0; have hfz33_1 := blk_frozen BK159.out 1; have hfz33_2 := blk_frozen BK159.out 2; have p160 : 0 ≤ ((ji8) : Int) := of_decide_eq_true (by first | (with_reducible assumption) | assumption); have q160 : (ji8) < (l1.length : Int) := of_decide_eq_true (by first | (with_reducible assumption) | assumption); obtain ⟨ad160, e160, hx160_0, hx160_1, hx160_2⟩ := at_T78 HR1.out (ji8) p160 q160; cases e160; have hn160_0 : ad160.block ≠ gb159 := Nat.ne_of_lt (Nat.lt_of_lt_of_le (by have := World.block_lt_of_cell? _ _ hx160_0; first | rwa [add_block] at this | exact this) GW159.out); have hn160_1 : ad160.block ≠ gb159 := Nat.ne_of_lt (Nat.lt_of_lt_of_le (by have := World.block_lt_of_cell? _ _ hx160_0; first | rwa [add_block] at this | exact this) GW159.out); have hn160_2 : ad160.block ≠ gb159 := Nat.ne_of_lt (Nat.lt_of_lt_of_le (by have := World.block_lt_of_cell? _ _ hx160_0; first | rwa [add_block] at this | exact this) GW159.out); replace hx160_0 := (HB.out.cell (World.block_lt_of_cell? w _ hx160_0)).trans hx160_0; replace hx160_1 := (HB.out.cell (World.block_lt_of_cell? w _ hx160_1)).trans hx160_1; replace hx160_2 := (HB.out.cell (World.block_lt_of_cell? w _ hx160_2)).trans hx160_2; replace hx160_0 := (cell_far (p := ⟨gb159, 0, none⟩) (by first | (rw [add_block]; exact hn160_0) | (show (Addr.add _ _).block ≠ _; rw [add_block]; exact hn160_0) | exact hn160_0) (.bool ((rd_T55 l0 x19_1).f0))).trans hx160_0; replace hx160_1 := (cell_far (p := ⟨gb159, 0, none⟩) (by first | (rw [add_block]; exact hn160_0) | (show (Addr.add _ _).block ≠ _; rw [add_block]; exact hn160_0) | exact hn160_0) (.bool ((rd_T55 l0 x19_1).f0))).trans hx160_1; replace hx160_2 := (cell_far (p := ⟨gb159, 0, none⟩) (by first | (rw [add_block]; exact hn160_0) | (show (Addr.add _ _).block ≠ _; rw [add_block]; exact hn160_0) | exact hn160_0) (.bool ((rd_T55 l0 x19_1).f0))).trans hx160_2; replace hx160_0 := (cell_far (p := ⟨gb159, 1, none⟩) (by first | (rw [add_block]; exact hn160_1) | (show (Addr.add _ _).block ≠ _; rw [add_block]; exact hn160_1) | exact hn160_1) (.int .u64 ((rd_T55 l0 x19_1).f1))).trans hx160_0; replace hx160_1 := (cell_far (p := ⟨gb159, 1, none⟩) (by first | (rw [add_block]; exact hn160_1) | (show (Addr.add _ _).block ≠ _; rw [add_block]; exact hn160_1) | exact hn160_1) (.int .u64 ((rd_T55 l0 x19_1).f1))).trans hx160_1; replace hx160_2 := (cell_far (p := ⟨gb159, 1, none⟩) (by first | (rw [add_block]; exact hn160_1) | (show (Addr.add _ _).block ≠ _; rw [add_block]; exact hn160_1) | exact hn160_1) (.int .u64 ((rd_T55 l0 x19_1).f1))).trans hx160_2; replace hx160_0 := (cell_far (p := ⟨gb159, 2, none⟩) (by first | (rw [add_block]; exact hn160_2) | (show (Addr.add _ _).block ≠ _; rw [add_block]; exact hn160_2) | exact hn160_2) (.string ((rd_T55 l0 x19_1).f2))).trans hx160_0; replace hx160_1 := (cell_far (p := ⟨gb159, 2, none⟩) (by first | (rw [add_block]; exact hn160_2) | (show (Addr.add _ _).block ≠ _; rw [add_block]; exact hn160_2) | exact hn160_2) (.string ((rd_T55 l0 x19_1).f2))).trans hx160_1; replace hx160_2 := (cell_far (p := ⟨gb159, 2, none⟩) (by first | (rw [add_block]; exact hn160_2) | (show (Addr.add _ _).block ≠ _; rw [add_block]; exact hn160_2) | exact hn160_2) (.string ((rd_T55 l0 x19_1).f2))).trans hx160_2; clear hn160_0; clear hn160_1; clear hn160_2; replace p160 := eq_true p160; replace q160 := eq_true q160) | ((with_reducible refine gate_dst (N := 9) rfl ?_); refine box_event ?hg (N := 9) ?hd (cs := #[.bool false, .int .u64 0, .string (⟨#[]⟩ : ByteArray)]) (t := 78) ?hr ?_; (case hd => rfl); (case hg => rfl); (case hr => first | (go_simp; done) | (go_simp; rfl)); intro gb161 hg w34 hbox hb; have n0_ := Aside0.mk (blk_below (g := gb159) (o := .cells #[.bool ((rd_T55 l0 x19_1).f0), .int .u64 ((rd_T55 l0 x19_1).f1), .string ((rd_T55 l0 x19_1).f2)] 55 (0, 0)) (by (with_reducible repeat (first | refine blk_drewN ?_ _ | refine blk_drew ?_ | refine blk_alloc ?_ _)); refine blk_put (cs := #[.bool ((rd_T55 l0 x19_1).f0), .int .u64 ((rd_T55 l0 x19_1).f1), .string (⟨#[]⟩ : ByteArray)]) ?_ 2 _ rfl; (with_reducible repeat (first | refine blk_drewN ?_ _ | refine blk_drew ?_ | refine blk_alloc ?_ _)); refine blk_put (cs := #[.bool ((rd_T55 l0 x19_1).f0), .int .u64 0, .string (⟨#[]⟩ : ByteArray)]) ?_ 1 _ rfl; (with_reducible repeat (first | refine blk_drewN ?_ _ | refine blk_drew ?_ | refine blk_alloc ?_ _)); refine blk_put (cs := #[.bool false, .int .u64 0, .string (⟨#[]⟩ : ByteArray)]) ?_ 0 _ rfl; (with_reducible repeat (first | refine blk_drewN ?_ _ | refine blk_drew ?_ | refine blk_alloc ?_ _)); exact BK159.out) hb); have n1_ := Aside0.mk (below_step (by repeat (first | (with_reducible first | exact HB.out | apply below_alloc | apply pw_below_drewN | apply below_drew1 | refine below_set ?_ GE159.out) | exact HB.out)) hb); have n2_ := Aside0.mk (hbox); have n3_ := Aside0.mk ((by rw [hg]; exact (below_size (by repeat (first | (with_reducible first | exact HB.out | apply below_alloc | apply pw_below_drewN | apply below_drew1 | refine below_set ?_ GE159.out) | exact HB.out))) : w.heap.size ≤ gb161)); have n4_ := Aside0.mk ((by rw [hg]; exact (below_size (by repeat (first | (with_reducible first | exact HB.out | apply below_alloc | apply pw_below_drewN | apply below_drew1 | refine below_set ?_ GE159.out) | exact HB.out))) : w.heap.size ≤ gb161)); have n5_ := Aside0.mk ((by rw [hg]; exact Nat.ne_of_lt (blk_lt (g := gb159) (o := .cells #[.bool ((rd_T55 l0 x19_1).f0), .int .u64 ((rd_T55 l0 x19_1).f1), .string ((rd_T55 l0 x19_1).f2)] 55 (0, 0)) (by (with_reducible repeat (first | refine blk_drewN ?_ _ | refine blk_drew ?_ | refine blk_alloc ?_ _)); refine blk_put (cs := #[.bool ((rd_T55 l0 x19_1).f0), .int .u64 ((rd_T55 l0 x19_1).f1), .string (⟨#[]⟩ : ByteArray)]) ?_ 2 _ rfl; (with_reducible repeat (first | refine blk_drewN ?_ _ | refine blk_drew ?_ | refine blk_alloc ?_ _)); refine blk_put (cs := #[.bool ((rd_T55 l0 x19_1).f0), .int .u64 0, .string (⟨#[]⟩ : ByteArray)]) ?_ 1 _ rfl; (with_reducible repeat (first | refine blk_drewN ?_ _ | refine blk_drew ?_ | refine blk_alloc ?_ _)); refine blk_put (cs := #[.bool false, .int .u64 0, .string (⟨#[]⟩ : ByteArray)]) ?_ 0 _ rfl; (with_reducible repeat (first | refine blk_drewN ?_ _ | refine blk_drew ?_ | refine blk_alloc ?_ _)); exact BK159.out)) : gb159 ≠ gb161)); have n6_ := Aside0.mk ((by rw [hg]; exact Nat.ne_of_gt (blk_lt (g := gb159) (o := .cells #[.bool ((rd_T55 l0 x19_1).f0), .int .u64 ((rd_T55 l0 x19_1).f1), .string ((rd_T55 l0 x19_1).f2)] 55 (0, 0)) (by (with_reducible repeat (first | refine blk_drewN ?_ _ | refine blk_drew ?_ | refine blk_alloc ?_ _)); refine blk_put (cs := #[.bool ((rd_T55 l0 x19_1).f0), .int .u64 ((rd_T55 l0 x19_1).f1), .string (⟨#[]⟩ : ByteArray)]) ?_ 2 _ rfl; (with_reducible repeat (first | refine blk_drewN ?_ _ | refine blk_drew ?_ | refine blk_alloc ?_ _)); refine blk_put (cs := #[.bool ((rd_T55 l0 x19_1).f0), .int .u64 0, .string (⟨#[]⟩ : ByteArray)]) ?_ 1 _ rfl; (with_reducible repeat (first | refine blk_drewN ?_ _ | refine blk_drew ?_ | refine blk_alloc ?_ _)); refine blk_put (cs := #[.bool false, .int .u64 0, .string (⟨#[]⟩ : ByteArray)]) ?_ 0 _ rfl; (with_reducible repeat (first | refine blk_drewN ?_ _ | refine blk_drew ?_ | refine blk_alloc ?_ _)); exact BK159.out)) : gb161 ≠ gb159)); clear BK159; clear HB; have BK159 := n0_; have HB := n1_; have BK161 := n2_; have GW161 := n3_; have GE161 := n4_; have NB159_161 := n5_; have NB161_159 := n6_; clear n0_ n1_ n2_ n3_ n4_ n5_ n6_; clear hb hbox hg; have hnb35 := NB161_159.out; have hnc35 := NB159_161.out; have hcz36_0 : w34.cell? ⟨gb161, 0, none⟩ = some (.bool false) := (blk_cell BK161.out 0).trans rfl; have hcz36_1 : w34.cell? ⟨gb161, 1, none⟩ = some (.int .u64 0) := (blk_cell BK161.out 1).trans rfl; have hcz36_2 : w34.cell? ⟨gb161, 2, none⟩ = some (.string (⟨#[]⟩ : ByteArray)) := (blk_cell BK161.out 2).trans rfl; have hfz36_0 := blk_frozen BK161.out 0; have hfz36_1 := blk_frozen BK161.out 1; have hfz36_2 := blk_frozen BK161.out 2; have hcz37_0 : w34.cell? ⟨gb159, 0, none⟩ = some (.bool ((rd_T55 l0 x19_1).f0)) := (blk_cell BK159.out 0).trans rfl; have hcz37_1 : w34.cell? ⟨gb159, 1, none⟩ = some (.int .u64 ((rd_T55 l0 x19_1).f1)) := (blk_cell BK159.out 1).trans rfl; have hcz37_2 : w34.cell? ⟨gb159, 2, none⟩ = some (.string ((rd_T55 l0 x19_1).f2)) := (blk_cell BK159.out 2).trans rfl; have hfz37_0 := blk_frozen BK159.out 0; have hfz37_1 := blk_frozen BK159.out 1; have hfz37_2 := blk_frozen BK159.out 2))
                      go_ret
                      exact ⟨by first | rfl | (simp [errW_none, errW_some] <;> rfl) | (simp only [← hji8]; first | rfl | (simp [errW_none, errW_some] <;> rfl)) | (simp [*, errW_none, errW_some] <;> rfl), by repeat (first | (with_reducible first | exact HB.out | apply below_alloc | apply pw_below_drewN | apply below_drew1 | refine below_set ?_ GE159.out | refine below_set ?_ GE161.out) | exact HB.out)⟩
                · rw [if_neg c10] at H
                  exact absurd H (by simp)
              · rw [if_neg c9] at H
                exact absurd H (by simp)
            · rw [if_neg c7] at H
              exact absurd H (by simp)
          · rw [if_neg c6] at H
            exact absurd H (by simp)
        · rw [if_neg c5] at H
          have c5b0 : decide (x19_1 < (l0.length : Int)) = false := decide_eq_false c5
          clear c5
          obtain rfl := Option.some.inj H
          go_wp2
          go_ret
          exact ⟨by first | rfl | (simp [errW_none, errW_some] <;> rfl) | (simp [*, errW_none, errW_some] <;> rfl), by repeat (first | (with_reducible first | exact HB.out | apply below_alloc | apply pw_below_drewN | apply below_drew1) | exact HB.out)⟩
  · rw [if_neg c4] at H
    have c4b0 : ((wrap64 ((l1.length : Int) - a2)) == (l0.length : Int)) = false := beq_eq_false_iff_ne.mpr c4
    have c4b1 : ((wrap64 ((l1.length : Int) - a2)) != (l0.length : Int)) = true := bne_iff_ne.mpr c4
    obtain rfl := Option.some.inj H
    go_enter Try.func22, Try.ntmps22
    go_wp2
    go_ret
    exact ⟨by first | rfl | (simp [errW_none, errW_some] <;> rfl) | (simp [*, errW_none, errW_some] <;> rfl), by repeat (first | (with_reducible first | exact HB.out | apply below_alloc | apply pw_below_drewN | apply below_drew1) | exact HB.out)⟩

end Go.Proofs.Ytnilogameaaooaa.Q
/- What Split and the document's Read answer for a whole text: one plain reading. -/
set_option linter.unusedVariables false
set_option linter.unusedSimpArgs false
namespace Go.Proofs.Ytnilogameaaooaa.Pure
open Go.RowKit Go.Proofs.Ytnilogameaaooaa.Q Go.Proofs.Ytnilogameaaooaa.Rdr Go.Proofs.Ytnilogameaaooaa.Tail Go.Proofs.YtnilogameaaooaaW.PrintWords Go.Proofs.YtnilogameaaooaaW.PrintLast Go.Proofs.YtnilogameaaooaaW.PrintMore Go.Proofs.Ytnilogameaaooaa.Bytes Go.Proofs.Ytnilogameaaooaa.Evs

/-- The reading of a whole text: items, code, place, bytes taken. -/
def got (text plan : ByteArray) (most : Int) : List S55 × Int × Int × Int :=
  match bad1 (bs plan) 0 with
  | some i => ([], 30, (i : Int), 0)
  | none => parse (m0 most) (bs plan) (numsOf text) 0
/-- The fault when the bytes end there. -/
def shutR (g : List S55 × Int × Int × Int) (n : Nat) : Int × Int :=
  if g.2.1 = 0 ∧ (g.1.length : Int) < (n : Int) then (4, g.2.2.2) else (g.2.1, g.2.2.1)
theorem parse_place : ∀ (m : Int) (l : List UInt8) (b : List Int) (t : Int), (parse m l b t).2.1 = 0 → (parse m l b t).2.2.1 = 0
  | m, [], b, t => by
    simp only [parse]
    split
    · exact fun _ => rfl
    · intro h; exact absurd (show _ = (0 : Int) from h) (by simp)
  | m, c :: l, b, t => by
    simp only [parse]
    split
    · exact fun _ => rfl
    · split
      · exact parse_place m l _ _
      · split
        · intro h; exact absurd (show _ = (0 : Int) from h) (by simp)
        · split
          · intro h; exact absurd (show _ = (0 : Int) from h) (by simp)
          · split
            · exact fun _ => rfl
            · exact parse_place m l _ _
theorem parse_len : ∀ (m : Int) (l : List UInt8) (b : List Int) (t : Int), (parse m l b t).1.length ≤ l.length
  | m, [], b, t => by
    simp only [parse]
    split <;> exact Nat.le_refl _
  | m, c :: l, b, t => by
    simp only [parse]
    split
    · exact Nat.zero_le _
    · split
      · exact Nat.succ_le_succ (parse_len m l _ _)
      · split
        · exact Nat.zero_le _
        · split
          · exact Nat.zero_le _
          · split
            · exact Nat.zero_le _
            · exact Nat.succ_le_succ (parse_len m l _ _)
theorem m0_range (most : Int) (h : most ≤ 9223372036854775807) : 0 ≤ m0 most ∧ m0 most ≤ 9223372036854775807 := by
  unfold m0; split <;> omega
theorem got_none {text plan : ByteArray} {most : Int} (h : bad1 (bs plan) 0 = none) : got text plan most = parse (m0 most) (bs plan) (numsOf text) 0 := by unfold got; rw [h]
theorem got_some {text plan : ByteArray} {most : Int} {i : Nat} (h : bad1 (bs plan) 0 = some i) : got text plan most = ([], 30, (i : Int), 0) := by unfold got; rw [h]
theorem got_len (text plan : ByteArray) (most : Int) : (got text plan most).1.length ≤ plan.size := by
  unfold got
  split
  · exact Nat.zero_le _
  · have := parse_len (m0 most) (bs plan) (numsOf text) 0
    rw [← size_bs] at this
    exact this
/-- feed of a new reader is the reading. -/
theorem feed_got (text plan : ByteArray) (most : Int) (h : most ≤ 9223372036854775807) : Answers (newM plan (m0 most)) (feed (newM plan (m0 most)) (numsOf text)) (got text plan most) := by
  have hm := m0_range most h
  cases hb : bad1 (bs plan) 0 with
  | some i =>
    rw [newM_some hb, got_some hb, feed_stop (by rfl)]
    exact ⟨rfl, rfl, rfl, rfl, rfl, rfl, rfl⟩
  | none =>
    rw [newM_none hb, got_none hb]
    exact feed_parse (bs plan) (startM plan (m0 most)) (numsOf text) ⟨rfl, rfl, rfl, rfl, rfl, rfl, rfl, rfl⟩ (Int.le_refl _) rfl (by show (0 : Int) ≤ (plan.size : Int); omega) (bad1_none _ _ hb) hm.1 (numsOf_range text)
theorem newM_item (plan : ByteArray) (m : Int) : (newM plan m).item = 0 ∧ (newM plan m).plan = plan := by
  unfold newM
  split <;> exact ⟨rfl, rfl⟩
theorem split_got (text plan : ByteArray) (most : Int) (h1 : text.size ≤ 1099511627776) (h2 : plan.size ≤ 1099511627776) (h : most ≤ 9223372036854775807) :
    wire_Split.f text plan most = some (if (shutR (got text plan most) plan.size).1 = 0 then ((got text plan most).1, 0, 0) else ([], (shutR (got text plan most) plan.size).1, (shutR (got text plan most) plan.size).2)) := by
  have hA := feed_got text plan most h
  obtain ⟨n1, n2⟩ := newM_item plan (m0 most)
  unfold wire_Split.f
  rw [if_pos ⟨h1, h2, h⟩]
  unfold split
  generalize feed (newM plan (m0 most)) (numsOf text) = F at hA ⊢
  obtain ⟨a1, a2, a3, a4, a5, a6, a7⟩ := hA
  rw [n1] at a5
  rw [n2] at a6
  have hs : (close F.1).code = (shutR (got text plan most) plan.size).1 ∧ (close F.1).place = (shutR (got text plan most) plan.size).2 := by
    unfold close shutR Ps.stopped
    rw [a7, a6, a5, a2, a4]
    by_cases hc : (got text plan most).2.1 = 0
    · rw [if_neg (by rw [hc]; simp)]
      by_cases hl : ((got text plan most).1.length : Int) < (plan.size : Int)
      · rw [if_pos (by omega), if_pos ⟨hc, hl⟩]
        exact ⟨rfl, rfl⟩
      · rw [if_neg (by omega), if_neg (fun q => hl q.2)]
        exact ⟨rfl, a3⟩
    · rw [if_pos (by simp [hc]), if_neg (fun q => hc q.1)]
      exact ⟨rfl, a3⟩
  rw [a1]
  rw [hs.1, hs.2]
  by_cases hc : (shutR (got text plan most) plan.size).1 = 0
  · rw [if_pos hc, if_pos hc]
  · rw [if_neg hc, if_neg hc]
theorem planned_ev (plan : ByteArray) (hp : plan.size ≤ 1099511627776) : ∀ (l : List UInt8) (i : Nat), (bs plan).drop i = l → i ≤ plan.size →
    Ev (fun k => depotref03_Planned.l0 k plan (i : Int)) (match bad1 l i with | some j => (j : Int) | none => -1) := by
  intro l
  induction l with
  | nil =>
    intro i hl hi
    have hie : i = plan.size := by
      have := congrArg List.length hl
      rw [List.length_drop, ← size_bs] at this
      simp at this
      omega
    apply succ
    simp only [depotref03_Planned.l0, bad1]
    exact neg (by omega) (now rfl)
  | cons c l ih =>
    intro i hl hi
    have hlt : i < (bs plan).length := by
      have := congrArg List.length hl
      rw [List.length_drop, List.length_cons] at this
      omega
    have hip : i < plan.size := by rw [size_bs]; exact hlt
    have hcd := List.drop_eq_getElem_cons hlt
    rw [hl] at hcd
    have hce : c = (bs plan)[i] := (List.cons.inj hcd).1
    have hle : (bs plan).drop (i + 1) = l := (List.cons.inj hcd).2.symm
    have HBT := Aside0.mk (show bt plan (i : Int) = (c.toNat : Int) by
      have hg : (bs plan).getD i 0 = c := by rw [List.getD_eq_getElem?_getD, List.getElem?_eq_getElem hlt]; exact hce.symm
      rw [bt_bs, Int.toNat_natCast, hg])
    have := ih (i + 1) hle hip
    clear hcd hl hce
    apply succ
    simp only [depotref03_Planned.l0, bad1]
    have hw : wrap64 ((i : Int) + 1) = ((i + 1 : Nat) : Int) := wr i (by omega)
    refine pos (by omega) (pos (by omega) ?_)
    rw [hw, HBT.out]
    by_cases h5 : c = 105
    · rw [if_pos (.inl h5)]
      exact pos (by rw [h5]; rfl) this
    · refine neg (fun q => h5 ((byte_eq_iff c 105).1 q)) ?_
      by_cases h6 : c = 116
      · rw [if_pos (.inr h6)]
        exact pos (by rw [h6]; rfl) this
      · rw [if_neg (fun q => q.elim h5 h6)]
        exact neg (fun q => h6 ((byte_eq_iff c 116).1 q)) (now rfl)
theorem readj_ev (text plan : ByteArray) (most m : Int) (hm : m0 most = m) (h1 : text.size ≤ 1099511627776) (h2 : plan.size ≤ 1099511627776) (h3 : 0 ≤ m) (h4 : m ≤ 9223372036854775807) :
    Ev (fun k => depotref03_Read.j0 k text plan m) ((got text plan most).1.map to78, (got text plan most).2.1, (got text plan most).2.2.1, (got text plan most).2.2.2) := by
  apply succ
  simp only [depotref03_Read.j0]
  have hP := planned_ev plan h2 (bs plan) 0 rfl (Nat.zero_le _)
  cases hb : bad1 (bs plan) 0 with
  | some i =>
    rw [hb] at hP
    refine Ev.bind hP (pos (by simp only; omega) (now ?_))
    rw [got_some hb]
    rfl
  | none =>
    rw [hb] at hP
    refine Ev.bind hP (neg (by simp) ?_)
    rw [got_none hb, hm]
    have := read_ev text plan m h1 h2 h3 h4 (bs plan) 0 0 [] rfl (Nat.zero_le _) (Nat.zero_le _) rfl (bad1_none _ _ hb)
    rw [List.drop_zero, List.nil_append] at this
    exact this
theorem read_got (text plan : ByteArray) (most : Int) (h1 : text.size ≤ 1099511627776) (h2 : plan.size ≤ 1099511627776) (h : most ≤ 9223372036854775807) :
    Ev (fun k => depotref03_Read.f k text plan most) ((got text plan most).1.map to78, (got text plan most).2.1, (got text plan most).2.2.1, (got text plan most).2.2.2) := by
  simp only [depotref03_Read.f]
  by_cases hn : most < 0
  · exact pos hn (readj_ev text plan most 0 (by unfold m0; rw [if_pos hn]) h1 h2 (by omega) (by omega))
  · exact neg hn (readj_ev text plan most most (by unfold m0; rw [if_neg hn]) h1 h2 (by omega) h)
theorem closed_got (text plan : ByteArray) (most : Int) (h1 : text.size ≤ 1099511627776) (h2 : plan.size ≤ 1099511627776) (h : most ≤ 9223372036854775807) :
    Ev (fun k => depotref03_Closed.f k text plan most) (shutR (got text plan most) plan.size) := by
  simp only [depotref03_Closed.f]
  refine Ev.bind (read_got text plan most h1 h2 h) ?_
  unfold shutR
  rw [List.length_map]
  by_cases hc : (got text plan most).2.1 = 0
  · refine pos hc ?_
    by_cases hl : ((got text plan most).1.length : Int) < (plan.size : Int)
    · exact pos hl (now (by rw [if_pos ⟨hc, hl⟩]))
    · exact neg hl (now (by rw [if_neg (fun q => hl q.2)]))
  · exact neg hc (now (by rw [if_neg (fun q => hc q.1)]))
theorem same_in (xs : List S55) (ys : List S78) (hs : ys.length + xs.length ≤ 1099511627776) : ∀ (d i : Nat), i + d = xs.length →
    Ev (fun k => depotlaw03_same.l0 k (ys ++ xs.map to78) (ys.length : Int) xs (xs.length : Int) (i : Int)) true := by
  intro d
  induction d with
  | zero =>
    intro i hi
    apply succ
    simp only [depotlaw03_same.l0]
    exact neg (by omega) (now rfl)
  | succ d ih =>
    intro i hi
    have ih := ih (i + 1) (by omega)
    have hw : wrap64 ((i : Int) + 1) = ((i + 1 : Nat) : Int) := wr i (by omega)
    have hv : wrap64 ((ys.length : Int) + (i : Int)) = ((ys.length + i : Nat) : Int) := by rw [w64 (by omega) (by omega)]; omega
    have hlt : i < xs.length := by omega
    have e1 : rd_T55 xs (i : Int) = xs[i] := by
      unfold rd_T55
      rw [Int.toNat_natCast, List.getD_eq_getElem?_getD, List.getElem?_eq_getElem hlt]
      rfl
    have e2 : rd_T78 (ys ++ xs.map to78) ((ys.length + i : Nat) : Int) = to78 xs[i] := by
      unfold rd_T78
      rw [Int.toNat_natCast, List.getD_eq_getElem?_getD, List.getElem?_append_right (Nat.le_add_right _ _), Nat.add_sub_cancel_left, List.getElem?_map, List.getElem?_eq_getElem hlt]
      rfl
    apply succ
    simp only [depotlaw03_same.l0]
    rw [hw, hv, e1, e2]
    refine pos (by omega) (pos (by omega) (pos (by omega) (pos (by omega) (pos (by rw [List.length_append, List.length_map]; omega) (neg (by simp [to78]) (pos rfl (pos rfl ih)))))))
theorem same_ev (xs : List S55) (ys : List S78) (hs : ys.length + xs.length ≤ 1099511627776) :
    Ev (fun k => depotlaw03_same.f k xs (ys ++ xs.map to78) (ys.length : Int)) true := by
  simp only [depotlaw03_same.f]
  refine pos ?_ (same_in xs ys hs xs.length 0 (by omega))
  rw [List.length_append, List.length_map, w64 (by omega) (by omega)]
  omega
theorem shut_zero {g : List S55 × Int × Int × Int} {n : Nat} (h : (shutR g n).1 = 0) : g.2.1 = 0 ∧ ¬ (g.1.length : Int) < (n : Int) := by
  unfold shutR at h
  split at h
  · exact absurd (show (4 : Int) = 0 from h) (by decide)
  · rename_i hc
    exact ⟨h, fun q => hc ⟨h, q⟩⟩
theorem got_place {text plan : ByteArray} {most : Int} (h : (got text plan most).2.1 = 0) : (got text plan most).2.2.1 = 0 := by
  cases hb : bad1 (bs plan) 0 with
  | some i => rw [got_some hb] at h; exact absurd (show (30 : Int) = 0 from h) (by decide)
  | none => rw [got_none hb] at h ⊢; exact parse_place _ _ _ _ h
theorem shut_place {text plan : ByteArray} {most : Int} (h : (shutR (got text plan most) plan.size).1 = 0) : (shutR (got text plan most) plan.size).2 = 0 := by
  obtain ⟨h1, h2⟩ := shut_zero h
  unfold shutR
  rw [if_neg (fun q => h2 q.2)]
  exact got_place h1
theorem nums_app (a b : ByteArray) : numsOf (a ++ b) = numsOf a ++ numsOf b := by
  have h : (a ++ b).data.toList = a.data.toList ++ b.data.toList := bs_append a b
  unfold numsOf
  rw [← List.map_append, h]
theorem awake_ev : Ev (fun k => depotlaw03_awake.f k) true := by
  simp only [depotlaw03_awake.f]
  have f1 : frame8 (⟨#[97]⟩ : ByteArray) = [1, 0, 0, 0, 0, 0, 0, 0, 97, 0, 0, 0, 0, 0, 0, 0] := by decide
  have f2 : le8 258 = [2, 1, 0, 0, 0, 0, 0, 0] := by decide
  have f3 : le8 7 = [7, 0, 0, 0, 0, 0, 0, 0] := by decide
  have hT : wire_Text.f (⟨#[97]⟩ : ByteArray) = some (strOfNums [1, 0, 0, 0, 0, 0, 0, 0, 97, 0, 0, 0, 0, 0, 0, 0]) := by rw [← f1]; exact if_pos (by decide)
  have hI : wire_Int.f 258 = some (strOfNums [2, 1, 0, 0, 0, 0, 0, 0]) := by rw [← f2]; rfl
  have hJ : wire_Int.f 7 = some (strOfNums [7, 0, 0, 0, 0, 0, 0, 0]) := by rw [← f3]; rfl
  refine call hT (pos (by rw [toList_bs, bs_strOfNums]; decide) (call hI ?_))
  rw [toList_bs, bs_strOfNums]
  refine succ ?_
  simp only [depotlaw03_awake.j0]
  refine neg (by decide) (call hJ (call hT (pos (by decide) ?_)))
  have hS := split_got (strOfNums [7, 0, 0, 0, 0, 0, 0, 0] ++ strOfNums [1, 0, 0, 0, 0, 0, 0, 0, 97, 0, 0, 0, 0, 0, 0, 0]) (⟨#[105, 116]⟩ : ByteArray) 1 (by decide) (by decide) (by decide)
  have hG : got (strOfNums [7, 0, 0, 0, 0, 0, 0, 0] ++ strOfNums [1, 0, 0, 0, 0, 0, 0, 0, 97, 0, 0, 0, 0, 0, 0, 0]) (⟨#[105, 116]⟩ : ByteArray) 1 = ([⟨true, 7, ⟨#[]⟩⟩, ⟨false, 0, ⟨#[97]⟩⟩], 0, 0, 24) := by
    rw [got_none (by decide), nums_app, numsOf_str _ (by decide), numsOf_str _ (by decide)]
    rfl
  rw [hG] at hS
  have hS : wire_Split.f (strOfNums [7, 0, 0, 0, 0, 0, 0, 0] ++ strOfNums [1, 0, 0, 0, 0, 0, 0, 0, 97, 0, 0, 0, 0, 0, 0, 0]) (⟨#[105, 116]⟩ : ByteArray) 1 = some ([⟨true, 7, ⟨#[]⟩⟩, ⟨false, 0, ⟨#[97]⟩⟩], 0, 0) := hS.trans rfl
  refine call hS (pos rfl (pos rfl (pos (by decide) (pos rfl (pos rfl (pos (by decide) (now (by rw [show ((rd_T55 [⟨true, 7, ⟨#[]⟩⟩, ⟨false, 0, ⟨#[97]⟩⟩] 1).f2) = (⟨#[97]⟩ : ByteArray) from rfl, toList_bs]; decide))))))))
end Go.Proofs.Ytnilogameaaooaa.Pure
/- depotlaw03.alike of a list and itself. -/
set_option linter.unusedVariables false
set_option linter.unusedSimpArgs false
namespace Go.Proofs.Ytnilogameaaooaa.Pure
open Go.RowKit Go.Proofs.Ytnilogameaaooaa.Q Go.Proofs.Ytnilogameaaooaa.Rdr Go.Proofs.Ytnilogameaaooaa.Tail Go.Proofs.YtnilogameaaooaaW.PrintWords Go.Proofs.YtnilogameaaooaaW.PrintLast Go.Proofs.YtnilogameaaooaaW.PrintMore Go.Proofs.Ytnilogameaaooaa.Bytes Go.Proofs.Ytnilogameaaooaa.Evs

theorem alike_in (xs : List S55) (hn : xs.length ≤ 1099511627776) : ∀ (d i : Nat), i + d = xs.length →
    Ev (fun k => depotlaw03_alike.l0 k xs xs (xs.length : Int) (i : Int)) true := by
  intro d
  induction d with
  | zero =>
    intro i hi
    apply succ
    simp only [depotlaw03_alike.l0]
    exact neg (by omega) (now rfl)
  | succ d ih =>
    intro i hi
    have hw : wrap64 ((i : Int) + 1) = ((i + 1 : Nat) : Int) := wr i (by omega)
    apply succ
    simp only [depotlaw03_alike.l0]
    rw [hw]
    exact pos (by omega) (pos (by omega) (pos (by omega) (pos (by omega) (neg (by simp) (ih (i + 1) (by omega))))))
theorem alike_ev (xs : List S55) (hn : xs.length ≤ 1099511627776) : Ev (fun k => depotlaw03_alike.f k xs xs) true := by
  simp only [depotlaw03_alike.f]
  exact pos trivial (alike_in xs hn xs.length 0 (by omega))
end Go.Proofs.Ytnilogameaaooaa.Pure
/- depotlaw03.WireChunks answers true for every text, plan, longest text and cuts, all in 2^20 values and letters. -/
set_option linter.unusedVariables false
set_option linter.unusedSimpArgs false
namespace Go.Proofs.Ytnilogameaaooaa.Pure
open Go.RowKit Go.Proofs.Ytnilogameaaooaa.Q Go.Proofs.Ytnilogameaaooaa.Rdr Go.Proofs.Ytnilogameaaooaa.Tail Go.Proofs.YtnilogameaaooaaW.PrintWords Go.Proofs.YtnilogameaaooaaW.PrintLast Go.Proofs.YtnilogameaaooaaW.PrintMore Go.Proofs.Ytnilogameaaooaa.Bytes Go.Proofs.Ytnilogameaaooaa.Evs

theorem close_got (text plan : ByteArray) (most : Int) (h : most ≤ 9223372036854775807) : (fedAll text plan most).2 = (got text plan most).1 ∧ (close (fedAll text plan most).1).code = (shutR (got text plan most) plan.size).1 ∧ (close (fedAll text plan most).1).place = (shutR (got text plan most) plan.size).2 := by
  have hA := feed_got text plan most h
  obtain ⟨n1, n2⟩ := newM_item plan (m0 most)
  unfold fedAll
  generalize feed (newM plan (m0 most)) (numsOf text) = F at hA ⊢
  obtain ⟨a1, a2, a3, a4, a5, a6, a7⟩ := hA
  rw [n1] at a5
  rw [n2] at a6
  refine ⟨a1, ?_⟩
  unfold close shutR Ps.stopped
  rw [a7, a6, a5, a2, a4]
  by_cases hc : (got text plan most).2.1 = 0
  · rw [if_neg (by rw [hc]; simp)]
    by_cases hl : ((got text plan most).1.length : Int) < (plan.size : Int)
    · rw [if_pos (by omega), if_pos ⟨hc, hl⟩]
      exact ⟨rfl, rfl⟩
    · rw [if_neg (by omega), if_neg (fun q => hl q.2)]
      exact ⟨rfl, a3⟩
  · rw [if_pos (by simp [hc]), if_neg (fun q => hc q.1)]
    exact ⟨rfl, a3⟩
theorem WireChunks : ∀ (x0 : S60), (∀ n ∈ ([((x0).f0).size] ++ ([((x0).f1).size] ++ (([] : List Nat) ++ ((((x0).f3).length * Try.prog.bytesOf 3) :: ((x0).f3).flatMap (fun y5 => ([] : List Nat)))))), n ≤ 140737488351232) → (((x0).f0).size ≤ maxLen ∧ (((x0).f1).size ≤ maxLen ∧ ((Lit.int .i64 ((x0).f2)).wf = true ∧ (((x0).f3).length ≤ maxLen ∧ ∀ y5 ∈ (x0).f3, (Lit.int .i64 (y5)).wf = true)))) → (((((x0).f0).size + 1) + ((((x0).f1).size + 1) + (1 + ((((x0).f3).map (fun y5 => 1)).sum + 1)))) + 1) ≤ 1048576 → ∃ k, depotlaw03_WireChunks.f k (x0.f0) (x0.f1) (x0.f2) (x0.f3) = some true := by
  intro x0 _ hw hk
  obtain ⟨text, plan, most, cuts⟩ := x0
  simp only at hw hk ⊢
  have hm := (bounds_i64 hw.2.2.1).2
  have h1 : text.size ≤ 1099511627776 := by omega
  have h2 : plan.size ≤ 1099511627776 := by omega
  have hfed : ∀ l, depotlaw03_fedIn.f text plan most l = some ((fedAll text plan most).2, (close (fedAll text plan most).1).code, (close (fedAll text plan most).1).place, (fedAll text plan most).1.taken) := fun l => if_pos ⟨h1, h2, by omega⟩
  obtain ⟨g1, g2, g3⟩ := close_got text plan most (by omega)
  have hlen := got_len text plan most
  have hs := split_got text plan most h1 h2 (by omega)
  rw [← g1] at hlen
  rw [← g1, ← g2, ← g3] at hs
  have hal : (fedAll text plan most).2.length ≤ 1099511627776 := by omega
  have hp := shut_place (text := text) (plan := plan) (most := most)
  rw [← g2, ← g3] at hp
  apply Ev.rounds
  simp only [depotlaw03_WireChunks.f]
  refine Ev.bind awake_ev (pos rfl (call (hfed cuts) (call (hfed []) (neg (by simp) (pos rfl (Ev.bind (alike_ev _ hal) (succ ?_)))))))
  simp only [depotlaw03_WireChunks.j0]
  refine neg (by simp) (call hs ?_)
  by_cases hc : (close (fedAll text plan most).1).code = 0
  · rw [if_pos hc]
    have hp := hp hc
    rw [hp, hc]
    exact pos (by simp) (pos rfl (Ev.bind (alike_ev _ hal) (now rfl)))
  · rw [if_neg hc]
    exact pos (by simp) (neg hc (now rfl))
end Go.Proofs.Ytnilogameaaooaa.Pure
/- What came in, opened by its kind: a reading of a value ys data gives the Lean value of the print's kinds, with its sizes. For rows over slices and structs. -/
set_option linter.unusedVariables false
set_option linter.unusedSimpArgs false
namespace Go.Proofs.Ytnilogameaaooaa.Opens
open Go.RowKit Go.Deep Go.Proofs.YtnilogameaaooaaW.PrintWords

section
variable {α β : Type}
/-- A reading at type t gives a value of kind d: its cells (K), its weights (each no more than one of the datum's, or 0), its bulk, and what is good about its numbers. -/
structure Opens (P : Program) (t : TypeId) (d : Kd α) (Wt : α → List Nat) (Bk : α → Nat) (Gd : α → Prop) : Prop where
  sz : P.cellsOf t = d.sz
  out : ∀ {H : Type} {enc : TypeId × Value → H} {w : World} {base : Nat} {spare : Nat → Bool} {held : Bool} {fuel : Nat} {cs : List Value} {x : DataW H × List MemPlace},
    DataW.trod enc P w base spare held fuel t cs = some x → ∃ a, d.K w a cs ∧ (∀ n ∈ Wt a, n = 0 ∨ ∃ m ∈ x.1.weights P t, n ≤ m) ∧ Bk a ≤ Rows.uptoBulk x.1 ∧ Gd a

variable {P : Program} {t : TypeId}
theorem opens_string (ht : P.underlying t = some .string) (hs : P.cellsOf t = 1) : Opens P t Kd.string (fun s => [s.size]) (fun s => s.size + 1) (fun s => s.size ≤ maxLen) := by
  refine ⟨hs, fun {H enc w base spare held fuel cs x} h => ?_⟩
  obtain ⟨s, rfl, rfl, hw⟩ := DataW.trod_string ht h
  refine ⟨s, rfl, ?_, ?_, hw⟩
  · intro n hn
    rw [List.mem_singleton] at hn
    refine .inr ⟨s.data.toList.length, by rw [DataW.weights]; exact List.mem_singleton.2 rfl, ?_⟩
    rw [hn, Array.length_toList]
    exact Nat.le_refl _
  · rw [Rows.uptoBulk, Array.length_toList]
    exact Nat.le_refl _
theorem opens_bool (ht : P.underlying t = some .bool) (hs : P.cellsOf t = 1) : Opens P t Kd.bool (fun _ => []) (fun _ => 1) (fun _ => True) := by
  refine ⟨hs, fun {H enc w base spare held fuel cs x} h => ?_⟩
  obtain ⟨b, rfl, rfl⟩ := DataW.trod_bool ht h
  exact ⟨b, rfl, fun _ h => absurd h (by simp), by rw [Rows.uptoBulk] <;> simp, trivial⟩
theorem opens_int {k : IntKind} (ht : P.underlying t = some (.int k)) (hs : P.cellsOf t = 1) : Opens P t (Kd.int k) (fun _ => []) (fun _ => 1) (fun n => (Lit.int k n).wf = true) := by
  refine ⟨hs, fun {H enc w base spare held fuel cs x} h => ?_⟩
  obtain ⟨n, rfl, rfl, hw⟩ := DataW.trod_int ht h
  exact ⟨n, rfl, fun _ h => absurd h (by simp), by rw [Rows.uptoBulk] <;> simp, hw⟩

theorem list_of {Q : Nat → α → Prop} : ∀ (n : Nat), (∀ i, i < n → ∃ a, Q i a) → ∃ ys : List α, ys.length = n ∧ ∀ i a, ys[i]? = some a → Q i a
  | 0, _ => ⟨[], rfl, fun i a h => by simp at h⟩
  | n + 1, h => by
    obtain ⟨ys, hl, hq⟩ := list_of n (fun i hi => h i (by omega))
    obtain ⟨a, ha⟩ := h n (by omega)
    refine ⟨ys ++ [a], by simp [hl], fun i b hb => ?_⟩
    rcases Nat.lt_or_ge i n with hi | hi
    · rw [List.getElem?_append_left (by omega)] at hb
      exact hq i b hb
    · have : i < (ys ++ [a]).length := (List.getElem?_eq_some_iff.1 hb).1
      simp [hl] at this
      have e : i = n := by omega
      subst e
      rw [List.getElem?_append_right (by omega), hl, Nat.sub_self] at hb
      simp at hb
      subst hb
      exact ha
theorem sum_le_range (ys : List α) (Bk : α → Nat) (b : Nat → Nat) (h : ∀ i a, ys[i]? = some a → Bk a ≤ b i) : (ys.map Bk).sum ≤ ((List.range ys.length).map b).sum := by
  induction ys generalizing b with
  | nil => simp
  | cons a ys ih =>
    have h0 := h 0 a rfl
    have h1 := ih (fun i => b (i + 1)) (fun i a ha => h (i + 1) a (by simpa using ha))
    rw [List.length_cons, List.range_succ_eq_map, List.map_cons, List.sum_cons, List.map_cons, List.sum_cons, List.map_map]
    have e : (List.map (b ∘ Nat.succ) (List.range ys.length)) = List.map (fun i => b (i + 1)) (List.range ys.length) := rfl
    rw [e]
    omega
theorem bulkAll_sum {H : Type} (l : List (DataW H)) : Rows.uptoBulkAll l = (l.map Rows.uptoBulk).sum := by
  induction l with
  | nil => rfl
  | cons d l ih => rw [Rows.uptoBulkAll, ih, List.map_cons, List.sum_cons]
theorem weightsAll_mem {H : Type} {e : TypeId} : ∀ (l : List (DataW H)) (d : DataW H), d ∈ l → ∀ m ∈ d.weights P e, m ∈ DataW.weightsAll P e l
  | [], d, h => absurd h (by simp)
  | d' :: l, d, h => by
    intro m hm
    rw [DataW.weightsAll, List.mem_append]
    rcases List.mem_cons.1 h with rfl | h
    · exact .inl hm
    · exact .inr (weightsAll_mem l d h m hm)

theorem opens_slice {e : TypeId} {d : Kd α} {Wt : α → List Nat} {Bk : α → Nat} {Gd : α → Prop} (ht : P.underlying t = some (.slice e)) (hs : P.cellsOf t = 1) (he : Opens P e d Wt Bk Gd) :
    Opens P t (Kd.slice e d) (fun xs => (xs.length * P.bytesOf e) :: xs.flatMap Wt) (fun xs => (xs.map Bk).sum + 1) (fun xs => xs.length ≤ maxLen ∧ ∀ x ∈ xs, Gd x) := by
  refine ⟨hs, fun {H enc w base spare held fuel cs x} h => ?_⟩
  rcases open_slice ht h with ⟨rfl, rfl⟩ | ⟨a, len, cap, m, n, D, Pl, rfl, hb, hl, hm, hmm, rfl, hx⟩
  · exact ⟨[], ⟨none, 0, rfl, Nat.le_refl _, Kd.C_nil d w⟩, fun n hn => .inl (by simpa using hn), by rw [Rows.uptoBulk]; simp, by simp, by simp⟩
  · have hlm : len ≤ m := by rw [hmm]; split <;> omega
    have each : ∀ i, i < len → ∃ b : α, (∃ cs', w.cells? base (a.add (i * P.cellsOf e)) (P.cellsOf e) = some cs' ∧ d.K w b cs') ∧ (∀ q ∈ Wt b, q = 0 ∨ ∃ r ∈ (D i).weights P e, q ≤ r) ∧ Bk b ≤ Rows.uptoBulk (D i) ∧ Gd b := by
      intro i hi
      obtain ⟨cs', h1, h2⟩ := hx i (by omega)
      obtain ⟨b, hK, hw, hk, hg⟩ := he.out h2
      exact ⟨b, ⟨cs', h1, hK⟩, hw, hk, hg⟩
    obtain ⟨ys, hal, has⟩ := list_of len each
    subst hal
    refine ⟨ys, ⟨some a, cap, rfl, hl, rfl, by unfold maxLen at hm; omega, fun hp => ⟨a, rfl, fun j p hj => ?_⟩⟩, ?_, ?_, by omega, ?_⟩
    · obtain ⟨⟨cs', h1, hK⟩, _⟩ := has j p hj
      refine ⟨cs', d.K_len hK, hK, fun i u hu => ?_⟩
      have hc := World.cells?_some h1
      rw [he.sz] at hc
      obtain ⟨hc0, hc1, hc2⟩ := hc
      have hi : i < d.sz := by rw [← d.K_len hK]; exact (List.getElem?_eq_some_iff.1 hu).1
      have := hc2 i (by omega)
      rw [hu] at this
      rw [Go.Deep.add_add] at this
      exact this
    · intro q hq
      rw [List.mem_cons, List.mem_flatMap] at hq
      have hwt : (DataW.slice ((List.range ys.length).map D) ((List.range (m - ys.length)).map fun j => D (ys.length + j)) : DataW H).weights P t = (((List.range ys.length).map D).length + ((List.range (m - ys.length)).map fun j => D (ys.length + j)).length) * P.bytesOf e :: (DataW.weightsAll P e ((List.range ys.length).map D) ++ DataW.weightsAll P e ((List.range (m - ys.length)).map fun j => D (ys.length + j))) := by
        rw [DataW.weights, ht]
      show q = 0 ∨ ∃ r ∈ (DataW.slice ((List.range ys.length).map D) ((List.range (m - ys.length)).map fun j => D (ys.length + j)) : DataW H).weights P t, q ≤ r
      rw [hwt]
      rcases hq with rfl | ⟨b, hbm, hq⟩
      · refine .inr ⟨_, List.mem_cons_self, ?_⟩
        refine Nat.mul_le_mul_right _ ?_
        simp
      · obtain ⟨i, hi⟩ := List.getElem?_of_mem hbm
        have hil : i < ys.length := (List.getElem?_eq_some_iff.1 hi).1
        obtain ⟨_, hw, _⟩ := has i b hi
        rcases hw q hq with h0 | ⟨r, hr, hqr⟩
        · exact .inl h0
        · exact .inr ⟨r, List.mem_cons_of_mem _ (List.mem_append_left _ (weightsAll_mem _ (D i) (List.mem_map.2 ⟨i, List.mem_range.2 hil, rfl⟩) r hr)), hqr⟩
    · show _ ≤ Rows.uptoBulk (DataW.slice ((List.range ys.length).map D) ((List.range (m - ys.length)).map fun j => D (ys.length + j)) : DataW H)
      rw [Rows.uptoBulk, bulkAll_sum, List.map_map]
      have := sum_le_range ys Bk (fun i => Rows.uptoBulk (D i)) (fun i b hb => (has i b hb).2.2.1)
      have e2 : (List.map (Rows.uptoBulk ∘ D) (List.range ys.length)) = List.map (fun i => Rows.uptoBulk (D i)) (List.range ys.length) := rfl
      rw [e2]
      omega
    · intro b hbm
      obtain ⟨i, hi⟩ := List.getElem?_of_mem hbm
      exact (has i b hi).2.2.2

/-- Fields, from a place on. -/
structure OpensF (P : Program) (fs : List Field) (off : Nat) (d : Kd α) (Wt : α → List Nat) (Bk : α → Nat) (Gd : α → Prop) : Prop where
  out : ∀ {H : Type} {enc : TypeId × Value → H} {w : World} {base : Nat} {spare : Nat → Bool} {held : Bool} {fuel : Nat} {cs : List Value} {xs : List (DataW H × List MemPlace)},
    cs.length = off + d.sz → xs.length = fs.length → (∀ (i : Nat) (f : Field), fs[i]? = some f → DataW.trod enc P w base spare held fuel f.type ((cs.drop f.offset).take (P.cellsOf f.type)) = xs[i]?) →
    ∃ a, d.K w a (cs.drop off) ∧ (∀ n ∈ Wt a, n = 0 ∨ ∃ m ∈ DataW.weightsEach P (fs.map (·.type)) (xs.map (·.1)), n ≤ m) ∧ Bk a ≤ Rows.uptoBulkAll (xs.map (·.1)) ∧ Gd a
theorem opensF_one {f : Field} {off : Nat} {d : Kd α} {Wt : α → List Nat} {Bk : α → Nat} {Gd : α → Prop} (ho : f.offset = off) (he : Opens P f.type d Wt Bk Gd) : OpensF P [f] off d Wt Bk Gd := by
  refine ⟨fun {H enc w base spare held fuel cs xs} hc hl h => ?_⟩
  match xs, hl with
  | [x], _ =>
    have h0 := h 0 f rfl
    rw [ho, he.sz, List.take_of_length_le (by rw [List.length_drop]; omega)] at h0
    obtain ⟨a, hK, hw, hb, hg⟩ := he.out h0
    refine ⟨a, hK, fun n hn => ?_, ?_, hg⟩
    · rcases hw n hn with h | ⟨m, hm, hle⟩
      · exact .inl h
      · refine .inr ⟨m, ?_, hle⟩
        simp only [List.map_cons, List.map_nil, DataW.weightsEach, List.append_nil]
        exact hm
    · simp only [List.map_cons, List.map_nil, Rows.uptoBulkAll]
      omega
theorem opensF_cons {f : Field} {fs : List Field} {off : Nat} {d : Kd α} {d' : Kd β} {Wt : α → List Nat} {Bk : α → Nat} {Gd : α → Prop} {Wt' : β → List Nat} {Bk' : β → Nat} {Gd' : β → Prop}
    (ho : f.offset = off) (he : Opens P f.type d Wt Bk Gd) (hr : OpensF P fs (off + d.sz) d' Wt' Bk' Gd') :
    OpensF P (f :: fs) off (Kd.pair d d') (fun x => Wt x.1 ++ Wt' x.2) (fun x => Bk x.1 + Bk' x.2) (fun x => Gd x.1 ∧ Gd' x.2) := by
  refine ⟨fun {H enc w base spare held fuel cs xs} hc hl h => ?_⟩
  have hsz : (Kd.pair d d').sz = d.sz + d'.sz := rfl
  rw [hsz] at hc
  match xs, hl with
  | x :: xs, hl =>
    have h0 := h 0 f rfl
    rw [ho, he.sz] at h0
    obtain ⟨a, hK, hw, hb, hg⟩ := he.out h0
    obtain ⟨b, hK', hw', hb', hg'⟩ := hr.out (enc := enc) (w := w) (base := base) (spare := spare) (held := held) (fuel := fuel) (cs := cs) (xs := xs) (by omega) (by simpa using hl) (fun i f' hf => by simpa using h (i + 1) f' (by simpa using hf))
    refine ⟨(a, b), ⟨(cs.drop off).take d.sz, cs.drop (off + d.sz), ?_, hK, hK'⟩, fun n hn => ?_, ?_, hg, hg'⟩
    · rw [← List.drop_drop, List.take_append_drop]
    · simp only [List.map_cons, DataW.weightsEach, List.mem_append]
      rcases List.mem_append.1 hn with hn | hn
      · rcases hw n hn with h | ⟨m, hm, hle⟩
        · exact .inl h
        · exact .inr ⟨m, .inl hm, hle⟩
      · rcases hw' n hn with h | ⟨m, hm, hle⟩
        · exact .inl h
        · exact .inr ⟨m, .inr hm, hle⟩
    · simp only [List.map_cons, Rows.uptoBulkAll]
      omega
theorem opens_struct {fs : Array Field} {d : Kd α} {Wt : α → List Nat} {Bk : α → Nat} {Gd : α → Prop} (ht : P.underlying t = some (.struct fs)) (hs : P.cellsOf t = d.sz) (he : OpensF P fs.toList 0 d Wt Bk Gd) :
    Opens P t d Wt (fun a => Bk a + 1) Gd := by
  refine ⟨hs, fun {H enc w base spare held fuel cs x} h => ?_⟩
  obtain ⟨xs, n, rfl, rfl, hl, hl2, hx⟩ := DataW.trod_struct ht h
  obtain ⟨a, hK, hw, hb, hg⟩ := he.out (enc := enc) (w := w) (base := base) (spare := spare) (held := held) (fuel := n) (cs := cs) (xs := xs) (by omega) (by simpa using hl2) (fun i f hf => hx i f (by simpa using hf))
  refine ⟨a, by simpa using hK, fun n hn => ?_, ?_, hg⟩
  · rcases hw n hn with h | ⟨m, hm, hle⟩
    · exact .inl h
    · refine .inr ⟨m, ?_, hle⟩
      show m ∈ (DataW.agg (xs.map (·.1))).weights P t
      rw [DataW.weights, ht]
      exact hm
  · show _ ≤ Rows.uptoBulk (DataW.agg (xs.map (·.1)))
    rw [Rows.uptoBulk]
    omega
theorem opens_iso {d : Kd α} {Wt : α → List Nat} {Bk : α → Nat} {Gd : α → Prop} (f : β → α) (g : α → β) (hfg : ∀ a, f (g a) = a) (h : Opens P t d Wt Bk Gd) : Opens P t (Kd.iso d f) (fun b => Wt (f b)) (fun b => Bk (f b)) (fun b => Gd (f b)) := by
  refine ⟨h.sz, fun {H enc w base spare held fuel cs x} hx => ?_⟩
  obtain ⟨a, hK, hw, hb, hg⟩ := h.out hx
  refine ⟨g a, ?_, ?_, ?_, ?_⟩
  · show d.K w (f (g a)) cs
    rw [hfg]; exact hK
  · rw [hfg]; exact hw
  · rw [hfg]; exact hb
  · rw [hfg]; exact hg

/-- At an argument: its weights are within the reach. -/
theorem arg {H : Type} {enc : TypeId × Value → H} {w : World} {base : Nat} {spare : Nat → Bool} {held : Bool} {v : Value} {dd : DataW H} {ps : List MemPlace} {d : Kd α} {Wt : α → List Nat} {Bk : α → Nat} {Gd : α → Prop} (h : Opens P t d Wt Bk Gd)
    (hx : DataW.Trod enc P w base spare held t v dd ps) : ∃ a, d.K w a v.cells.toList ∧ (∀ n ∈ Wt a, n = 0 ∨ ∃ m ∈ dd.weights P t, n ≤ m) ∧ Bk a ≤ Rows.uptoBulk dd ∧ Gd a := by
  obtain ⟨fuel, hf⟩ := hx
  obtain ⟨a, h1, h2, h3, h4⟩ := h.out hf
  exact ⟨a, h1, h2, h3, h4⟩
/-- Each weight of an argument is within the reach of the form. -/
theorem reach {H : Type} {ts : List TypeId} {ds : List (DataW H)} (h : (DataW.weightsEach P ts ds).all (· ≤ reachBytes) = true) {j : Nat} {t : TypeId} {dd : DataW H} (ht : ts[j]? = some t) (hd : ds[j]? = some dd) {l : List Nat}
    (hw : ∀ n ∈ l, n = 0 ∨ ∃ m ∈ dd.weights P t, n ≤ m) : ∀ n ∈ l, n ≤ 140737488351232 := by
  intro n hn
  rcases hw n hn with h0 | ⟨m, hm, hle⟩
  · omega
  · have := DataW.weights_mem_each ht hd m hm
    rw [List.all_eq_true] at h
    have h1 := of_decide_eq_true (h m this)
    unfold reachBytes at h1
    omega
end
end Go.Proofs.Ytnilogameaaooaa.Opens
