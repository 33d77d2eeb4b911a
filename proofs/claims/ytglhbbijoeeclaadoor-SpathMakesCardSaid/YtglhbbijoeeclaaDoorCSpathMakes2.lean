/- Texts of this claim, put together: Make, Q22, ShaPad, ExtText, TextPure, HexPure, B32Pure, TextTrue, B32Enc, MakeAll, RSha1, RSha2, RSha3, RPad, RSha4, RHex, RFold, RB32, RefRefs, RNamed, ExtSpMakes, DoorSha, Opens, Arr. -/
import Derived.Test.YtglhbbijoeeclaaDoorCSpathMakes1
import Derived.Test.YtglhbbijoeeclaaDoorShelf
import Derived.Test.YtglhbbijoeeclaaDoorQ28
import Derived.Test.YtglhbbijoeeclaaDoorExtLabel
import Derived.Test.YtglhbbijoeeclaaDoorQ0
import Derived.Test.YtglhbbijoeeclaaDoorBytes
import Derived.Test.YtglhbbijoeeclaaDoorQ44
import Derived.Laws.BitsAllLaws
import Derived.Test.YtglhbbijoeeclaaDoorQ53
import Derived.Test.YtglhbbijoeeclaaDoorQ55
import Derived.Test.YtglhbbijoeeclaaDoorQ57
import Derived.Test.YtglhbbijoeeclaaDoorQ43
import Derived.Test.YtglhbbijoeeclaaDoorQ38
import Derived.Test.YtglhbbijoeeclaaDoorRows
import Derived.ProofKit
import Derived.LaidMore
import Derived.LaidLaws
import Derived.LaidHandle
import Derived.OpenShut
import Derived.Test.YtglhbbijoeeclaaDoorWWords
import Derived.Test.YtglhbbijoeeclaaDoorWLast
import Derived.Deep.Slices
import Derived.SizedLaws
import Derived.WideShapes
/- spath.Make, walked. -/
namespace Go.Proofs.YtglhbbijoeeclaaDoor.Sha
open Go.RowKit Go.Proofs.YtglhbbijoeeclaaDoorW.PrintWords Go.Proofs.YtglhbbijoeeclaaDoorW.PrintLast Go.Proofs.YtglhbbijoeeclaaDoorW.PrintMore Go.Proofs.YtglhbbijoeeclaaDoor.Bytes Go.Proofs.YtglhbbijoeeclaaDoor.Q
set_option linter.unusedVariables false
set_option linter.unusedSimpArgs false
def treeS : ByteArray := ⟨#[116, 114, 101, 101]⟩
def shaS : ByteArray := ⟨#[115, 104, 97, 50, 53, 54]⟩
def dirS : ByteArray := ⟨#[47, 100, 101, 112, 111, 116, 47, 115, 116, 111, 114, 101, 47]⟩
def dashS : ByteArray := ⟨#[45]⟩
def colonS : ByteArray := ⟨#[58]⟩
theorem infoS : (Tryd.prog.info? 9).map (fun i => (i.zero, i.size, i.bytes)) = some (some (.string ⟨#[]⟩), 1, 16) := by kernel_rfl
/-- string(a[:]) of an array of 32 bytes. -/
theorem conv32 (W : World) (g : Nat) (l : List UInt8) (t : TypeId) (hl : l.length = 32) (h : W.heap[g]? = some (.cells (l.map bcell).toArray t (0, 0))) : (convert 34 9 (.slice (some ⟨g, 0, none⟩) 32 32)).run Tryd.prog W = .ok (.string ⟨l.toArray⟩) W := by
  have := run_convert_bytes_back (P := Tryd.prog) W 34 9 5 ⟨g, 0, none⟩ 32 l Tryd.underlying34 Tryd.underlying5 Tryd.underlying9 (fun j hj => by
    rw [Addr.add_mid]
    simp only [World.cell?, h, List.getElem?_toArray, Nat.zero_add]
    rw [List.getElem?_map, List.getElem?_eq_getElem hj]
    rfl)
  rw [hl] at this
  exact this
set_option maxRecDepth 100000 in
set_option maxHeartbeats 4000000 in
theorem make_good (hP : PadCalls) (w : World) (hG : Glob w) (A : Option Addr) (c : Nat) (refs : List ByteArray) (d : List UInt8) (hd : d.length = 32) (label hxs txt b32 : ByteArray) (kr kh kb : Nat) (hr : Kd.C Kd.string w A refs.length refs) (hc : refs.length ≤ c) (hlen : refs.length ≤ 1024)
    (h1 : spath_CheckLabel.f label = some 0) (h2 : spath_CheckRefs.f kr refs = some 0) (h3 : radix_Hex.f kh ⟨d.toArray⟩ = some hxs) (h4 : strings_Join.f ([treeS] ++ refs ++ [shaS, hxs, dirS, label]) colonS = some txt) (ht : txt.size < 1152921504606846976)
    (h5 : radix_Base32.f kb ⟨(fold (of txt.data.toList) 20).toArray⟩ = some b32) (hb : b32.size < 1000000) (hll : label.size < 1000000) :
    Calls Tryd.prog 8 #[.slice A refs.length c, .agg (d.map bcell).toArray, .string label] w fun e w' => e = .returned (.tuple #[.string (dirS ++ b32 ++ dashS ++ label), .int .i64 0]) ∧ Below w.heap.size w w' := by
  have HR28 : Aside0 ((Tryd.prog.info? 28).map (·.size) = some 32) := ⟨by kernel_rfl⟩
  have HG := Aside0.mk hG
  have HR := Aside0.mk hr
  have HB1 := Aside0.mk ((Below.refl w.heap.size w).alloc (Nat.le_refl _) (.cells (d.map bcell).toArray 28))
  have HX1 := Aside0.mk (World.alloc_heap_new w (.cells (d.map bcell).toArray 28))
  have C1 := Aside0.mk (fun W => spath_CheckLabel.calls label 0 W h1)
  have C2 := Aside0.mk (fun W (h : Below w.heap.size w W) => spath_CheckRefs.calls kr A c refs 0 W (Kd.C_below hr h) hc h2)
  have C3 := Aside0.mk (fun W => radix_Hex.calls kh ⟨d.toArray⟩ hxs W h3)
  have C5 := Aside0.mk (fun W => radix_Base32.calls kb ⟨(fold (of txt.data.toList) 20).toArray⟩ b32 W h5)
  have CO := Aside0.mk (fun W (h : Below w.heap.size w W) => of_calls hP txt W (hG.below h hG.lt) ht)
  have CF := Aside0.mk (fun (W : World) => show Calls Tryd.prog 12 #[.string ⟨(of txt.data.toList).toArray⟩, .int .i64 20] W fun e w' => e = .returned (.tuple #[.string ⟨(fold (of txt.data.toList) 20).toArray⟩, .int .i64 0]) ∧ Below W.heap.size W w' from fold_calls ⟨(of txt.data.toList).toArray⟩ 20 W (by decide) (by decide) (show (of txt.data.toList).length < _ by rw [of_len]; decide))
  obtain ⟨L, hL⟩ : ∃ L, [treeS] ++ refs ++ [shaS, hxs, dirS, label] = L := ⟨_, rfl⟩
  rw [hL] at h4
  have HL := Aside0.mk hL
  clear hL
  have H4 := Aside0.mk (show strings_Join.f L (⟨#[58]⟩ : ByteArray) = some txt from h4)
  have HOL := Aside0.mk (of_len txt.data.toList)
  have HD := Aside0.mk hd
  clear hP hG hr h1 h2 h3 h4 h5 hd
  have s1 : ((13 : Int) + (b32.size : Int) ≤ 9223372036854775807) = True := eq_true (by omega)
  have s2 : (13 + b32.size ≤ 9223372036854775807) = True := eq_true (by omega)
  go_enter Tryd.func8, Tryd.ntmps8
  go_wp2_with (first
    | (go_at_call 15; (refine (C1.out _).mono ?_); rintro e w2 ⟨rfl, hb2⟩; have HB2 := Aside0.mk (HB1.out.trans (hb2.mono HB1.out.size)); have HX2 := Aside0.mk ((hb2.block _ (Array.getElem?_eq_some_iff.1 HX1.out).1).trans HX1.out); clear hb2)
    | (go_at_call 14; ((with_reducible refine (C2.out w2 HB2.out).mono ?_)); rintro e w3 ⟨rfl, hb3⟩; have HB3 := Aside0.mk (HB2.out.trans (hb3.mono HB2.out.size)); have HX3 := Aside0.mk ((hb3.block _ (Array.getElem?_eq_some_iff.1 HX2.out).1).trans HX2.out); clear hb3)
    | ((with_reducible refine gate_dst (N := 24) rfl ?_); refine Kd.R_lit Kd.string (w0 := w) w.heap.size 9 ?hg (N := 24) ?hd (xs := [treeS]) (inner := [.string treeS]) (ok := fun _ => True) (okp := fun _ => True) ?hr ?hp (fun _ hk => hk) trivial HB3.out HB3.out.size (by simp) ?_; (case hd => rfl); (case hg => rfl); (case hr => first | (go_simp; done) | (go_simp; rfl)); (case hp => exact Reps.one (show Kd.M Kd.string _ _ _ treeS [.string treeS] from rfl) (Reps.none _ _)); intro v4 w4 ho4 hb4 hg4 hnew4; have HO4 := Aside0.mk ho4; have HB4 := Aside0.mk hb4; have HN4 := Aside0.mk hnew4; have HX4 := Aside0.mk ((hg4.block _ (Array.getElem?_eq_some_iff.1 HX3.out).1 (by intro e; cases e)).trans HX3.out); have HLT4 := Aside0.mk (Array.getElem?_eq_some_iff.1 HX3.out).1; clear ho4 hb4 hg4 hnew4)
    | ((with_reducible refine gate_builtin (b := .append) (xs := #[.tmp 24, .tmp 25]) rfl ?_); at_builtin; refine Kd.R_append_rows Kd.string (w0 := w) w.heap.size rfl (.tmp 24) (.tmp 25) 22 9 (.string ⟨#[]⟩) 16 rfl Tryd.underlying22 infoS rfl (by decide) (by omega) v4 [treeS] refs A _ _ (fun _ => True) (fun _ => False) rfl rfl HO4.out (Kd.C_below HR.out HB4.out) (fun _ _ h => h) (fun _ h => h.elim) (fun _ _ => trivial) HB4.out HB4.out.size (by simp; omega) ?_; intro v5 w5 ho5 hb5 hg5 hat5; have HO5 := Aside0.mk ho5; have HB5 := Aside0.mk hb5; have HX5 : Aside0 (w5.heap[w.heap.size]? = some (.cells (d.map bcell).toArray 28 (0, 0))) := ⟨(hg5.block _ (Array.getElem?_eq_some_iff.1 HX4.out).1 (by obtain ⟨q, hq, hle⟩ := HN4.out; rw [hq]; intro e; injection e; have := HLT4.out; omega)).trans HX4.out⟩; have hcv5 := conv32 w5 w.heap.size d _ HD.out HX5.out; clear ho5 hb5 hg5 hat5)
    | (go_at_call 11; ((with_reducible refine (C3.out w5).mono ?_)); rintro e w6 ⟨rfl, hb6⟩; have HB6 := Aside0.mk (HB5.out.trans (hb6.mono HB5.out.size)); have HO6 := Aside0.mk (Kd.R_below HO5.out hb6); clear hb6 hcv5)
    | ((with_reducible refine gate_dst (N := 32) rfl ?_); refine Kd.R_lit Kd.string (w0 := w) w.heap.size 9 ?hg (N := 32) ?hd (xs := [shaS, hxs, dirS, label]) (inner := [.string shaS, .string hxs, .string dirS, .string label]) (ok := fun _ => True) (okp := fun _ => True) ?hr ?hp (fun _ hk => hk) trivial HB6.out HB6.out.size (by simp) ?_; (case hd => rfl); (case hg => rfl); (case hr => first | (go_simp; done) | (go_simp; rfl)); (case hp => exact Reps.one (show Kd.M Kd.string _ _ _ shaS [.string shaS] from rfl) (Reps.one (show Kd.M Kd.string _ _ _ hxs [.string hxs] from rfl) (Reps.one (show Kd.M Kd.string _ _ _ dirS [.string dirS] from rfl) (Reps.one (show Kd.M Kd.string _ _ _ label [.string label] from rfl) (Reps.none _ _))))); intro v7 w7 ho7 hb7 hg7 hnew7; obtain ⟨A7, c7, rfl, hc7, hC7⟩ := Kd.R_reads ho7; have HC7 := Aside0.mk hC7; have HO7 := Aside0.mk (Kd.R_grown HO6.out hg7 (fun _ _ => by simp)); have HB7 := Aside0.mk hb7; clear ho7 hb7 hg7 hnew7 hC7)
    | ((with_reducible refine gate_builtin (b := .append) (xs := #[.tmp 27, .tmp 32]) rfl ?_); at_builtin; refine Kd.R_append_rows Kd.string (w0 := w) w.heap.size rfl (.tmp 27) (.tmp 32) 22 9 (.string ⟨#[]⟩) 16 rfl Tryd.underlying22 infoS rfl (by decide) (by omega) v5 ([treeS] ++ refs) [shaS, hxs, dirS, label] A7 _ _ (fun _ => True) (fun _ => False) rfl rfl HO7.out HC7.out (fun _ _ h => h) (fun _ h => h.elim) (fun _ _ => trivial) HB7.out HB7.out.size (by simp; omega) ?_; intro v8 w8 ho8 hb8 hg8 hat8; rw [HL.out] at ho8; obtain ⟨A8, c8, rfl, hc8, hC8⟩ := Kd.R_reads ho8; have HC8 := Aside0.mk hC8; have HB8 := Aside0.mk hb8; clear ho8 hb8 hg8 hat8 hC8)
    | (go_at_call 20; ((with_reducible refine (strings_Join.calls A8 c8 L (⟨#[58]⟩ : ByteArray) txt w8 HC8.out hc8 H4.out).mono ?_)); rintro e w9 ⟨rfl, hb9⟩; have HB9 := Aside0.mk (HB8.out.trans (hb9.mono HB8.out.size)); clear hb9)
    | (go_at_call 10; ((with_reducible refine (CO.out w9 HB9.out).mono ?_)); rintro e w10 ⟨rfl, hb10⟩; have HB10 := Aside0.mk (HB9.out.trans (hb10.mono HB9.out.size)); clear hb10)
    | ((with_reducible refine gate_store (t := 28) (p := 11) rfl ?_); refine wpList_store_row' rfl 28 (.tmp 11) (.tmp 36) rfl w10.heap.size 28 (List.replicate 32 (Value.int .u8 0)).toArray ((of txt.data.toList).map bcell).toArray rfl rfl (World.alloc_heap_new w10 _) (by rw [List.size_toArray, List.length_map, HOL.out]; exact HR28.out) (by rw [List.size_toArray, List.size_toArray, List.length_map, HOL.out]; rfl) (all_oneCell_toArray fun u hu => by obtain ⟨y, _, rfl⟩ := List.mem_map.1 hu; rfl) ?_; intro w11 hw11; have hcv11 := conv32 w11 w10.heap.size (of txt.data.toList) 28 HOL.out (by rw [hw11]; exact setRow_heap _ _ _ _ _ _ (World.alloc_heap_new w10 _)); have HB11 : Aside0 (Below w.heap.size w w11) := ⟨by rw [hw11]; exact below_setRow (HB10.out.alloc HB10.out.size _) HB10.out.size _⟩; clear hw11)
    | (go_at_call 12; ((with_reducible refine (CF.out w11).mono ?_)); rintro e w12 ⟨rfl, hb12⟩; have HB12 := Aside0.mk (HB11.out.trans (hb12.mono HB11.out.size)); clear hb12 hcv11)
    | (go_at_call 13; ((with_reducible refine (C5.out w12).mono ?_)); rintro e w13 ⟨rfl, hb13⟩; have HB13 := Aside0.mk (HB12.out.trans (hb13.mono HB12.out.size)); clear hb13))
  go_ret2
  exact ⟨rfl, HB13.out⟩
set_option maxRecDepth 100000 in
set_option maxHeartbeats 4000000 in
theorem make_label (w : World) (A : Option Addr) (n c : Nat) (d : List UInt8) (label : ByteArray) (e1 : Int) (h1 : spath_CheckLabel.f label = some e1) (he : e1 ≠ 0) :
    Calls Tryd.prog 8 #[.slice A n c, .agg (d.map bcell).toArray, .string label] w fun e w' => e = .returned (.tuple #[.string ⟨#[]⟩, .int .i64 e1]) ∧ Below w.heap.size w w' := by
  have HB1 := Aside0.mk ((Below.refl w.heap.size w).alloc (Nat.le_refl _) (.cells (d.map bcell).toArray 28))
  have C1 := Aside0.mk (fun W => spath_CheckLabel.calls label e1 W h1)
  have d1 : decide (e1 = 0) = false := decide_eq_false he
  clear h1
  go_enter Tryd.func8, Tryd.ntmps8
  go_wp2_with (first
    | (go_at_call 15; (refine (C1.out _).mono ?_); rintro e w2 ⟨rfl, hb2⟩; have HB2 := Aside0.mk (HB1.out.trans (hb2.mono HB1.out.size)); clear hb2))
  go_ret2
  exact ⟨rfl, HB2.out⟩
set_option maxRecDepth 100000 in
set_option maxHeartbeats 4000000 in
theorem make_refs (w : World) (A : Option Addr) (c : Nat) (refs : List ByteArray) (d : List UInt8) (label : ByteArray) (e2 : Int) (kr : Nat) (hr : Kd.C Kd.string w A refs.length refs) (hc : refs.length ≤ c) (h1 : spath_CheckLabel.f label = some 0) (h2 : spath_CheckRefs.f kr refs = some e2) (he : e2 ≠ 0) :
    Calls Tryd.prog 8 #[.slice A refs.length c, .agg (d.map bcell).toArray, .string label] w fun e w' => e = .returned (.tuple #[.string ⟨#[]⟩, .int .i64 e2]) ∧ Below w.heap.size w w' := by
  have HB1 := Aside0.mk ((Below.refl w.heap.size w).alloc (Nat.le_refl _) (.cells (d.map bcell).toArray 28))
  have C1 := Aside0.mk (fun W => spath_CheckLabel.calls label 0 W h1)
  have C2 := Aside0.mk (fun W (h : Below w.heap.size w W) => spath_CheckRefs.calls kr A c refs e2 W (Kd.C_below hr h) hc h2)
  have d1 : decide (e2 = 0) = false := decide_eq_false he
  clear h1 h2 hr
  go_enter Tryd.func8, Tryd.ntmps8
  go_wp2_with (first
    | (go_at_call 15; (refine (C1.out _).mono ?_); rintro e w2 ⟨rfl, hb2⟩; have HB2 := Aside0.mk (HB1.out.trans (hb2.mono HB1.out.size)); clear hb2)
    | (go_at_call 14; ((with_reducible refine (C2.out w2 HB2.out).mono ?_)); rintro e w3 ⟨rfl, hb3⟩; have HB3 := Aside0.mk (HB2.out.trans (hb3.mono HB2.out.size)); clear hb3))
  go_ret2
  exact ⟨rfl, HB3.out⟩
end Go.Proofs.YtglhbbijoeeclaaDoor.Sha
/- By a program of this session's: a plain Lean function for a Go function, and its contract. -/
namespace Go.Proofs.YtglhbbijoeeclaaDoor.Q
open Go.RowKit Go.Proofs.YtglhbbijoeeclaaDoorW.PrintWords Go.Proofs.YtglhbbijoeeclaaDoorW.PrintLast Go.Proofs.YtglhbbijoeeclaaDoorW.PrintMore
attribute [local go_sem] max2_int min2_int max_two min_two max_three min_three max_four min_four Go.Proofs.YtglhbbijoeeclaaDoor.Ord.str_leq Go.Proofs.YtglhbbijoeeclaaDoor.Ord.str_gtr Go.Proofs.YtglhbbijoeeclaaDoor.Ord.str_geq   -- for this text's walks alone
set_option linter.unusedVariables false
set_option linter.unusedSimpArgs false

/-! ### sha_Pad: function 45 -/
def sha_Pad.l0 : Nat → List Int → Int → Int → Option (ByteArray)
  | 0, _, _, _ => none
  | k + 1, x4, x5, x22 => if x22 < 8 then (if 0 ≤ (wrap64 (8 * x22)) then (if 0 ≤ (wrap64 ((wrap64 ((x4.length : Int) - 1)) - x22)) then (if (wrap64 ((wrap64 ((x4.length : Int) - 1)) - x22)) < (x4.length : Int) then (sha_Pad.l0 k (x4.set ((wrap64 ((wrap64 ((x4.length : Int) - 1)) - x22)) : Int).toNat ((shr .u64 x5 (wrap64 (8 * x22))) % 256)) x5 (wrap64 (x22 + 1))) else (none)) else (none)) else (none)) else (some (strOfNums x4))
def sha_Pad.f (k : Nat) (a0 : Int) : Option (ByteArray) := if a0 < 0 then (some (⟨#[]⟩ : ByteArray)) else (if 0 ≤ (wrap64 ((wrap64 (1 + (Int.tmod (wrap64 (119 - (Int.tmod a0 64))) 64))) + 8)) then (if (wrap64 ((wrap64 (1 + (Int.tmod (wrap64 (119 - (Int.tmod a0 64))) 64))) + 8) : Int).toNat ≤ 281474976710656 then ((some (List.replicate (wrap64 ((wrap64 (1 + (Int.tmod (wrap64 (119 - (Int.tmod a0 64))) 64))) + 8) : Int).toNat 0 : List Int)).bind fun y125 => (if 0 < (y125.length : Int) then (sha_Pad.l0 k (y125.set (0 : Int).toNat 128) (IntKind.u64.wrap ((IntKind.u64.wrap (a0)) * 8)) 0) else (none))) else (none)) else (none))
theorem sha_Pad.mono_l : ∀ k, (∀ y0 y1 y2, LeO (sha_Pad.l0 k y0 y1 y2) (sha_Pad.l0 (k + 1) y0 y1 y2))
  | 0 => fun _ _ _ r h => by simp [sha_Pad.l0] at h
  | k + 1 => by
    have ih0 := sha_Pad.mono_l k
    · intro y0 y1 y2
      unfold sha_Pad.l0
      repeat' first
      | (with_reducible exact ih0 _ _ _)
      | (with_reducible exact LeO.refl _)
      | (with_reducible exact LeO.none _)
      | (with_reducible refine LeO.ite ?_ ?_)
      | (with_reducible refine LeO.bind ?_ (fun _ => ?_))
      | exact ih0 _ _ _
      | exact LeO.none _
      | refine LeO.ite ?_ ?_
      | refine LeO.bind ?_ (fun _ => ?_)
theorem sha_Pad.mono : ∀ a0 k, LeO (sha_Pad.f k a0) (sha_Pad.f (k + 1) a0) := by
  intro a0 k
  have ih0 := sha_Pad.mono_l k
  unfold sha_Pad.f
  repeat' first
      | (with_reducible exact ih0 _ _ _)
      | (with_reducible exact LeO.refl _)
      | (with_reducible exact LeO.none _)
      | (with_reducible refine LeO.ite ?_ ?_)
      | (with_reducible refine LeO.bind ?_ (fun _ => ?_))
      | exact ih0 _ _ _
      | exact LeO.none _
      | refine LeO.ite ?_ ?_
      | refine LeO.bind ?_ (fun _ => ?_)
set_option maxHeartbeats 8000000 in
set_option maxRecDepth 100000 in
theorem sha_Pad.calls (k : Nat) (a0 : Int) (r : ByteArray) (w : World) (h : sha_Pad.f k a0 = some r) :
    Calls Tryd.prog 45 #[.int .i64 a0] w fun e w' => e = .returned (.string r) ∧ Below w.heap.size w w' := by
  have HB := Aside0.mk (Below.refl w.heap.size w)
  have H : (if a0 < 0 then (some (⟨#[]⟩ : ByteArray)) else (if 0 ≤ (wrap64 ((wrap64 (1 + (Int.tmod (wrap64 (119 - (Int.tmod a0 64))) 64))) + 8)) then (if (wrap64 ((wrap64 (1 + (Int.tmod (wrap64 (119 - (Int.tmod a0 64))) 64))) + 8) : Int).toNat ≤ 281474976710656 then ((some (List.replicate (wrap64 ((wrap64 (1 + (Int.tmod (wrap64 (119 - (Int.tmod a0 64))) 64))) + 8) : Int).toNat 0 : List Int)).bind fun y125 => (if 0 < (y125.length : Int) then (sha_Pad.l0 k (y125.set (0 : Int).toNat 128) (IntKind.u64.wrap ((IntKind.u64.wrap (a0)) * 8)) 0) else (none))) else (none)) else (none))) = some r := h
  clear h
  by_cases c2 : a0 < 0
  · rw [if_pos c2] at H
    have c2b0 : decide (a0 < 0) = true := decide_eq_true c2
    clear c2
    obtain rfl := Option.some.inj H
    go_enter Tryd.func45, Tryd.ntmps45
    go_wp2
    go_ret
    exact ⟨by first | rfl | (simp [errW_none, errW_some] <;> rfl) | (simp [*, errW_none, errW_some] <;> rfl), by repeat (first | (with_reducible first | exact HB.out | apply below_alloc | apply pw_below_drewN | apply below_drew1) | exact HB.out)⟩
  · rw [if_neg c2] at H
    have c2b0 : decide (a0 < 0) = false := decide_eq_false c2
    clear c2
    obtain ⟨ji3, hji3⟩ : ∃ j_ : Int, (wrap64 ((wrap64 (1 + (Int.tmod (wrap64 (119 - (Int.tmod a0 64))) 64))) + 8)) = j_ := ⟨_, rfl⟩
    replace H : (if 0 ≤ (ji3) then (if (ji3 : Int).toNat ≤ 281474976710656 then ((some (List.replicate (ji3 : Int).toNat 0 : List Int)).bind fun y125 => (if 0 < (y125.length : Int) then (sha_Pad.l0 k (y125.set (0 : Int).toNat 128) (IntKind.u64.wrap ((IntKind.u64.wrap (a0)) * 8)) 0) else (none))) else (none)) else (none)) = some r := by first | (rw [hji3] at H; exact H) | (simp only [hji3] at H ⊢; exact H)
    have hji3w : (IntKind.i64.wrap ((wrap64 (1 + (Int.tmod (wrap64 (119 - (Int.tmod a0 64))) 64))) + 8)) = ji3 := (i64_w _).trans hji3
    by_cases c4 : 0 ≤ (ji3)
    · rw [if_pos c4] at H
      have c4b0 := eq_true c4
      have c4b1 : decide (0 ≤ (ji3)) = true := decide_eq_true c4
      clear c4
      by_cases c5 : (ji3 : Int).toNat ≤ 281474976710656
      · rw [if_pos c5] at H
        have c5b0 := eq_true c5
        have c5b1 : decide ((ji3 : Int).toNat ≤ 281474976710656) = true := decide_eq_true c5
        clear c5
        obtain ⟨y125, hy125⟩ : ∃ y_ : List Int, y_ = (List.replicate (ji3 : Int).toNat 0) := ⟨_, rfl⟩
        replace H : (if 0 < (y125.length : Int) then (sha_Pad.l0 k (y125.set (0 : Int).toNat 128) (IntKind.u64.wrap ((IntKind.u64.wrap (a0)) * 8)) 0) else (none)) = some r := by first | (rw [hy125]; with_reducible exact H) | (have H2_ := (Option.bind_some _ _).symm.trans H; rw [hy125]; with_reducible exact H2_) | (have H2_ := (Option.bind_some _ _).symm.trans H; with_reducible exact H2_) | with_reducible exact H | (rw [hy125]; exact H) | exact H
        have Ny125 := Aside0.mk hy125
        clear hy125
        by_cases c6 : 0 < (y125.length : Int)
        · rw [if_pos c6] at H
          have c6b0 : decide (0 < (y125.length : Int)) = true := decide_eq_true c6
          have c6b1 : decide (0 < y125.length) = true := decide_eq_true (by omega)
          clear c6
          obtain ⟨y128, hy128⟩ : ∃ y_ : List Int, y_ = (y125.set (0 : Int).toNat 128) := ⟨_, rfl⟩
          replace H : (sha_Pad.l0 k y128 (IntKind.u64.wrap ((IntKind.u64.wrap (a0)) * 8)) 0) = some r := by first | (rw [hy128]; with_reducible exact H) | (have H2_ := (Option.bind_some _ _).symm.trans H; rw [hy128]; with_reducible exact H2_) | (have H2_ := (Option.bind_some _ _).symm.trans H; with_reducible exact H2_) | with_reducible exact H | (rw [hy128]; exact H) | exact H
          have Ny128 := Aside0.mk hy128
          clear hy128
          have H' := Aside0.mk H
          clear H
          go_enter Tryd.func45, Tryd.ntmps45
          go_wp2_with (first | ((with_reducible refine gate_dst (N := 16) rfl ?_); refine Kd.R_make (Kd.int .u8) _ 5 rfl (N := 16) rfl 34 _ _ rfl ji3 rfl rfl Tryd.underlying34 (.int .u8 0) 1 info5 rfl (by decide) (by omega) 0 (ok := fun _ => True) (okp := fun _ => True) rfl (fun _ hk => hk) trivial (of_decide_eq_true (by first | (with_reducible assumption) | assumption)) (Nat.le_trans (Nat.mul_le_mul_right _ (of_decide_eq_true (by first | (with_reducible assumption) | assumption) : ji3.toNat ≤ 281474976710656)) (by omega)) (Below.refl _ _) (Nat.le_refl _) ?_; intro v126 w8 ho9 hb hg_ hnew_; clear hg_ hnew_; (first | rw [← Ny125.out] at ho9 | (simp only [Int.reduceToNat] at ho9; rw [← Ny125.out] at ho9)); have n0_ := Aside0.mk (Kd.R_lower ho9 (below_size (by repeat (first | (with_reducible first | exact HB.out | apply below_alloc | apply pw_below_drewN | apply below_drew1) | exact HB.out)))); have n1_ := Aside0.mk (below_step (by repeat (first | (with_reducible first | exact HB.out | apply below_alloc | apply pw_below_drewN | apply below_drew1) | exact HB.out)) hb); clear HB; have HO127 := n0_; have HB := n1_; clear n0_ n1_; clear hb ho9; have p7 : 0 ≤ (0 : Int) := (by omega); have q7 : (0 : Int) < ((y125.length : Int) : Int) := of_decide_eq_true (by first | (with_reducible assumption) | assumption); have qi7 : (0 < y125.length) = True := eq_true (by omega); obtain ⟨go7, co7, eo7, gb7, gl7, cl7, HG7⟩ := Kd.R_form HO127.out (by omega); (first | cases eo7 | (injection eo7 with ea_ en_ ec_; (first | subst ea_ | (injection ea_ with ea_; subst ea_)); subst ec_; clear en_)); have GB7 := Aside0.mk gb7; have GG7 := Aside0.mk HG7; clear gb7 gl7 HG7; obtain ⟨hx7_0, hf7_0⟩ := Kd.R_celln 0 HO127.out (0 : Int) p7 q7; (try rw [show ((0 : Int)).toNat = 0 from rfl] at hx7_0); (try simp only [Nat.reduceMul, Nat.zero_mul, Nat.zero_add, Nat.reduceAdd] at hx7_0); (try rw [show ((0 : Int)).toNat = 0 from rfl] at hf7_0); (try simp only [Nat.reduceMul, Nat.zero_mul, Nat.zero_add, Nat.reduceAdd] at hf7_0); replace p7 := eq_true p7; replace q7 := eq_true q7; obtain ⟨hy10_, hz10_⟩ := Kd.R_celln 0 HO127.out (0 : Int) (by omega) (of_decide_eq_true (by first | (with_reducible assumption) | assumption)); (try simp only [Int.reduceToNat, Int.toNat_zero, Int.toNat_ofNat, Nat.reduceMul, Nat.zero_mul, Nat.zero_add] at hy10_ hz10_); (try rw [show ((0 : Int)).toNat = 0 from rfl] at hy10_); (try rw [show ((0 : Int)).toNat = 0 from rfl] at hz10_); have HP10 := Kd.R_putg HO127.out (0 : Int) 128) | ((with_reducible refine gate_store (t := 5) (p := 18) rfl ?_); refine store_event (t := 5) (p := 18) (v := ?vo_w11) (w1 := (w8.setCell ⟨go7, (0 : Int).toNat, none⟩ (.int .u8 128))) ?hg ?ho ?hn ?hr ?_; (case ho => rfl); (case hg => rfl); (case hn => rfl); (case hr => first | (go_simp; done) | (go_simp; rfl)); intro w11 hw; have hg : w8.grownBy w11 (some go7) := (by rw [hw]; exact HP10.2); have hp_ : Kd.R (Kd.int .u8) 5 w11 w.heap.size (fun _ => True) (.slice (some ⟨go7, 0, none⟩) y125.length co7) y128 := (by rw [hw, Ny128.out]; exact HP10.1); clear HP10; have n0_ := Aside0.mk (hp_); have n1_ := Aside0.mk ((by rw [hw]; exact below_set (HB.out) GB7.out : Below w.heap.size w w11)); clear HO127; clear HB; have HO127 := n0_; have HB := n1_; clear n0_ n1_; clear hg hw hp_))
          go_loopg [22] k (fun kq v22 w' => ∃ (x4_1 : List Int) (x22_1 : Int), v22 = .int .i64 x22_1 ∧ Aside0 (sha_Pad.l0 kq x4_1 (IntKind.u64.wrap ((IntKind.u64.wrap (a0)) * 8)) x22_1 = some r) ∧ Aside0 (kq ≤ k) ∧ Aside0 (Kd.R (Kd.int .u8) 5 w' w.heap.size (fun _ => True) (.slice (some ⟨go7, 0, none⟩) y125.length co7) x4_1) ∧ Aside0 (Below w.heap.size w w'))
          case atStart => exact ⟨(y128), (0), (by first | rfl | (simp; done) | (simp [*]; done)), H', ⟨Nat.le_refl _⟩, ⟨by (with_reducible repeat (first | apply Kd.R_alloc | apply Kd.R_drewN | apply Kd.R_drew)); exact HO127.out⟩, ⟨by repeat (first | (with_reducible first | exact HB.out | apply below_alloc | apply pw_below_drewN | apply below_drew1) | exact HB.out)⟩⟩
          case round =>
            clear H'
            try clear c2
            try clear c2b0
            try clear p2
            try clear c4
            try clear c4b0
            try clear c4b1
            try clear c5
            try clear c5b0
            try clear c5b1
            try clear c6
            try clear c6b0
            try clear c6b1
            try clear p6
            try clear p7
            try clear q7
            try clear hx7
            try clear qi7
            try clear hf7
            try clear hx7_0
            try clear p7
            try clear q7
            obtain ⟨x4_1, x22_1, rfl, HA, HK1, HO_4, HB⟩ := hrel
            have hl4_1 := (Kd.R_reads' HO_4.out).1
            rw [hl4_1] at HO_4
            (try simp only [hl4_1])
            cases gk with
            | zero => exact absurd HA.out (by simp [sha_Pad.l0])
            | succ k1 =>
              have H := HA.out
              clear HA
              simp only [sha_Pad.l0] at H
              by_cases c12 : x22_1 < 8
              · rw [if_pos c12] at H
                have c12b0 : decide (x22_1 < 8) = true := decide_eq_true c12
                clear c12
                obtain ⟨ji13, hji13⟩ : ∃ j_ : Int, (wrap64 (8 * x22_1)) = j_ := ⟨_, rfl⟩
                replace H : (if 0 ≤ (ji13) then (if 0 ≤ (wrap64 ((wrap64 ((x4_1.length : Int) - 1)) - x22_1)) then (if (wrap64 ((wrap64 ((x4_1.length : Int) - 1)) - x22_1)) < (x4_1.length : Int) then (sha_Pad.l0 k1 (x4_1.set ((wrap64 ((wrap64 ((x4_1.length : Int) - 1)) - x22_1)) : Int).toNat ((shr .u64 (IntKind.u64.wrap ((IntKind.u64.wrap (a0)) * 8)) (ji13)) % 256)) (IntKind.u64.wrap ((IntKind.u64.wrap (a0)) * 8)) (wrap64 (x22_1 + 1))) else (none)) else (none)) else (none)) = some r := by first | (rw [hji13] at H; exact H) | (simp only [hji13] at H ⊢; exact H)
                have hji13w : (IntKind.i64.wrap (8 * x22_1)) = ji13 := (i64_w _).trans hji13
                by_cases c14 : 0 ≤ (ji13)
                · rw [if_pos c14] at H
                  have c14b0 := eq_true c14
                  have c14b1 : decide (0 ≤ (ji13)) = true := decide_eq_true c14
                  clear c14
                  obtain ⟨ji15, hji15⟩ : ∃ j_ : Int, (shr .u64 (IntKind.u64.wrap ((IntKind.u64.wrap (a0)) * 8)) (ji13)) = j_ := ⟨_, rfl⟩
                  replace H : (if 0 ≤ (wrap64 ((wrap64 ((x4_1.length : Int) - 1)) - x22_1)) then (if (wrap64 ((wrap64 ((x4_1.length : Int) - 1)) - x22_1)) < (x4_1.length : Int) then (sha_Pad.l0 k1 (x4_1.set ((wrap64 ((wrap64 ((x4_1.length : Int) - 1)) - x22_1)) : Int).toNat ((ji15) % 256)) (IntKind.u64.wrap ((IntKind.u64.wrap (a0)) * 8)) (wrap64 (x22_1 + 1))) else (none)) else (none)) = some r := by first | (rw [hji15] at H; exact H) | (simp only [hji15] at H ⊢; exact H)
                  have hji15_ : ((IntKind.u64.wrap ((IntKind.u64.wrap (a0)) * 8)) / 2 ^ min (ji13).toNat 64) = ji15 := hji15
                  have hji15z : (ji13) ≤ 64 → ((IntKind.u64.wrap ((IntKind.u64.wrap (a0)) * 8)) / 2 ^ (ji13).toNat) = ji15 := shr_small hji15
                  obtain ⟨ji16, hji16⟩ : ∃ j_ : Int, (wrap64 ((wrap64 ((x4_1.length : Int) - 1)) - x22_1)) = j_ := ⟨_, rfl⟩
                  replace H : (if 0 ≤ (ji16) then (if (ji16) < (x4_1.length : Int) then (sha_Pad.l0 k1 (x4_1.set ((ji16) : Int).toNat ((ji15) % 256)) (IntKind.u64.wrap ((IntKind.u64.wrap (a0)) * 8)) (wrap64 (x22_1 + 1))) else (none)) else (none)) = some r := by first | (rw [hji16] at H; exact H) | (simp only [hji16] at H ⊢; exact H)
                  have hji16w : (IntKind.i64.wrap ((wrap64 ((x4_1.length : Int) - 1)) - x22_1)) = ji16 := (i64_w _).trans hji16
                  by_cases c17 : 0 ≤ (ji16)
                  · rw [if_pos c17] at H
                    have c17b0 : decide (0 ≤ (ji16)) = true := decide_eq_true c17
                    clear c17
                    by_cases c18 : (ji16) < (x4_1.length : Int)
                    · rw [if_pos c18] at H
                      have c18b0 : decide ((ji16) < (x4_1.length : Int)) = true := decide_eq_true c18
                      clear c18
                      obtain ⟨y129, hy129⟩ : ∃ y_ : List Int, y_ = (x4_1.set ((ji16) : Int).toNat ((ji15) % 256)) := ⟨_, rfl⟩
                      replace H : (sha_Pad.l0 k1 y129 (IntKind.u64.wrap ((IntKind.u64.wrap (a0)) * 8)) (wrap64 (x22_1 + 1))) = some r := by first | (rw [hy129]; with_reducible exact H) | (have H2_ := (Option.bind_some _ _).symm.trans H; rw [hy129]; with_reducible exact H2_) | (have H2_ := (Option.bind_some _ _).symm.trans H; with_reducible exact H2_) | with_reducible exact H | (rw [hy129]; exact H) | exact H
                      have Ny129 := Aside0.mk hy129
                      clear hy129
                      have H' := Aside0.mk H
                      clear H
                      have p19 : 0 ≤ ((ji16) : Int) := of_decide_eq_true (by first | (with_reducible assumption) | assumption)
                      have q19 : ((ji16) : Int) < ((x4_1.length : Int) : Int) := of_decide_eq_true (by first | (with_reducible assumption) | assumption)
                      obtain ⟨hx19_0, hf19_0⟩ := Kd.R_celln 0 HO_4.out ((ji16) : Int) p19 q19
                      replace p19 := eq_true p19
                      replace q19 := eq_true q19
                      have HP20 := Kd.R_putg HO_4.out ((ji16) : Int) ((ji15) % 256)
                      go_wp2_with (first | ((with_reducible refine gate_store (t := 5) (p := 36) rfl ?_); refine store_event (t := 5) (p := 36) (v := ?vo_w21) (w1 := (wr.setCell ⟨go7, ((ji16) : Int).toNat, none⟩ (.int .u8 ((ji15) % 256)))) ?hg ?ho ?hn ?hr ?_; (case ho => rfl); (case hg => rfl); (case hn => rfl); (case hr => first | (go_simp; done) | (go_simp; rfl)); intro w21 hw; have hg : wr.grownBy w21 (some go7) := (by rw [hw]; exact HP20.2); have hp_ : Kd.R (Kd.int .u8) 5 w21 w.heap.size (fun _ => True) (.slice (some ⟨go7, 0, none⟩) x4_1.length co7) y129 := (by rw [hw, Ny129.out]; exact HP20.1); clear HP20; have n0_ := Aside0.mk (hp_); have n1_ := Aside0.mk ((by rw [hw]; exact below_set (HB.out) GB7.out : Below w.heap.size w w21)); clear HO_4; clear HB; have HO_4 := n0_; have HB := n1_; clear n0_ n1_; clear hg hw hp_))
                      (try simp only [← hl4_1])
                      go_roundg k1
                      case measure => have := HK1.out; omega
                      case rel => exact ⟨(y129), (wrap64 (x22_1 + 1)), (by first | rfl | (simp; done) | (simp [*]; done)), H', ⟨by have := HK1.out; omega⟩, ⟨by (try simp only [hl4_1]); (with_reducible repeat (first | apply Kd.R_alloc | apply Kd.R_drewN | apply Kd.R_drew)); exact HO_4.out⟩, ⟨by repeat (first | (with_reducible first | exact HB.out | apply below_alloc | apply pw_below_drewN | apply below_drew1) | exact HB.out)⟩⟩
                    · rw [if_neg c18] at H
                      exact absurd H (by simp)
                  · rw [if_neg c17] at H
                    exact absurd H (by simp)
                · rw [if_neg c14] at H
                  exact absurd H (by simp)
              · rw [if_neg c12] at H
                have c12b0 : decide (x22_1 < 8) = false := decide_eq_false c12
                clear c12
                obtain rfl := Option.some.inj H
                have hcv22 := own_string (P := Tryd.prog) Tryd.underlying34 Tryd.underlying5 Tryd.underlying9 (Kd.own_of_R HO_4.out)
                go_wp2
                go_ret
                exact ⟨by first | rfl | (simp [errW_none, errW_some] <;> rfl) | (simp only [← hji3]; first | rfl | (simp [errW_none, errW_some] <;> rfl)) | (simp [*, errW_none, errW_some] <;> rfl), by repeat (first | (with_reducible first | exact HB.out | apply below_alloc | apply pw_below_drewN | apply below_drew1) | exact HB.out)⟩
        · rw [if_neg c6] at H
          exact absurd H (by simp)
      · rw [if_neg c5] at H
        exact absurd H (by simp)
    · rw [if_neg c4] at H
      exact absurd H (by simp)

end Go.Proofs.YtglhbbijoeeclaaDoor.Q
/- SHA-256: Pad, as printed, is pad. -/
namespace Go.Proofs.YtglhbbijoeeclaaDoor.Sha
open Go.RowKit Go.Proofs.YtglhbbijoeeclaaDoorW.PrintWords Go.Proofs.YtglhbbijoeeclaaDoorW.PrintLast Go.Proofs.YtglhbbijoeeclaaDoorW.PrintMore Go.Proofs.YtglhbbijoeeclaaDoor.Bytes Go.Proofs.YtglhbbijoeeclaaDoor.Q
set_option linter.unusedVariables false
set_option linter.unusedSimpArgs false
/-- A byte of a number. -/
def nib (m i : Nat) : Int := ((m / 2 ^ (8 * i) % 256 : Nat) : Int)
theorem pad_round (k m i : Nat) (x4 : List Int) (hi : i < 8) (h9 : 9 ≤ x4.length) (hb : x4.length < 1000) : sha_Pad.l0 (k + 1) x4 (m : Int) (i : Int) = sha_Pad.l0 k (x4.set (x4.length - 1 - i) (nib m i)) (m : Int) ((i + 1 : Nat) : Int) := by
  have e1 : wrap64 (8 * (i : Int)) = ((8 * i : Nat) : Int) := by rw [w64 (by omega) (by omega)]; omega
  have e2 : wrap64 ((x4.length : Int) - 1) = ((x4.length - 1 : Nat) : Int) := by rw [w64 (by omega) (by omega)]; omega
  have e3 : wrap64 (((x4.length - 1 : Nat) : Int) - (i : Int)) = ((x4.length - 1 - i : Nat) : Int) := by rw [w64 (by omega) (by omega)]; omega
  have e4 : wrap64 ((i : Int) + 1) = ((i + 1 : Nat) : Int) := by rw [w64 (by omega) (by omega)]; omega
  have e5 : shr .u64 (m : Int) ((8 * i : Nat) : Int) % 256 = nib m i := by
    unfold shr nib
    rw [Int.toNat_natCast, Nat.min_eq_left (by show 8 * i ≤ 64; omega), Int.natCast_emod, Int.natCast_ediv, Int.natCast_pow]
    rfl
  rw [sha_Pad.l0, if_pos (by omega), e1, e2, e3, e4, e5, if_pos (Int.natCast_nonneg _), if_pos (Int.natCast_nonneg _), if_pos (by omega), Int.toNat_natCast]
theorem pad_last (k m : Nat) (x4 : List Int) : sha_Pad.l0 (k + 1) x4 (m : Int) ((8 : Nat) : Int) = some (strOfNums x4) := by
  rw [sha_Pad.l0, if_neg (by decide)]
theorem nib_byte (m i c : Nat) (h : 2 ^ (8 * i) = c) : UInt8.ofNat (nib m i).toNat = (m / c).toUInt8 := by
  unfold nib
  rw [Int.toNat_natCast, h]
  apply UInt8.toNat_inj.1
  show (UInt8.ofNat _).toNat = (UInt8.ofNat _).toNat
  rw [UInt8.toNat_ofNat', UInt8.toNat_ofNat']
  omega
theorem pad_f (n : Nat) (hn : n < 1152921504606846976) : sha_Pad.f 9 (n : Int) = some ⟨(pad n).toArray⟩ := by
  obtain ⟨z, hz⟩ : ∃ z, (119 - n % 64) % 64 = z := ⟨_, rfl⟩
  have hzl : z < 64 := by omega
  have t1 : Int.tmod (n : Int) 64 = ((n % 64 : Nat) : Int) := rfl
  have t2 : wrap64 (119 - ((n % 64 : Nat) : Int)) = ((119 - n % 64 : Nat) : Int) := by rw [w64 (by omega) (by omega)]; omega
  have t3 : Int.tmod ((119 - n % 64 : Nat) : Int) 64 = (z : Int) := by rw [← hz]; rfl
  have t4 : wrap64 (1 + (z : Int)) = ((z + 1 : Nat) : Int) := by rw [w64 (by omega) (by omega)]; omega
  have t5 : wrap64 (((z + 1 : Nat) : Int) + 8) = ((z + 9 : Nat) : Int) := by rw [w64 (by omega) (by omega)]; omega
  have t6 : IntKind.u64.wrap (n : Int) = (n : Int) := by rw [IntKind.wrap_u64]; omega
  have t7 : IntKind.u64.wrap ((n : Int) * 8) = ((n * 8 : Nat) : Int) := by rw [IntKind.wrap_u64]; omega
  have hrep : (List.replicate (z + 9) (0 : Int)).set 0 128 = 128 :: (List.replicate z 0 ++ [0, 0, 0, 0, 0, 0, 0, 0]) := by
    rw [show z + 9 = (z + 8) + 1 from rfl, List.replicate_succ, List.set_cons_zero, ← List.replicate_append_replicate]
    rfl
  have hset : ∀ (a0 a1 a2 a3 a4 a5 a6 a7 v : Int) (j : Nat), j < 8 → ((128 : Int) :: (List.replicate z 0 ++ [a0, a1, a2, a3, a4, a5, a6, a7])).set ((z + 9) - 1 - j) v = 128 :: (List.replicate z 0 ++ [a0, a1, a2, a3, a4, a5, a6, a7].set (7 - j) v) := fun a0 a1 a2 a3 a4 a5 a6 a7 v j hj => by
    rw [show z + 9 - 1 - j = (z + 7 - j) + 1 from by omega, List.set_cons_succ, List.set_append_right _ _ (by rw [List.length_replicate]; omega), List.length_replicate, show z + 7 - j - z = 7 - j from by omega]
  have hlen : ∀ (a0 a1 a2 a3 a4 a5 a6 a7 : Int), ((128 : Int) :: (List.replicate z 0 ++ [a0, a1, a2, a3, a4, a5, a6, a7])).length = z + 9 := fun a0 a1 a2 a3 a4 a5 a6 a7 => by
    rw [List.length_cons, List.length_append, List.length_replicate]
    rfl
  have hstep : ∀ (k i : Nat) (a0 a1 a2 a3 a4 a5 a6 a7 : Int), i < 8 → sha_Pad.l0 (k + 1) (128 :: (List.replicate z 0 ++ [a0, a1, a2, a3, a4, a5, a6, a7])) ((n * 8 : Nat) : Int) (i : Int) = sha_Pad.l0 k (128 :: (List.replicate z 0 ++ [a0, a1, a2, a3, a4, a5, a6, a7].set (7 - i) (nib (n * 8) i))) ((n * 8 : Nat) : Int) ((i + 1 : Nat) : Int) := fun k i a0 a1 a2 a3 a4 a5 a6 a7 hi => by
    rw [pad_round k (n * 8) i _ hi (by rw [hlen]; omega) (by rw [hlen]; omega), hlen, hset _ _ _ _ _ _ _ _ _ i hi]
  unfold sha_Pad.f
  rw [if_neg (by omega), t1, t2, t3, t4, t5, if_pos (Int.natCast_nonneg _), if_pos (by rw [Int.toNat_natCast]; omega), Int.toNat_natCast, Option.bind_some, if_pos (by rw [List.length_replicate]; omega), t6, t7, Int.toNat_zero, hrep]
  refine (hstep 8 0 _ _ _ _ _ _ _ _ (by decide)).trans ?_
  refine (hstep 7 1 _ _ _ _ _ _ _ _ (by decide)).trans ?_
  refine (hstep 6 2 _ _ _ _ _ _ _ _ (by decide)).trans ?_
  refine (hstep 5 3 _ _ _ _ _ _ _ _ (by decide)).trans ?_
  refine (hstep 4 4 _ _ _ _ _ _ _ _ (by decide)).trans ?_
  refine (hstep 3 5 _ _ _ _ _ _ _ _ (by decide)).trans ?_
  refine (hstep 2 6 _ _ _ _ _ _ _ _ (by decide)).trans ?_
  refine (hstep 1 7 _ _ _ _ _ _ _ _ (by decide)).trans ?_
  refine (pad_last 0 (n * 8) _).trans ?_
  unfold strOfNums pad
  rw [hz]
  congr 3
  simp only [List.map_cons, List.map_append, List.map_replicate, List.map_nil, List.set_cons_succ, List.set_cons_zero, Nat.sub_self, Nat.reduceSub]
  rw [nib_byte _ 7 72057594037927936 rfl, nib_byte _ 6 281474976710656 rfl, nib_byte _ 5 1099511627776 rfl, nib_byte _ 4 4294967296 rfl, nib_byte _ 3 16777216 rfl, nib_byte _ 2 65536 rfl, nib_byte _ 1 256 rfl, nib_byte _ 0 1 rfl, Nat.div_one]
  rfl
theorem pad_calls : PadCalls := fun n w hn => sha_Pad.calls 9 (n : Int) _ w (pad_f n hn)
end Go.Proofs.YtglhbbijoeeclaaDoor.Sha
/- depotlaw13.SpathText, walked. -/
namespace Go.Proofs.YtglhbbijoeeclaaDoor.Sha
open Go.RowKit Go.Proofs.YtglhbbijoeeclaaDoorW.PrintWords Go.Proofs.YtglhbbijoeeclaaDoorW.PrintLast Go.Proofs.YtglhbbijoeeclaaDoorW.PrintMore Go.Proofs.YtglhbbijoeeclaaDoor.Bytes Go.Proofs.YtglhbbijoeeclaaDoor.Q
set_option linter.unusedVariables false
set_option linter.unusedSimpArgs false
/-- The cells of a row of strings. -/
theorem string_cells {w : World} {A : Option Addr} {xs : List ByteArray} (h : Kd.C Kd.string w A xs.length xs) (h0 : 0 < xs.length) : ∃ b o, A = some ⟨b, o, none⟩ ∧ ∀ j x, xs[j]? = some x → w.cell? ⟨b, o + j, none⟩ = some (.string x) := by
  obtain ⟨ad, rfl, hcells⟩ := h.2.2 h0
  have hcell : ∀ (j : Nat) y, xs[j]? = some y → w.cell? (ad.add j) = some (.string y) := by
    intro j y hy
    obtain ⟨c, hcl, hcy, hu⟩ := hcells j y hy
    have hcy' : c = [Value.string y] := hcy
    subst hcy'
    have := hu 0 (.string y) rfl
    simpa [Kd.string, Kd.scalar] using this
  have hx : xs[0]? = some xs[0] := List.getElem?_eq_getElem h0
  have h1 := hcell 0 _ hx
  have hs : ad.spot = none := by
    have h0' : w.cell? ad = some (.string xs[0]) := h1
    cases hsp : ad.spot with
    | none => rfl
    | some k =>
      unfold World.cell? at h0'
      split at h0'
      · rw [hsp] at h0'; simp at h0'
      · cases h0'
  obtain ⟨b, o, s⟩ := ad
  obtain rfl : s = none := hs
  refine ⟨b, o, rfl, fun j x hj => ?_⟩
  have := hcell j x hj
  rw [Addr.add_mid] at this
  exact this
/-- The text so far. -/
def textTo (refs : List ByteArray) : Nat → ByteArray
  | 0 => treeS
  | k + 1 => textTo refs k ++ (colonS ++ refs.getD k ⟨#[]⟩)
def shaC : ByteArray := ⟨#[58, 115, 104, 97, 50, 53, 54, 58]⟩
def dirC : ByteArray := ⟨#[58, 47, 100, 101, 112, 111, 116, 47, 115, 116, 111, 114, 101, 47, 58]⟩
set_option maxRecDepth 100000 in
set_option maxHeartbeats 8000000 in
theorem text_good (w : World) (hG : Glob w) (A : Option Addr) (c : Nat) (refs : List ByteArray) (d : List UInt8) (hd : d.length = 32) (label hxs txt b32 : ByteArray) (ka kr kh kb : Nat) (hr : Kd.C Kd.string w A refs.length refs) (hc : refs.length ≤ c) (hlen : refs.length ≤ 1024)
    (h0 : depotlaw13_awake.f ka = some true) (h1 : spath_CheckLabel.f label = some 0) (h2 : spath_CheckRefs.f kr refs = some 0) (h3 : radix_Hex.f kh ⟨d.toArray⟩ = some hxs) (h4 : strings_Join.f ([treeS] ++ refs ++ [shaS, hxs, dirS, label]) colonS = some txt) (ht : txt.size < 1152921504606846976)
    (h5 : radix_Base32.f kb ⟨(fold (of txt.data.toList) 20).toArray⟩ = some b32) (hb : b32.size < 1000000) (hll : label.size < 1000000) (hxl : hxs.size < 1000000)
    (hsz : ∀ k, k ≤ refs.length → (textTo refs k).size < 1000000000000) (hrz : ∀ k, (refs.getD k ⟨#[]⟩).size < 1000000)
    (htx : textTo refs refs.length ++ shaC ++ hxs ++ dirC ++ label = txt) :
    Calls Tryd.prog 4 #[.slice A refs.length c, .agg (d.map bcell).toArray, .string label] w fun e w' => e = .returned (.bool true) ∧ Below w.heap.size w w' := by
  have HR28 : Aside0 ((Tryd.prog.info? 28).map (·.size) = some 32) := ⟨by kernel_rfl⟩
  have C0 := Aside0.mk (fun W => depotlaw13_awake.calls ka true W h0)
  have CM := Aside0.mk (fun (W : World) (h : Below w.heap.size w W) => show Calls Tryd.prog 8 #[.slice A refs.length c, .agg (d.map bcell).toArray, .string label] W fun e w' => e = .returned (.tuple #[.string ((⟨#[47, 100, 101, 112, 111, 116, 47, 115, 116, 111, 114, 101, 47]⟩ : ByteArray) ++ b32 ++ (⟨#[45]⟩ : ByteArray) ++ label), .int .i64 0]) ∧ Below W.heap.size W w' from make_good pad_calls W (hG.below h hG.lt) A c refs d hd label hxs txt b32 kr kh kb (Kd.C_below hr h) hc hlen h1 h2 h3 h4 ht h5 hb hll)
  have C3 := Aside0.mk (fun W => radix_Hex.calls kh ⟨d.toArray⟩ hxs W h3)
  have C5 := Aside0.mk (fun W => radix_Base32.calls kb ⟨(fold (of txt.data.toList) 20).toArray⟩ b32 W h5)
  have CO := Aside0.mk (fun W (h : Below w.heap.size w W) => of_calls pad_calls txt W (hG.below h hG.lt) ht)
  have CF := Aside0.mk (fun (W : World) => show Calls Tryd.prog 12 #[.string ⟨(of txt.data.toList).toArray⟩, .int .i64 20] W fun e w' => e = .returned (.tuple #[.string ⟨(fold (of txt.data.toList) 20).toArray⟩, .int .i64 0]) ∧ Below W.heap.size W w' from fold_calls ⟨(of txt.data.toList).toArray⟩ 20 W (by decide) (by decide) (show (of txt.data.toList).length < _ by rw [of_len]; decide))
  have HR := Aside0.mk hr
  have HB1 := Aside0.mk ((Below.refl w.heap.size w).alloc (Nat.le_refl _) (.cells (d.map bcell).toArray 23))
  have HX1 := Aside0.mk (World.alloc_heap_new w (.cells (d.map bcell).toArray 23))
  have HD := Aside0.mk hd
  have HTX := Aside0.mk htx
  have HSZ := Aside0.mk hsz
  have HRZ := Aside0.mk hrz
  clear hG hd h0 h1 h2 h3 h4 h5 hr htx hsz hrz
  go_enter Tryd.func4, Tryd.ntmps4
  go_wp2_with (first
    | (go_at_call 7; (refine (C0.out _).mono ?_); rintro e w2 ⟨rfl, hb2⟩; have HB2 := Aside0.mk (HB1.out.trans (hb2.mono HB1.out.size)); have HX2 := Aside0.mk ((hb2.block _ (Array.getElem?_eq_some_iff.1 HX1.out).1).trans HX1.out); clear hb2)
    | ((with_reducible refine gate_dst (N := 19) rfl ?_); refine wpList_load_mid rfl 23 (.tmp 4) rfl w.heap.size 0 rfl (d.map bcell) _ (range_row HX2.out) Tryd.underlying23 rfl (by rw [List.length_map, HD.out]; kernel_rfl) ?_)
    | (go_at_call 8; ((with_reducible refine (CM.out w2 HB2.out).mono ?_)); rintro e w3 ⟨rfl, hb3⟩; have HB3 := Aside0.mk (HB2.out.trans (hb3.mono HB2.out.size)); have HX3 := Aside0.mk ((hb3.block _ (Array.getElem?_eq_some_iff.1 HX2.out).1).trans HX2.out); clear hb3))
  go_loopg [9, 30] refs.length (fun g v9 v30 wx => ∃ i : Nat, i + g = refs.length ∧ v30 = .int .i64 (i : Int) ∧ v9 = .string (textTo refs i) ∧ wx = w3)
  case atStart => exact ⟨0, by omega, rfl, rfl, rfl⟩
  case round =>
    obtain ⟨i, hig, rfl, rfl, rfl⟩ := hrel
    cases gk with
    | zero =>
      obtain rfl : i = refs.length := by omega
      have d5 : decide ((refs.length : Int) < (refs.length : Int)) = false := decide_eq_false (by omega)
      have HT : Aside0 (∃ T, textTo refs refs.length = T ∧ T.size < 1000000000000) := ⟨_, rfl, HSZ.out _ (Nat.le_refl _)⟩
      obtain ⟨T, hT, hTs⟩ := HT.out
      have HTX2 := HTX.out
      rw [hT] at HTX2
      have HTX3 : Aside0 (T ++ (⟨#[58, 115, 104, 97, 50, 53, 54, 58]⟩ : ByteArray) ++ hxs ++ (⟨#[58, 47, 100, 101, 112, 111, 116, 47, 115, 116, 111, 114, 101, 47, 58]⟩ : ByteArray) ++ label = txt) := ⟨HTX2⟩
      rw [hT]
      clear HTX2 hT HT
      have hcv := conv32 wr w.heap.size d _ HD.out HX3.out
      have HOL := Aside0.mk (of_len txt.data.toList)
      have t1 : (T.size + 8 ≤ 9223372036854775807) = True := eq_true (by omega)
      have t2 : (T.size + 8 + hxs.size ≤ 9223372036854775807) = True := eq_true (by omega)
      have t3 : (T.size + 8 + hxs.size + 15 ≤ 9223372036854775807) = True := eq_true (by omega)
      have t4 : (T.size + 8 + hxs.size + 15 + label.size ≤ 9223372036854775807) = True := eq_true (by omega)
      have t5 : (13 + b32.size ≤ 9223372036854775807) = True := eq_true (by omega)
      have t6 : (13 + b32.size + 1 ≤ 9223372036854775807) = True := eq_true (by omega)
      have t7 : (13 + b32.size + 1 + label.size ≤ 9223372036854775807) = True := eq_true (by omega)
      go_wp2_with (first
        | (go_at_call 11; ((with_reducible refine (C3.out wr).mono ?_)); rintro e w6 ⟨rfl, hb6⟩; have HB6 := Aside0.mk (HB3.out.trans (hb6.mono HB3.out.size)); clear hb6 hcv)
        | (go_at_call 10; refine calls_of_args (show _ = #[Value.string txt] from by rw [← HTX3.out]) ?_; ((with_reducible refine (CO.out w6 HB6.out).mono ?_)); rintro e w10 ⟨rfl, hb10⟩; have HB10 := Aside0.mk (HB6.out.trans (hb10.mono HB6.out.size)); clear hb10)
        | ((with_reducible refine gate_store (t := 28) (p := 12) rfl ?_); refine wpList_store_row' rfl 28 (.tmp 12) (.tmp 48) rfl w10.heap.size 28 (List.replicate 32 (Value.int .u8 0)).toArray ((of txt.data.toList).map bcell).toArray rfl rfl (World.alloc_heap_new w10 _) (by rw [List.size_toArray, List.length_map, HOL.out]; exact HR28.out) (by rw [List.size_toArray, List.size_toArray, List.length_map, HOL.out]; rfl) (all_oneCell_toArray fun u hu => by obtain ⟨y, _, rfl⟩ := List.mem_map.1 hu; rfl) ?_; intro w11 hw11; have hcv11 := conv32 w11 w10.heap.size (of txt.data.toList) 28 HOL.out (by rw [hw11]; exact setRow_heap _ _ _ _ _ _ (World.alloc_heap_new w10 _)); have HB11 : Aside0 (Below w.heap.size w w11) := ⟨by rw [hw11]; exact below_setRow (HB10.out.alloc HB10.out.size _) HB10.out.size _⟩; clear hw11)
        | (go_at_call 12; ((with_reducible refine (CF.out w11).mono ?_)); rintro e w12 ⟨rfl, hb12⟩; have HB12 := Aside0.mk (HB11.out.trans (hb12.mono HB11.out.size)); clear hb12 hcv11)
        | (go_at_call 13; ((with_reducible refine (C5.out w12).mono ?_)); rintro e w13 ⟨rfl, hb13⟩; have HB13 := Aside0.mk (HB12.out.trans (hb13.mono HB12.out.size)); clear hb13))
      go_ret
      exact ⟨rfl, HB13.out⟩
    | succ k1 =>
      have d4 : decide ((i : Int) < (refs.length : Int)) = true := decide_eq_true (by omega)
      obtain ⟨bk, o, rfl, hcell⟩ := string_cells (Kd.C_below HR.out HB3.out) (by omega)
      have hi : i < refs.length := by omega
      have y1 := hcell i _ (List.getElem?_eq_getElem hi)
      have hgx : refs.getD i ⟨#[]⟩ = refs[i] := by rw [List.getD_eq_getElem?_getD, List.getElem?_eq_getElem hi]; rfl
      have hxs_ := HRZ.out i
      have hts := HSZ.out i (by omega)
      have HN : Aside0 (textTo refs (i + 1) = textTo refs i ++ (colonS ++ refs[i])) := ⟨by rw [textTo, hgx]⟩
      rw [hgx] at hxs_
      obtain ⟨x, hx⟩ : ∃ x, refs[i] = x := ⟨_, rfl⟩
      obtain ⟨tt, htt⟩ : ∃ tt, textTo refs i = tt := ⟨_, rfl⟩
      rw [hx] at y1 hxs_ HN
      rw [htt] at hts HN
      rw [htt]
      have t1 : (1 + x.size ≤ 9223372036854775807) = True := eq_true (by omega)
      have t2 : (tt.size + (1 + x.size) ≤ 9223372036854775807) = True := eq_true (by omega)
      have p1 : (0 ≤ (i : Int)) = True := eq_true (by omega)
      have p2 : ((i : Int) < (refs.length : Int)) = True := eq_true (by omega)
      have p3 : (i < refs.length) = True := eq_true hi
      clear hcell hgx hx htt hi
      go_wp2
      go_roundg k1
      case measure => omega
      case rel => exact ⟨i + 1, by omega, by go_num, by rw [HN.out]; rfl, rfl⟩
set_option maxRecDepth 100000 in
set_option maxHeartbeats 8000000 in
/-- Make says no: the law says yes. -/
theorem text_bad (w : World) (A : Option Addr) (c : Nat) (refs : List ByteArray) (d : List UInt8) (hd : d.length = 32) (label : ByteArray) (ka : Nat) (e1 : Int) (he : e1 ≠ 0)
    (h0 : depotlaw13_awake.f ka = some true) (hM : ∀ W, Below w.heap.size w W → Calls Tryd.prog 8 #[.slice A refs.length c, .agg (d.map bcell).toArray, .string label] W fun e w' => e = .returned (.tuple #[.string ⟨#[]⟩, .int .i64 e1]) ∧ Below W.heap.size W w') :
    Calls Tryd.prog 4 #[.slice A refs.length c, .agg (d.map bcell).toArray, .string label] w fun e w' => e = .returned (.bool true) ∧ Below w.heap.size w w' := by
  have C0 := Aside0.mk (fun W => depotlaw13_awake.calls ka true W h0)
  have CM := Aside0.mk hM
  have HB1 := Aside0.mk ((Below.refl w.heap.size w).alloc (Nat.le_refl _) (.cells (d.map bcell).toArray 23))
  have HX1 := Aside0.mk (World.alloc_heap_new w (.cells (d.map bcell).toArray 23))
  have HD := Aside0.mk hd
  have d1 : decide (e1 = 0) = false := decide_eq_false he
  clear hd h0 hM
  go_enter Tryd.func4, Tryd.ntmps4
  go_wp2_with (first
    | (go_at_call 7; (refine (C0.out _).mono ?_); rintro e w2 ⟨rfl, hb2⟩; have HB2 := Aside0.mk (HB1.out.trans (hb2.mono HB1.out.size)); have HX2 := Aside0.mk ((hb2.block _ (Array.getElem?_eq_some_iff.1 HX1.out).1).trans HX1.out); clear hb2)
    | ((with_reducible refine gate_dst (N := 19) rfl ?_); refine wpList_load_mid rfl 23 (.tmp 4) rfl w.heap.size 0 rfl (d.map bcell) _ (range_row HX2.out) Tryd.underlying23 rfl (by rw [List.length_map, HD.out]; kernel_rfl) ?_)
    | (go_at_call 8; ((with_reducible refine (CM.out w2 HB2.out).mono ?_)); rintro e w3 ⟨rfl, hb3⟩; have HB3 := Aside0.mk (HB2.out.trans (hb3.mono HB2.out.size)); clear hb3))
  go_ret
  exact ⟨rfl, HB3.out⟩
end Go.Proofs.YtglhbbijoeeclaaDoor.Sha
/- SpathText in plain Lean: sizes, and the text. -/
namespace Go.Proofs.YtglhbbijoeeclaaDoor.TextPure
open Go.RowKit Go.Proofs.YtglhbbijoeeclaaDoor.Q Go.Proofs.YtglhbbijoeeclaaDoor.Bytes Go.Proofs.YtglhbbijoeeclaaDoor.Sha Go.Proofs.YtglhbbijoeeclaaDoor.Refs Go.Proofs.YtglhbbijoeeclaaDoor.SpathPure Go.Proofs.YtglhbbijoeeclaaDoorW.PrintWords Go.Proofs.YtglhbbijoeeclaaDoorW.PrintLast Go.Proofs.YtglhbbijoeeclaaDoorW.PrintMore
set_option linter.unusedVariables false
set_option linter.unusedSimpArgs false
theorem label_len {l : List UInt8} (h : labelNo l = 0) : l.length ≤ 211 := by
  unfold labelNo at h
  split at h
  · cases h
  · rename_i hn
    have : ¬ 211 < l.length := fun hh => hn (Or.inr (Or.inl hh))
    omega
theorem path_small (s : ByteArray) (h : (parseB s).2.2 = 0) : s.size ≤ 300 := by
  unfold parseB at h
  split at h
  · split at h
    · split at h
      · rename_i hl
        have := label_len hl
        rw [bs_extract, List.length_take, List.length_drop, ← size_bs] at this
        omega
      · rename_i hl
        exact absurd h hl
    · rename_i hl
      exact absurd h hl
  · cases h
theorem from_all (xs : List ByteArray) : ∀ (d i : Nat), from_ xs i d = 0 → ∀ j, i ≤ j → j < i + d → okAt xs j
  | 0, i, _, j, h1, h2 => absurd h2 (by omega)
  | d + 1, i, h, j, h1, h2 => by
    unfold from_ at h
    split at h
    · rename_i ho
      by_cases hj : j = i
      · rw [hj]; exact ho
      · exact from_all xs d (i + 1) h j (by omega) (by omega)
    · cases h
theorem refs_small (xs : List ByteArray) (h : refsNo xs = 0) : xs.length ≤ 1024 ∧ ∀ k, (xs.getD k ⟨#[]⟩).size ≤ 300 := by
  unfold refsNo at h
  split at h
  · cases h
  · rename_i hl
    refine ⟨by omega, fun k => ?_⟩
    by_cases hk : k < xs.length
    · exact path_small _ (from_all xs xs.length 0 h k (Nat.zero_le _) (by omega)).1
    · rw [List.getD_eq_getElem?_getD, List.getElem?_eq_none (by omega)]
      exact Nat.zero_le _
theorem text_size (xs : List ByteArray) (h : ∀ k, (xs.getD k ⟨#[]⟩).size ≤ 300) : ∀ k, (textTo xs k).size ≤ 4 + 301 * k
  | 0 => by show 4 ≤ _; omega
  | k + 1 => by
    have ih := text_size xs h k
    have hk := h k
    rw [textTo, size_bs, bs_append, bs_append, List.length_append, List.length_append, ← size_bs, ← size_bs, ← size_bs]
    have : colonS.size = 1 := rfl
    omega
theorem text_bytes (xs : List ByteArray) : ∀ k, k ≤ xs.length → bs (textTo xs k) = bs treeS ++ Lib.joinTail [58] ((xs.map bs).take k)
  | 0, _ => by simp [textTo, Lib.joinTail]
  | k + 1, hk => by
    have ih := text_bytes xs k (by omega)
    have hl : k < xs.length := hk
    rw [Lib.joinTail_take_succ [58] (xs.map bs) k (bs xs[k]) (by rw [List.getElem?_map, List.getElem?_eq_getElem hl]; rfl), textTo, bs_append, bs_append, ih, List.getD_eq_getElem?_getD, List.getElem?_eq_getElem hl, List.append_assoc, List.append_assoc]
    rfl
theorem text_join (xs : List ByteArray) (hxs label : ByteArray) : bs (textTo xs xs.length ++ shaC ++ hxs ++ dirC ++ label) = Lib.join (([treeS] ++ xs ++ [shaS, hxs, dirS, label]).map bs) (bs colonS) := by
  have h := text_bytes xs xs.length (Nat.le_refl _)
  rw [List.take_of_length_le (by rw [List.length_map]; exact Nat.le_refl _)] at h
  rw [bs_append, bs_append, bs_append, bs_append, h]
  simp only [List.cons_append, List.nil_append, List.map_cons, List.map_append, List.map_nil]
  rw [Lib.join_cons]
  simp [Lib.joinTail]
  rfl
end Go.Proofs.YtglhbbijoeeclaaDoor.TextPure
/- radix.Hex answers (plain). -/
namespace Go.Proofs.YtglhbbijoeeclaaDoor.HexPure
open Go.RowKit Go.Proofs.YtglhbbijoeeclaaDoor.Q Go.Proofs.YtglhbbijoeeclaaDoor.Bytes Go.Proofs.YtglhbbijoeeclaaDoorW.PrintWords Go.Proofs.YtglhbbijoeeclaaDoorW.PrintLast Go.Proofs.YtglhbbijoeeclaaDoorW.PrintMore
set_option linter.unusedVariables false
set_option linter.unusedSimpArgs false
theorem and15 : ∀ n : Nat, n < 256 → 0 ≤ Go.bits .and .u8 (n : Int) 15 ∧ Go.bits .and .u8 (n : Int) 15 < 16 := by decide +kernel
theorem bt_byte (s : ByteArray) (i : Int) : ∃ n : Nat, n < 256 ∧ bt s i = (n : Int) := by
  unfold bt
  split
  · exact ⟨_, UInt8.toNat_lt _, rfl⟩
  · exact ⟨0, by decide, rfl⟩
theorem hex_l0 (a : ByteArray) (ha : a.size < 1000000) (d : Nat) : ∀ (i : Nat) (x3 : List Int), i + d = a.size → x3.length = 2 * i → ∃ r : ByteArray, r.size ≤ 2 * a.size ∧ radix_Hex.l0 (d + 1) a x3 (a.size : Int) (i : Int) = some r := by
  induction d with
  | zero =>
    intro i x3 hi hx
    refine ⟨strOfNums x3, by rw [strOfNums_size]; omega, ?_⟩
    rw [radix_Hex.l0, if_neg (by omega)]
  | succ d ih =>
    intro i x3 hi hx
    obtain ⟨n, hn, hb⟩ := bt_byte a (i : Int)
    obtain ⟨h1, h2⟩ := and15 n hn
    have e : wrap64 ((i : Int) + 1) = ((i + 1 : Nat) : Int) := by rw [w64 (by omega) (by omega)]; omega
    rw [radix_Hex.l0, if_pos (by omega), if_pos (by omega), if_pos (by omega), hb, if_pos (by omega), if_pos (by omega), if_pos h1, if_pos h2, Option.bind_some, if_pos (by rw [hx]; simp; omega), e]
    exact ih (i + 1) _ (by omega) (by rw [List.length_append, hx]; simp; omega)
theorem hex_some (a : ByteArray) (ha : a.size < 1000000) : ∃ r : ByteArray, r.size ≤ 2 * a.size ∧ radix_Hex.f (a.size + 1) a = some r := by
  obtain ⟨r, hr, h⟩ := hex_l0 a ha a.size 0 [] (by omega) rfl
  have e : wrap64 (2 * (a.size : Int)) = ((2 * a.size : Nat) : Int) := by rw [w64 (by omega) (by omega)]; omega
  refine ⟨r, hr, ?_⟩
  unfold radix_Hex.f
  rw [e, if_pos (Int.natCast_nonneg _), if_pos (by rw [Int.toNat_natCast]; omega)]
  exact h
end Go.Proofs.YtglhbbijoeeclaaDoor.HexPure
/- radix.Base32 answers at 20 bytes (plain). -/
namespace Go.Proofs.YtglhbbijoeeclaaDoor.B32Pure
open Go.RowKit Go.Proofs.YtglhbbijoeeclaaDoor.Q Go.Proofs.YtglhbbijoeeclaaDoor.Bytes Go.Proofs.YtglhbbijoeeclaaDoorW.PrintWords Go.Proofs.YtglhbbijoeeclaaDoorW.PrintLast Go.Proofs.YtglhbbijoeeclaaDoorW.PrintMore
set_option linter.unusedVariables false
set_option linter.unusedSimpArgs false
theorem and31 (x : Int) : 0 ≤ Go.bits .and .u64 x 31 ∧ Go.bits .and .u64 x 31 < 32 := by
  have h : (BitVec.ofInt 64 x &&& BitVec.ofInt 64 31).toNat ≤ 31 := by
    rw [BitVec.toNat_and]
    exact Nat.and_le_right
  show 0 ≤ IntKind.u64.wrap (((BitVec.ofInt 64 x &&& BitVec.ofInt 64 31).toNat : Nat) : Int) ∧ IntKind.u64.wrap (((BitVec.ofInt 64 x &&& BitVec.ofInt 64 31).toNat : Nat) : Int) < 32
  rw [IntKind.wrap_u64]
  omega
theorem l1_more (a : ByteArray) (k : Nat) (x4 : List Int) (x5 : Int) (h p : Nat) (i : Int) (h5 : 5 ≤ h) (h6 : h < 64) (p1 : 1 ≤ p) (p2 : p ≤ 32) (hl : x4.length = 32) :
    ∃ x4' : List Int, x4'.length = 32 ∧ radix_Base32.l1 (k + 1) a x4 x5 (h : Int) (p : Int) 20 i = radix_Base32.l1 k a x4' (x5 / 32) ((h - 5 : Nat) : Int) ((p - 1 : Nat) : Int) 20 i := by
  obtain ⟨h1, h2⟩ := and31 x5
  have e1 : wrap64 ((p : Int) - 1) = ((p - 1 : Nat) : Int) := by rw [w64 (by omega) (by omega)]; omega
  have e2 : IntKind.u64.wrap ((h : Int) - 5) = ((h - 5 : Nat) : Int) := by rw [IntKind.wrap_u64]; omega
  refine ⟨_, ?_, by rw [radix_Base32.l1, if_pos (by omega), if_pos h1, if_pos h2, e1, if_pos (Int.natCast_nonneg _), if_pos (by omega), e2]⟩
  rw [List.length_set]; exact hl
theorem l1_end (a : ByteArray) (k : Nat) (x4 : List Int) (x5 : Int) (h p i : Nat) (h5 : h < 5) (hi : i < 1000) :
    radix_Base32.l1 (k + 1) a x4 x5 (h : Int) (p : Int) 20 (i : Int) = radix_Base32.l0 k a x4 x5 (h : Int) (p : Int) 20 ((i + 1 : Nat) : Int) := by
  have e : wrap64 ((i : Int) + 1) = ((i + 1 : Nat) : Int) := by rw [w64 (by omega) (by omega)]; omega
  rw [radix_Base32.l1, if_neg (by omega), e]
theorem b32_l0 (a : ByteArray) (ha : a.size = 20) (d : Nat) : ∀ (i : Nat) (x4 : List Int) (x5 : Int), i + d = 20 → x4.length = 32 → ∃ (k : Nat) (r : ByteArray), r.size = 32 ∧ radix_Base32.l0 k a x4 x5 ((8 * i % 5 : Nat) : Int) ((32 - 8 * i / 5 : Nat) : Int) 20 (i : Int) = some r := by
  induction d with
  | zero =>
    intro i x4 x5 hi hl
    obtain rfl : i = 20 := by omega
    refine ⟨1, strOfNums x4, by rw [strOfNums_size]; exact hl, ?_⟩
    rw [radix_Base32.l0, if_neg (by decide), if_neg (by decide)]
  | succ d ih =>
    intro i x4 x5 hi hl
    have e8 : IntKind.u64.wrap (((8 * i % 5 : Nat) : Int) + 8) = ((8 * i % 5 + 8 : Nat) : Int) := by rw [IntKind.wrap_u64]; omega
    have hstep : ∀ k, radix_Base32.l0 (k + 1) a x4 x5 ((8 * i % 5 : Nat) : Int) ((32 - 8 * i / 5 : Nat) : Int) 20 (i : Int) = radix_Base32.l1 k a x4 (Go.bits .or .u64 x5 (shl .u64 (IntKind.u64.wrap (bt a (i : Int))) ((8 * i % 5 : Nat) : Int))) ((8 * i % 5 + 8 : Nat) : Int) ((32 - 8 * i / 5 : Nat) : Int) 20 (i : Int) := fun k => by
      rw [radix_Base32.l0, if_pos (by omega), if_pos (by omega), if_pos (by rw [ha]; omega), if_pos (Int.natCast_nonneg _), e8]
    generalize Go.bits .or .u64 x5 (shl .u64 (IntKind.u64.wrap (bt a (i : Int))) ((8 * i % 5 : Nat) : Int)) = y5 at hstep
    by_cases h2 : 8 * i % 5 + 8 - 5 < 5
    · obtain ⟨x4', hl', h'⟩ : ∃ x4' : List Int, x4'.length = 32 ∧ ∀ k, radix_Base32.l1 (k + 1) a x4 y5 ((8 * i % 5 + 8 : Nat) : Int) ((32 - 8 * i / 5 : Nat) : Int) 20 (i : Int) = radix_Base32.l1 k a x4' (y5 / 32) ((8 * i % 5 + 8 - 5 : Nat) : Int) ((32 - 8 * i / 5 - 1 : Nat) : Int) 20 (i : Int) := by
        obtain ⟨h31, h32⟩ := and31 y5
        have e1 : wrap64 (((32 - 8 * i / 5 : Nat) : Int) - 1) = ((32 - 8 * i / 5 - 1 : Nat) : Int) := by rw [w64 (by omega) (by omega)]; omega
        have e2 : IntKind.u64.wrap (((8 * i % 5 + 8 : Nat) : Int) - 5) = ((8 * i % 5 + 8 - 5 : Nat) : Int) := by rw [IntKind.wrap_u64]; omega
        refine ⟨_, ?_, fun k => by rw [radix_Base32.l1, if_pos (by omega), if_pos h31, if_pos h32, e1, if_pos (Int.natCast_nonneg _), if_pos (by omega), e2]⟩
        rw [List.length_set]; exact hl
      obtain ⟨k, r, hr, h⟩ := ih (i + 1) x4' (y5 / 32) (by omega) hl'
      refine ⟨k + 1 + 1 + 1, r, hr, ?_⟩
      rw [hstep, h', l1_end a k x4' _ _ _ i h2 (by omega)]
      rw [show 8 * i % 5 + 8 - 5 = 8 * (i + 1) % 5 from by omega, show 32 - 8 * i / 5 - 1 = 32 - 8 * (i + 1) / 5 from by omega]
      exact h
    · have hx : ∃ (k : Nat) (r : ByteArray), r.size = 32 ∧ radix_Base32.l1 k a x4 y5 ((8 * i % 5 + 8 : Nat) : Int) ((32 - 8 * i / 5 : Nat) : Int) 20 (i : Int) = some r := by
        obtain ⟨z4, hz, hz2⟩ : ∃ z4 : List Int, z4.length = 32 ∧ ∀ k, radix_Base32.l1 (k + 1) a x4 y5 ((8 * i % 5 + 8 : Nat) : Int) ((32 - 8 * i / 5 : Nat) : Int) 20 (i : Int) = radix_Base32.l1 k a z4 (y5 / 32) ((8 * i % 5 + 8 - 5 : Nat) : Int) ((32 - 8 * i / 5 - 1 : Nat) : Int) 20 (i : Int) := by
          obtain ⟨h31, h32⟩ := and31 y5
          have e1 : wrap64 (((32 - 8 * i / 5 : Nat) : Int) - 1) = ((32 - 8 * i / 5 - 1 : Nat) : Int) := by rw [w64 (by omega) (by omega)]; omega
          have e2 : IntKind.u64.wrap (((8 * i % 5 + 8 : Nat) : Int) - 5) = ((8 * i % 5 + 8 - 5 : Nat) : Int) := by rw [IntKind.wrap_u64]; omega
          refine ⟨_, ?_, fun k => by rw [radix_Base32.l1, if_pos (by omega), if_pos h31, if_pos h32, e1, if_pos (Int.natCast_nonneg _), if_pos (by omega), e2]⟩
          rw [List.length_set]; exact hl
        obtain ⟨v4, hv, hv2⟩ : ∃ v4 : List Int, v4.length = 32 ∧ ∀ k, radix_Base32.l1 (k + 1) a z4 (y5 / 32) ((8 * i % 5 + 8 - 5 : Nat) : Int) ((32 - 8 * i / 5 - 1 : Nat) : Int) 20 (i : Int) = radix_Base32.l1 k a v4 (y5 / 32 / 32) ((8 * i % 5 + 8 - 5 - 5 : Nat) : Int) ((32 - 8 * i / 5 - 1 - 1 : Nat) : Int) 20 (i : Int) := by
          obtain ⟨h31, h32⟩ := and31 (y5 / 32)
          have e1 : wrap64 (((32 - 8 * i / 5 - 1 : Nat) : Int) - 1) = ((32 - 8 * i / 5 - 1 - 1 : Nat) : Int) := by rw [w64 (by omega) (by omega)]; omega
          have e2 : IntKind.u64.wrap (((8 * i % 5 + 8 - 5 : Nat) : Int) - 5) = ((8 * i % 5 + 8 - 5 - 5 : Nat) : Int) := by rw [IntKind.wrap_u64]; omega
          refine ⟨_, ?_, fun k => by rw [radix_Base32.l1, if_pos (by omega), if_pos h31, if_pos h32, e1, if_pos (Int.natCast_nonneg _), if_pos (by omega), e2]⟩
          rw [List.length_set]; exact hz
        obtain ⟨k, r, hr, h⟩ := ih (i + 1) v4 (y5 / 32 / 32) (by omega) hv
        refine ⟨k + 1 + 1 + 1, r, hr, ?_⟩
        rw [hz2, hv2, l1_end a k v4 _ _ _ i (by omega) (by omega)]
        rw [show 8 * i % 5 + 8 - 5 - 5 = 8 * (i + 1) % 5 from by omega, show 32 - 8 * i / 5 - 1 - 1 = 32 - 8 * (i + 1) / 5 from by omega]
        exact h
      obtain ⟨k, r, hr, h⟩ := hx
      exact ⟨k + 1, r, hr, by rw [hstep]; exact h⟩
theorem b32_some (a : ByteArray) (ha : a.size = 20) : ∃ (k : Nat) (r : ByteArray), r.size = 32 ∧ radix_Base32.f k a = some r := by
  obtain ⟨k, r, hr, h⟩ := b32_l0 a ha 20 0 (List.replicate 32 0) 0 rfl rfl
  refine ⟨k, r, hr, ?_⟩
  unfold radix_Base32.f
  have e : wrap64 (Int.tdiv (wrap64 ((wrap64 (8 * ((20 : Nat) : Int))) + 4)) 5) = 32 := by decide +kernel
  rw [ha, e, if_pos (by decide), if_pos (by decide)]
  exact h
end Go.Proofs.YtglhbbijoeeclaaDoor.B32Pure
/- depotlaw13.SpathText answers true. -/
namespace Go.Proofs.YtglhbbijoeeclaaDoor.TextTrue
open Go.RowKit Go.Proofs.YtglhbbijoeeclaaDoor.Q Go.Proofs.YtglhbbijoeeclaaDoor.Bytes Go.Proofs.YtglhbbijoeeclaaDoor.Sha Go.Proofs.YtglhbbijoeeclaaDoor.Refs Go.Proofs.YtglhbbijoeeclaaDoor.SpathPure Go.Proofs.YtglhbbijoeeclaaDoor.TextPure Go.Proofs.YtglhbbijoeeclaaDoorW.PrintWords Go.Proofs.YtglhbbijoeeclaaDoorW.PrintLast Go.Proofs.YtglhbbijoeeclaaDoorW.PrintMore
set_option linter.unusedVariables false
set_option linter.unusedSimpArgs false
theorem fold_size (l : List UInt8) : (⟨(fold l 20).toArray⟩ : ByteArray).size = 20 := by
  show (fold l 20).toArray.size = 20
  rw [List.size_toArray, fold, List.length_take, foldTo_len]
  rfl
set_option maxHeartbeats 1000000 in
theorem text_true (w : World) (hG : Glob w) (A : Option Addr) (c : Nat) (refs : List ByteArray) (d : List UInt8) (hd : d.length = 32) (label : ByteArray) (hr : Kd.C Kd.string w A refs.length refs) (hc : refs.length ≤ c) (hsz : ∀ x ∈ refs, x.size ≤ 140737488351232) :
    Calls Tryd.prog 4 #[.slice A refs.length c, .agg (d.map bcell).toArray, .string label] w fun e w' => e = .returned (.bool true) ∧ Below w.heap.size w w' := by
  obtain ⟨ka, hka⟩ := awake
  have h0 := hka ka (Nat.le_refl _)
  have h1 : spath_CheckLabel.f label = some (labelNo (bs label)) := rfl
  by_cases e1 : labelNo (bs label) = 0
  · rw [e1] at h1
    obtain ⟨kr, hkr⟩ := prog_refs refs hsz
    have h2 := hkr kr (Nat.le_refl _)
    by_cases e2 : refsNo refs = 0
    · rw [e2] at h2
      obtain ⟨hlen, hsm⟩ := refs_small refs e2
      have hll := label_len e1
      rw [← size_bs] at hll
      have hds : (⟨d.toArray⟩ : ByteArray).size = 32 := by show d.length = 32; exact hd
      obtain ⟨hxs, hxl, h3⟩ := HexPure.hex_some ⟨d.toArray⟩ (by rw [hds]; decide)
      rw [hds] at hxl
      have hts := text_size refs hsm
      have hj := text_join refs hxs label
      have hn := hts refs.length
      have hsize : (textTo refs refs.length ++ shaC ++ hxs ++ dirC ++ label).size ≤ 1000000 := by
        rw [size_bs, bs_append, bs_append, bs_append, bs_append, List.length_append, List.length_append, List.length_append, List.length_append, ← size_bs, ← size_bs, ← size_bs, ← size_bs, ← size_bs]
        have q1 : shaC.size = 8 := rfl
        have q2 : dirC.size = 15 := rfl
        omega
      have h4 : strings_Join.f ([treeS] ++ refs ++ [shaS, hxs, dirS, label]) colonS = some (textTo refs refs.length ++ shaC ++ hxs ++ dirC ++ label) := by
        unfold strings_Join.f
        rw [← hj, if_pos ⟨by simp; omega, by rw [← size_bs]; omega⟩]
        exact congrArg some (bs_inj (bs_mk _))
      generalize hgt : textTo refs refs.length ++ shaC ++ hxs ++ dirC ++ label = txt at h4 hsize
      obtain ⟨kb, b32, hbl, h5⟩ := B32Pure.b32_some ⟨(fold (of txt.data.toList) 20).toArray⟩ (fold_size (of txt.data.toList))
      exact text_good w hG A c refs d hd label hxs txt b32 ka kr _ kb hr hc hlen h0 h1 h2 h3 h4 (by omega) h5 (by omega) (by omega) (by omega) (fun k hk => by have := hts k; omega) (fun k => by have := hsm k; omega) hgt
    · exact text_bad w A c refs d hd label ka (refsNo refs) e2 h0 (fun W hW => make_refs W A c refs d label _ kr (Kd.C_below hr hW) hc h1 h2 e2)
  · exact text_bad w A c refs d hd label ka _ e1 h0 (fun W hW => make_label W A _ c d label _ h1 e1)
end Go.Proofs.YtglhbbijoeeclaaDoor.TextTrue
/- Base 32: what radix.Base32 writes of any bytes, in numbers. -/
set_option linter.unusedVariables false
set_option linter.unusedSimpArgs false
namespace Go.Proofs.YtglhbbijoeeclaaDoor.B32
open Go.RowKit Go.Proofs.YtglhbbijoeeclaaDoor.Q Go.Proofs.YtglhbbijoeeclaaDoorW.PrintWords Go.Proofs.YtglhbbijoeeclaaDoorW.PrintLast Go.Proofs.YtglhbbijoeeclaaDoorW.PrintMore Go.Proofs.YtglhbbijoeeclaaDoor.Bytes Go.Proofs.YtglhbbijoeeclaaDoor.Evs

/-- The number of bytes, the first one the lowest. -/
def numB : List UInt8 → Nat
  | [] => 0
  | c :: t => c.toNat + 256 * numB t
theorem numB_append (a b : List UInt8) : numB (a ++ b) = numB a + 256 ^ a.length * numB b := by
  induction a with
  | nil => simp [numB]
  | cons c a ih =>
    rw [List.cons_append, numB, numB, ih, List.length_cons, Nat.pow_succ, Nat.mul_add, ← Nat.mul_assoc, Nat.mul_comm 256 (256 ^ a.length)]
    omega
theorem numB_lt (l : List UInt8) : numB l < 256 ^ l.length := by
  induction l with
  | nil => simp [numB]
  | cons c l ih =>
    have := c.toNat_lt
    rw [numB, List.length_cons, Nat.pow_succ]
    omega
/-- Letter number v. -/
def lt32 (v : Nat) : UInt8 := letters.getD v 0
/-- The letters of a number, the lowest first. -/
def d32 (t N : Nat) : List UInt8 := (List.range t).map fun j => lt32 (N / 32 ^ j % 32)
theorem d32_len (t N : Nat) : (d32 t N).length = t := by simp [d32]
theorem d32_succ (t N : Nat) : d32 (t + 1) N = d32 t N ++ [lt32 (N / 32 ^ t % 32)] := by
  unfold d32
  rw [List.range_succ, List.map_append]
  rfl
/-- What bytes are as letters. -/
def enc (l : List UInt8) : List UInt8 := (d32 ((8 * l.length + 4) / 5) (numB l)).reverse
theorem pow_parts (i t : Nat) (h : 5 * t ≤ 8 * i) : (256 : Nat) ^ i = 32 ^ t * 2 ^ (8 * i - 5 * t) := by
  have e1 : (32 : Nat) ^ t = 2 ^ (5 * t) := by rw [show (32 : Nat) = 2 ^ 5 from rfl, ← Nat.pow_mul]
  have e2 : (256 : Nat) ^ i = 2 ^ (8 * i) := by rw [show (256 : Nat) = 2 ^ 8 from rfl, ← Nat.pow_mul]
  rw [e1, e2, ← Nat.pow_add]
  congr 1
  omega
theorem d32_more (t M i b : Nat) (h : 5 * t ≤ 8 * i) : d32 t (M + 256 ^ i * b) = d32 t M := by
  unfold d32
  apply List.map_congr_left
  intro j hj
  rw [List.mem_range] at hj
  have e : 256 ^ i * b = 32 ^ j * (32 * (2 ^ (8 * i - 5 * (j + 1)) * b)) := by
    rw [pow_parts i (j + 1) (by omega), Nat.pow_succ]
    simp only [Nat.mul_assoc]
  rw [e, Nat.add_mul_div_left _ _ (Nat.pow_pos (by omega)), Nat.add_mul_mod_self_left]
theorem acc32_more (t M i b : Nat) (h : 5 * t ≤ 8 * i) : (M + 256 ^ i * b) / 32 ^ t = M / 32 ^ t + 2 ^ (8 * i - 5 * t) * b := by
  rw [pow_parts i t h, Nat.mul_assoc, Nat.add_mul_div_left _ _ (Nat.pow_pos (by omega))]
theorem acc32_lt (t M i : Nat) (h : 5 * t ≤ 8 * i) (hM : M < 256 ^ i) : M / 32 ^ t < 2 ^ (8 * i - 5 * t) := by
  rw [Nat.div_lt_iff_lt_mul (Nat.pow_pos (by omega)), Nat.mul_comm, ← pow_parts i t h]
  exact hM
/-- '|' of a byte beyond the bits held is '+'. -/
theorem or_byte (a v h : Nat) (hh : h ≤ 7) (ha : a < 2 ^ h) (hv : v < 256) : Go.bits .or .u64 (a : Int) (shl .u64 (IntKind.u64.wrap (v : Int)) (h : Int)) = ((a + 2 ^ h * v : Nat) : Int) := by
  have hp : 2 ^ h ≤ 2 ^ 7 := Nat.pow_le_pow_right (by omega) hh
  have hv2 : 2 ^ h * v ≤ 2 ^ 7 * 255 := Nat.mul_le_mul hp (by omega)
  have e1 : IntKind.u64.wrap (v : Int) = (v : Int) := by
    simp only [IntKind.wrap, IntKind.bits, IntKind.signed]
    simp
    omega
  have e2 : shl .u64 (v : Int) (h : Int) = ((2 ^ h * v : Nat) : Int) := by
    unfold shl
    have e3 : min ((h : Int)).toNat (IntKind.bits .u64) = h := by
      rw [Int.toNat_natCast]
      exact Nat.min_eq_left (by show h ≤ 64; omega)
    rw [e3]
    have e4 : (v : Int) * 2 ^ h = ((2 ^ h * v : Nat) : Int) := by
      rw [Int.natCast_mul, Int.mul_comm]
      simp
    rw [e4]
    generalize 2 ^ h * v = q at hv2
    simp only [IntKind.wrap, IntKind.bits, IntKind.signed]
    simp
    omega
  rw [e1, e2, u64_or_nat _ _ (by omega) (by omega)]
  congr 1
  rw [Nat.or_comm, ← Nat.two_pow_add_eq_or_of_lt ha, Nat.add_comm]
theorem and_31 (x : Nat) (hx : x < 18446744073709551616) : Go.bits .and .u64 (x : Int) 31 = ((x % 32 : Nat) : Int) := by
  rw [show (31 : Int) = ((31 : Nat) : Int) from rfl, u64_and_nat _ _ hx (by omega)]
  congr 1
  exact Nat.and_two_pow_sub_one_eq_mod x 5
/-- The row so far: room, then the letters. -/
def row32 (m t N : Nat) : List Int := List.replicate (m - t) 0 ++ (d32 t N).reverse.map fun c => (c.toNat : Int)
theorem row32_len (m t N : Nat) (h : t ≤ m) : (row32 m t N).length = m := by
  unfold row32
  rw [List.length_append, List.length_replicate, List.length_map, List.length_reverse, d32_len]
  omega
theorem row32_set (m t N : Nat) (h : t < m) : (row32 m t N).set (m - t - 1) ((lt32 (N / 32 ^ t % 32)).toNat : Int) = row32 m (t + 1) N := by
  unfold row32
  rw [d32_succ, List.reverse_append, List.reverse_singleton, List.singleton_append, List.map_cons]
  obtain ⟨q, hq⟩ : ∃ q, m - t = q + 1 := ⟨m - t - 1, by omega⟩
  rw [show m - t - 1 = q from by omega, show m - (t + 1) = q from by omega, hq, List.replicate_succ', List.append_assoc, List.set_append_right _ _ (by rw [List.length_replicate]; exact Nat.le_refl _)]
  simp
theorem bt_letter (v : Nat) : bt (⟨#[48, 49, 50, 51, 52, 53, 54, 55, 56, 57, 97, 98, 99, 100, 102, 103, 104, 105, 106, 107, 108, 109, 110, 112, 113, 114, 115, 118, 119, 120, 121, 122]⟩ : ByteArray) (v : Int) = ((lt32 v).toNat : Int) := by
  rw [bt_bs, Int.toNat_natCast]
  rfl
theorem nums_row (l : List UInt8) : strOfNums (l.map fun c => (c.toNat : Int)) = ⟨l.toArray⟩ := by
  unfold strOfNums
  rw [List.map_map]
  congr 1
  congr 1
  conv => rhs; rw [← List.map_id l]
  exact List.map_congr_left fun c _ => by simp
theorem inner (s : ByteArray) (n m N i : Nat) (R : ByteArray) (hN : N < 256 ^ (i + 1)) (hi : i < n) (hm : m = (8 * n + 4) / 5) (hn : n < 140737488351232) (q : Nat) : ∀ t r, 8 * (i + 1) = 5 * t + 5 * q + r → r < 5 → 8 * (i + 1) - 5 * t ≤ 12 →
    Ev (fun k => radix_Base32.l0 k s (row32 m (t + q) N) ((N / 32 ^ (t + q) : Nat) : Int) (r : Int) ((m - (t + q) : Nat) : Int) (n : Int) ((i + 1 : Nat) : Int)) R →
    Ev (fun k => radix_Base32.l1 k s (row32 m t N) ((N / 32 ^ t : Nat) : Int) ((8 * (i + 1) - 5 * t : Nat) : Int) ((m - t : Nat) : Int) (n : Int) (i : Int)) R := by
  induction q with
  | zero =>
    intro t r h hr h12 hk
    refine succ ?_
    simp only [radix_Base32.l1]
    refine neg (by omega) ?_
    rw [wr i (by omega), show 8 * (i + 1) - 5 * t = r from by omega]
    exact hk
  | succ q ih =>
    intro t r h hr h12 hk
    have hacc := acc32_lt t N (i + 1) (by omega) hN
    have hp : 2 ^ (8 * (i + 1) - 5 * t) ≤ 2 ^ 12 := Nat.pow_le_pow_right (by omega) h12
    have ea := and_31 (N / 32 ^ t) (by omega)
    refine succ ?_
    simp only [radix_Base32.l1]
    rw [ea]
    have ew : wrap64 (((m - t : Nat) : Int) - 1) = ((m - t - 1 : Nat) : Int) := by rw [w64 (by omega) (by omega)]; omega
    rw [ew]
    have hmod : N / 32 ^ t % 32 < 32 := Nat.mod_lt _ (by omega)
    refine pos (by omega) (pos (by omega) (pos (by omega) (pos (by omega) (pos (by rw [row32_len _ _ _ (by omega)]; omega) ?_))))
    rw [bt_letter, Int.toNat_natCast, row32_set m t N (by omega)]
    have ed : ((N / 32 ^ t : Nat) : Int) / 32 = ((N / 32 ^ (t + 1) : Nat) : Int) := by
      rw [Nat.pow_succ, ← Nat.div_div_eq_div_mul]
      omega
    have e5 : IntKind.u64.wrap (((8 * (i + 1) - 5 * t : Nat) : Int) - 5) = ((8 * (i + 1) - 5 * (t + 1) : Nat) : Int) := by
      rw [IntKind.wrap_u64]
      omega
    rw [ed, e5, show m - t - 1 = m - (t + 1) from by omega]
    refine ih (t + 1) r (by omega) hr (by omega) ?_
    rw [show t + 1 + q = t + (q + 1) from by omega]
    exact hk
theorem outer (s : ByteArray) (hs : (bs s).length < 140737488351232) (d : Nat) : ∀ i, i + d = (bs s).length →
    Ev (fun k => radix_Base32.l0 k s (row32 ((8 * (bs s).length + 4) / 5) (8 * i / 5) (numB ((bs s).take i))) ((numB ((bs s).take i) / 32 ^ (8 * i / 5) : Nat) : Int) ((8 * i - 5 * (8 * i / 5) : Nat) : Int) (((8 * (bs s).length + 4) / 5 - 8 * i / 5 : Nat) : Int) ((bs s).length : Int) (i : Int)) ⟨(enc (bs s)).toArray⟩ := by
  obtain ⟨n, hn⟩ : ∃ n, (bs s).length = n := ⟨_, rfl⟩
  obtain ⟨m, hm⟩ : ∃ m, (8 * n + 4) / 5 = m := ⟨_, rfl⟩
  have henc : enc (bs s) = (d32 m (numB (bs s))).reverse := by unfold enc; rw [hn, hm]
  rw [hn, hm]
  rw [hn] at hs
  induction d with
  | zero =>
    intro i hi
    obtain rfl : i = n := by omega
    rw [List.take_of_length_le (by omega), henc]
    generalize hN : numB (bs s) = N
    have hlt : N < 256 ^ i := by rw [← hN, ← hn]; exact numB_lt _
    refine succ ?_
    simp only [radix_Base32.l0]
    refine neg (by omega) ?_
    by_cases hh : 0 < 8 * i - 5 * (8 * i / 5)
    · refine pos (by omega) ?_
      have hacc := acc32_lt (8 * i / 5) N i (by omega) hlt
      have hp : 2 ^ (8 * i - 5 * (8 * i / 5)) ≤ 2 ^ 12 := Nat.pow_le_pow_right (by omega) (by omega)
      have ea := and_31 (N / 32 ^ (8 * i / 5)) (by omega)
      rw [ea]
      have ew : wrap64 (((m - 8 * i / 5 : Nat) : Int) - 1) = ((m - 8 * i / 5 - 1 : Nat) : Int) := by rw [w64 (by omega) (by omega)]; omega
      rw [ew]
      have hmod : N / 32 ^ (8 * i / 5) % 32 < 32 := Nat.mod_lt _ (by omega)
      refine pos (by omega) (pos (by omega) (pos (by omega) (pos (by rw [row32_len _ _ _ (by omega)]; omega) ?_)))
      rw [bt_letter, Int.toNat_natCast, row32_set m _ N (by omega)]
      refine now (congrArg some ?_)
      unfold row32
      rw [show 8 * i / 5 + 1 = m from by omega, Nat.sub_self, List.replicate_zero, List.nil_append]
      exact nums_row _
    · refine neg (by omega) ?_
      refine now (congrArg some ?_)
      unfold row32
      rw [show 8 * i / 5 = m from by omega, Nat.sub_self, List.replicate_zero, List.nil_append]
      exact nums_row _
  | succ d ih =>
    intro i hi
    have hil : i < (bs s).length := by omega
    have htake : (bs s).take (i + 1) = (bs s).take i ++ [(bs s)[i]] := List.take_succ_eq_append_getElem hil
    obtain ⟨M, hM⟩ : ∃ M, numB ((bs s).take i) = M := ⟨_, rfl⟩
    have hMlt : M < 256 ^ i := by
      have := numB_lt ((bs s).take i)
      rw [List.length_take, Nat.min_eq_left (by omega), hM] at this
      exact this
    obtain ⟨b, hb⟩ : ∃ b, ((bs s)[i]).toNat = b := ⟨_, rfl⟩
    have hb2 : b < 256 := by rw [← hb]; exact (bs s)[i].toNat_lt
    have hM' : numB ((bs s).take (i + 1)) = M + 256 ^ i * b := by
      rw [htake, numB_append, hM, List.length_take, Nat.min_eq_left (by omega)]
      simp [numB, hb]
    have hnext := ih (i + 1) (by omega)
    rw [hM'] at hnext
    rw [hM]
    obtain ⟨t, ht⟩ : ∃ t, 8 * i / 5 = t := ⟨_, rfl⟩
    rw [ht]
    have hacc := acc32_lt t M i (by omega) hMlt
    have hor := or_byte (M / 32 ^ t) b (8 * i - 5 * t) (by omega) hacc hb2
    rw [← acc32_more t M i b (by omega)] at hor
    have hrow : row32 m t M = row32 m t (M + 256 ^ i * b) := by unfold row32; rw [d32_more t M i b (by omega)]
    refine succ ?_
    simp only [radix_Base32.l0]
    refine pos (by omega) (pos (by omega) (pos (by rw [size_bs]; omega) (pos (by omega) ?_)))
    rw [bt_lt s i hil, hb, hor, hrow]
    have e8 : IntKind.u64.wrap (((8 * i - 5 * t : Nat) : Int) + 8) = ((8 * (i + 1) - 5 * t : Nat) : Int) := by
      rw [IntKind.wrap_u64]
      omega
    rw [e8]
    have hNlt : M + 256 ^ i * b < 256 ^ (i + 1) := by
      have := numB_lt ((bs s).take (i + 1))
      rw [List.length_take, Nat.min_eq_left (by omega), hM'] at this
      exact this
    refine inner s n m (M + 256 ^ i * b) i _ hNlt (by omega) hm.symm hs (8 * (i + 1) / 5 - t) t (8 * (i + 1) - 5 * (8 * (i + 1) / 5)) (by omega) (by omega) (by omega) ?_
    rw [show t + (8 * (i + 1) / 5 - t) = 8 * (i + 1) / 5 from by omega]
    exact hnext
/-- radix.Base32, any bytes. -/
theorem prog_enc (s : ByteArray) (hs : (bs s).length < 140737488351232) : Ev (fun k => radix_Base32.f k s) ⟨(enc (bs s)).toArray⟩ := by
  unfold radix_Base32.f
  have e : wrap64 (Int.tdiv (wrap64 (wrap64 (8 * (s.size : Int)) + 4)) 5) = (((8 * (bs s).length + 4) / 5 : Nat) : Int) := by
    rw [size_bs, w64 (x := 8 * _) (by omega) (by omega), w64 (x := _ + 4) (by omega) (by omega), Int.tdiv_eq_ediv_of_nonneg (by omega), w64 (by omega) (by omega)]
    omega
  rw [e, Int.toNat_natCast]
  refine pos (by omega) (pos (by omega) ?_)
  have h := outer s hs (bs s).length 0 (by omega)
  have e0 : row32 ((8 * (bs s).length + 4) / 5) 0 0 = List.replicate ((8 * (bs s).length + 4) / 5) 0 := by simp [row32, d32]
  rw [show 8 * 0 / 5 = 0 from rfl, List.take_zero, show numB [] = 0 from rfl, e0, show 0 / 32 ^ 0 = 0 from rfl, show 8 * 0 - 5 * 0 = 0 from rfl, Nat.sub_zero] at h
  rw [size_bs]
  exact h
theorem enc_len (l : List UInt8) : (enc l).length = (8 * l.length + 4) / 5 := by rw [enc, List.length_reverse, d32_len]
theorem lt32_val : ∀ v, v < 32 → 0 ≤ val (lt32 v) := by decide +kernel
theorem enc_val (l : List UInt8) : ∀ c ∈ enc l, 0 ≤ val c := by
  intro c hc
  rw [enc, List.mem_reverse, d32, List.mem_map] at hc
  obtain ⟨j, _, rfl⟩ := hc
  exact lt32_val _ (Nat.mod_lt _ (by omega))
end Go.Proofs.YtglhbbijoeeclaaDoor.B32
/- spath.Make at any arguments: its answer hangs on them alone. -/
namespace Go.Proofs.YtglhbbijoeeclaaDoor.TextTrue
open Go.RowKit Go.Proofs.YtglhbbijoeeclaaDoor.Q Go.Proofs.YtglhbbijoeeclaaDoor.Bytes Go.Proofs.YtglhbbijoeeclaaDoor.Sha Go.Proofs.YtglhbbijoeeclaaDoor.Refs Go.Proofs.YtglhbbijoeeclaaDoor.SpathPure Go.Proofs.YtglhbbijoeeclaaDoor.TextPure Go.Proofs.YtglhbbijoeeclaaDoorW.PrintWords Go.Proofs.YtglhbbijoeeclaaDoorW.PrintLast Go.Proofs.YtglhbbijoeeclaaDoorW.PrintMore
set_option linter.unusedVariables false
set_option linter.unusedSimpArgs false
/-- Make's contract with its answer. -/
def MakeGives (refs : List ByteArray) (d : List UInt8) (label p : ByteArray) (e1 : Int) : Prop :=
  ∀ W, Glob W → ∀ (A : Option Addr) (c : Nat), Kd.C Kd.string W A refs.length refs → refs.length ≤ c →
    Calls Tryd.prog 8 #[.slice A refs.length c, .agg (d.map bcell).toArray, .string label] W fun e w' => e = .returned (.tuple #[.string p, .int .i64 e1]) ∧ Below W.heap.size W w'
/-- What Make answers where it makes a path: the text's digest, folded, in letters. -/
def MadeAs (refs : List ByteArray) (d : List UInt8) (label p : ByteArray) : Prop :=
  ∃ hxs b32 : ByteArray, (∃ kh, radix_Hex.f kh ⟨d.toArray⟩ = some hxs) ∧ hxs.size ≤ 64 ∧ b32 = ⟨(B32.enc (fold (of (bs (textTo refs refs.length ++ shaC ++ hxs ++ dirC ++ label))) 20)).toArray⟩ ∧ b32.size = 32 ∧ p = dirS ++ b32 ++ dashS ++ label
set_option maxHeartbeats 1000000 in
theorem make_all (refs : List ByteArray) (d : List UInt8) (hd : d.length = 32) (label : ByteArray) (hsz : ∀ x ∈ refs, x.size ≤ 140737488351232) :
    ∃ p e1, MakeGives refs d label p e1 ∧ ((e1 ≠ 0 ∧ p = ⟨#[]⟩ ∧ (labelNo (bs label) = e1 ∨ labelNo (bs label) = 0 ∧ refsNo refs = e1)) ∨ (e1 = 0 ∧ labelNo (bs label) = 0 ∧ refsNo refs = 0 ∧ MadeAs refs d label p)) := by
  have h1 : spath_CheckLabel.f label = some (labelNo (bs label)) := rfl
  by_cases e1 : labelNo (bs label) = 0
  · rw [e1] at h1
    obtain ⟨kr, hkr⟩ := prog_refs refs hsz
    have h2 := hkr kr (Nat.le_refl _)
    by_cases e2 : refsNo refs = 0
    · rw [e2] at h2
      obtain ⟨hlen, hsm⟩ := refs_small refs e2
      have hll := label_len e1
      rw [← size_bs] at hll
      have hds : (⟨d.toArray⟩ : ByteArray).size = 32 := by show d.length = 32; exact hd
      obtain ⟨hxs, hxl, h3⟩ := HexPure.hex_some ⟨d.toArray⟩ (by rw [hds]; decide)
      rw [hds] at hxl
      have hts := text_size refs hsm
      have hj := text_join refs hxs label
      have hn := hts refs.length
      have hsize : (textTo refs refs.length ++ shaC ++ hxs ++ dirC ++ label).size ≤ 1000000 := by
        rw [size_bs, bs_append, bs_append, bs_append, bs_append, List.length_append, List.length_append, List.length_append, List.length_append, ← size_bs, ← size_bs, ← size_bs, ← size_bs, ← size_bs]
        have q1 : shaC.size = 8 := rfl
        have q2 : dirC.size = 15 := rfl
        omega
      have h4 : strings_Join.f ([treeS] ++ refs ++ [shaS, hxs, dirS, label]) colonS = some (textTo refs refs.length ++ shaC ++ hxs ++ dirC ++ label) := by
        unfold strings_Join.f
        rw [← hj, if_pos ⟨by simp; omega, by rw [← size_bs]; omega⟩]
        exact congrArg some (bs_inj (bs_mk _))
      have hto : ∃ txt, textTo refs refs.length ++ shaC ++ hxs ++ dirC ++ label = txt := ⟨_, rfl⟩
      obtain ⟨txt, hgt⟩ := hto
      obtain ⟨kb, hkb⟩ := B32.prog_enc ⟨(fold (of txt.data.toList) 20).toArray⟩ (by rw [bs_mk, fold, List.length_take, foldTo_len]; decide)
      have h5 := hkb kb (Nat.le_refl _)
      rw [bs_mk] at h5
      have hbl : (⟨(B32.enc (fold (of txt.data.toList) 20)).toArray⟩ : ByteArray).size = 32 := by
        rw [size_bs, bs_mk, B32.enc_len, fold, List.length_take, foldTo_len]
        decide
      rw [hgt] at h4 hsize
      refine ⟨dirS ++ ⟨(B32.enc (fold (of txt.data.toList) 20)).toArray⟩ ++ dashS ++ label, 0, ?_, .inr ⟨rfl, e1, e2, hxs, _, ⟨_, h3⟩, by omega, by rw [hgt]; rfl, hbl, rfl⟩⟩
      intro W hG A c hr hc
      exact make_good pad_calls W hG A c refs d hd label hxs txt _ kr _ kb hr hc hlen h1 h2 h3 h4 (by omega) h5 (by omega) (by omega)
    · exact ⟨⟨#[]⟩, refsNo refs, fun W _ A c hr hc => make_refs W A c refs d label _ kr hr hc h1 h2 e2, .inl ⟨e2, rfl, .inr ⟨e1, rfl⟩⟩⟩
  · exact ⟨⟨#[]⟩, labelNo (bs label), fun W _ A c hr hc => make_label W A _ c d label _ h1 e1, .inl ⟨e1, rfl, .inl rfl⟩⟩
end Go.Proofs.YtglhbbijoeeclaaDoor.TextTrue
/- The document's SHA-256: turn, step. -/
namespace Go.Proofs.YtglhbbijoeeclaaDoor.Sha
open Go.RowKit Go.Proofs.YtglhbbijoeeclaaDoorW.PrintWords Go.Proofs.YtglhbbijoeeclaaDoorW.PrintLast Go.Proofs.YtglhbbijoeeclaaDoorW.PrintMore Go.Proofs.YtglhbbijoeeclaaDoor.Bytes
set_option linter.unusedVariables false
set_option linter.unusedSimpArgs false
/-- A word twice, turned: its low half. -/
theorem twice_turn (x : B32) (n : Nat) (h0 : 0 < n) (hn : n < 32) : (((x.setWidth 64 <<< 32 ||| x.setWidth 64) >>> n).setWidth 32 : B32) = rotr x n := by
  unfold rotr
  apply BitVec.eq_of_getLsbD_eq
  intro i hi
  simp only [BitVec.getLsbD_setWidth, BitVec.getLsbD_ushiftRight, BitVec.getLsbD_or, BitVec.getLsbD_shiftLeft]
  have e1 : decide (i < 32) = true := decide_eq_true hi
  have e2 : decide (n + i < 64) = true := decide_eq_true (by omega)
  have e3 : decide (n + i - 32 < 64) = true := decide_eq_true (by omega)
  rw [e1, e2, e3]
  by_cases h : n + i < 32
  · have e4 : decide (n + i < 32) = true := decide_eq_true h
    have e5 : decide (i < 32 - n) = true := decide_eq_true (by omega)
    rw [e4, e5]
    simp
  · have e4 : decide (n + i < 32) = false := decide_eq_false h
    have e5 : decide (i < 32 - n) = false := decide_eq_false (by omega)
    have e6 : x.getLsbD (n + i) = false := BitVec.getLsbD_of_ge _ _ (by omega)
    rw [e4, e5, e6, show i - (32 - n) = n + i - 32 from by omega]
    simp
theorem twice_nat (X : Nat) (hX : X < 4294967296) : (X * 4294967296 % 18446744073709551616) ||| X = X * 4294967296 + X := by
  rw [Nat.mod_eq_of_lt (by omega)]
  have := Nat.two_pow_add_eq_or_of_lt (i := 32) (b := X) (by omega) X
  rw [Nat.mul_comm X 4294967296, show (4294967296 : Nat) = 2 ^ 32 from rfl, this]
/-- turn, in numbers. -/
theorem turn_nat (x : B32) (n : Nat) (h0 : 0 < n) (hn : n < 32) : (U x * 4294967296 + U x) / 2 ^ n % 4294967296 = U (rotr x n) := by
  rw [← twice_turn x n h0 hn]
  unfold U
  rw [BitVec.toNat_setWidth, BitVec.toNat_ushiftRight, BitVec.toNat_or, BitVec.toNat_shiftLeft, BitVec.toNat_setWidth, Nat.shiftLeft_eq, Nat.shiftRight_eq_div_pow]
  have hx := x.isLt
  rw [Nat.mod_eq_of_lt (show x.toNat < 2 ^ 64 by omega)]
  have := twice_nat x.toNat hx
  rw [show (2 : Nat) ^ 32 = 4294967296 from rfl, show (2 : Nat) ^ 64 = 18446744073709551616 from rfl, this]
  rw [Int.natCast_emod, Int.natCast_ediv, Int.natCast_add, Int.natCast_mul, Int.natCast_pow]
  rfl
theorem or_twice (x : B32) : bits .or .u64 (U x * 4294967296) (U x) = U x * 4294967296 + U x := by
  unfold U
  have hx := x.isLt
  have e : ((x.toNat : Int) * 4294967296) = ((x.toNat * 4294967296 : Nat) : Int) := by rw [Int.natCast_mul]; rfl
  rw [e, u64_or_nat _ _ (by omega) (by omega)]
  have := twice_nat x.toNat hx
  rw [Nat.mod_eq_of_lt (by omega)] at this
  rw [this, Int.natCast_add]
attribute [local go_sem] U_xor U_and U_or U_add U_add' U_not u32_signed u32_max or_twice
set_option maxRecDepth 100000 in
set_option maxHeartbeats 2000000 in
theorem turn_calls (x : B32) (n : Nat) (h0 : 0 < n) (hn : n < 32) (w : World) : Calls Tryd.prog 65 #[.int .u32 (U x), .int .u64 (n : Int)] w fun e w' => e = .returned (.int .u32 (U (rotr x n))) ∧ w' = w := by
  have p1 : 0 ≤ (n : Int) := by omega
  have p2 : (n : Int) ≤ 64 := by omega
  have hU := U_lt x
  have hw : IntKind.u64.wrap (U x) = U x := by rw [IntKind.wrap_u64]; omega
  have hw2 : IntKind.u64.wrap (U x * 4294967296) = U x * 4294967296 := by rw [IntKind.wrap_u64]; omega
  have hm : U x * 4294967296 % 18446744073709551616 = U x * 4294967296 := by omega
  have hm2 : U x % 18446744073709551616 = U x := by omega
  go_enter Tryd.func65, Tryd.ntmps65
  go_wp2
  go_ret
  exact ⟨by rw [turn_nat x n h0 hn]; rfl, rfl⟩
/-- A round, the constant and the word together. -/
def stepV (v : V8) (x : B32) : V8 :=
  let choose := (v.e &&& v.f) ||| (~~~v.e &&& v.g)
  let most := (v.a &&& v.b) ||| (v.a &&& v.c) ||| (v.b &&& v.c)
  let one := v.k + (rotr v.e 6 ^^^ rotr v.e 11 ^^^ rotr v.e 25) + choose + x
  let two := (rotr v.a 2 ^^^ rotr v.a 13 ^^^ rotr v.a 22) + most
  ⟨one + two, v.a, v.b, v.c, v.d + one, v.e, v.f, v.g⟩
theorem choose_eq (e f g : B32) : (e &&& f) ||| (~~~e &&& g) = e &&& f ^^^ (~~~e &&& g) := by
  apply BitVec.eq_of_getLsbD_eq
  intro i hi
  simp only [BitVec.getLsbD_or, BitVec.getLsbD_and, BitVec.getLsbD_xor, BitVec.getLsbD_not, decide_eq_true hi]
  cases e.getLsbD i <;> cases f.getLsbD i <;> cases g.getLsbD i <;> rfl
theorem most_eq (a b c : B32) : (a &&& b) ||| (a &&& c) ||| (b &&& c) = a &&& b ^^^ a &&& c ^^^ b &&& c := by
  apply BitVec.eq_of_getLsbD_eq
  intro i hi
  simp only [BitVec.getLsbD_or, BitVec.getLsbD_and, BitVec.getLsbD_xor]
  cases a.getLsbD i <;> cases b.getLsbD i <;> cases c.getLsbD i <;> rfl
theorem step_round (v : V8) (c w : B32) : stepV v (c + w) = round v c w := by
  unfold stepV round
  simp only [choose_eq, most_eq, BitVec.add_assoc]
theorem size_alloc (w : World) (o : Obj) : (w.alloc o).heap.size = w.heap.size + 1 := by simp [World.alloc, -World.alloc_eq]
/-- A row of 8 words in a block of its own. -/
theorem cells8 {W : World} {h : Nat} {v : V8} {t : TypeId} (hb : W.heap[h]? = some (.cells v.cells t (0, 0))) : (W.cell? ⟨h, 0, none⟩ = some (.int .u32 (U v.a)) ∧ W.cell? ⟨h, 1, none⟩ = some (.int .u32 (U v.b)) ∧ W.cell? ⟨h, 2, none⟩ = some (.int .u32 (U v.c)) ∧ W.cell? ⟨h, 3, none⟩ = some (.int .u32 (U v.d))) ∧ (W.cell? ⟨h, 4, none⟩ = some (.int .u32 (U v.e)) ∧ W.cell? ⟨h, 5, none⟩ = some (.int .u32 (U v.f)) ∧ W.cell? ⟨h, 6, none⟩ = some (.int .u32 (U v.g)) ∧ W.cell? ⟨h, 7, none⟩ = some (.int .u32 (U v.k))) := by
  refine ⟨⟨?_, ?_, ?_, ?_⟩, ?_, ?_, ?_, ?_⟩ <;> simp [World.cell?, hb, V8.cells, wcell]
theorem fro_of {W : World} {h : Nat} {cs : Array Value} {t : TypeId} (hb : W.heap[h]? = some (.cells cs t (0, 0))) (i : Nat) : W.frozen? ⟨h, i, none⟩ = false := by simp [World.frozen?, hb]
set_option maxRecDepth 100000 in
set_option maxHeartbeats 4000000 in
theorem step_calls (v : V8) (x : B32) (w : World) : Calls Tryd.prog 54 #[.agg v.cells, .int .u32 (U x)] w fun e w' => e = .returned (.agg (stepV v x).cells) ∧ Below w.heap.size w w' := by
  have RT := Aside0.mk (fun (n : Nat) (h0 : 0 < n) (h1 : n < 32) (x : B32) (W : World) => turn_calls x n h0 h1 W)
  have R6 : Aside0 (∀ x W, Calls Tryd.prog 65 #[.int .u32 (U x), .int .u64 6] W fun e w' => e = .returned (.int .u32 (U (rotr x 6))) ∧ w' = W) := ⟨RT.out 6 (by decide) (by decide)⟩
  have R11 : Aside0 (∀ x W, Calls Tryd.prog 65 #[.int .u32 (U x), .int .u64 11] W fun e w' => e = .returned (.int .u32 (U (rotr x 11))) ∧ w' = W) := ⟨RT.out 11 (by decide) (by decide)⟩
  have R25 : Aside0 (∀ x W, Calls Tryd.prog 65 #[.int .u32 (U x), .int .u64 25] W fun e w' => e = .returned (.int .u32 (U (rotr x 25))) ∧ w' = W) := ⟨RT.out 25 (by decide) (by decide)⟩
  have R2 : Aside0 (∀ x W, Calls Tryd.prog 65 #[.int .u32 (U x), .int .u64 2] W fun e w' => e = .returned (.int .u32 (U (rotr x 2))) ∧ w' = W) := ⟨RT.out 2 (by decide) (by decide)⟩
  have R13 : Aside0 (∀ x W, Calls Tryd.prog 65 #[.int .u32 (U x), .int .u64 13] W fun e w' => e = .returned (.int .u32 (U (rotr x 13))) ∧ w' = W) := ⟨RT.out 13 (by decide) (by decide)⟩
  have R22 : Aside0 (∀ x W, Calls Tryd.prog 65 #[.int .u32 (U x), .int .u64 22] W fun e w' => e = .returned (.int .u32 (U (rotr x 22))) ∧ w' = W) := ⟨RT.out 22 (by decide) (by decide)⟩
  clear RT
  obtain ⟨W2, hW2⟩ : ∃ W2, (w.alloc (.cells v.cells 70)).alloc (.cells (V8.cells ⟨0, 0, 0, 0, 0, 0, 0, 0⟩) 70) = W2 := ⟨_, rfl⟩
  have HB2 : Aside0 (Below w.heap.size w W2) := ⟨by rw [← hW2]; exact ((Below.refl _ w).alloc (Nat.le_refl _) _).alloc (by rw [size_alloc]; omega) _⟩
  have HX0 : Aside0 (W2.heap[w.heap.size]? = some (.cells v.cells 70 (0, 0))) := ⟨by
    rw [← hW2, ((Below.refl (w.alloc (.cells v.cells 70)).heap.size _).alloc (Nat.le_refl _) _).block _ (by rw [size_alloc]; omega)]
    exact World.alloc_heap_new w _⟩
  have HX1 : Aside0 (W2.heap[w.heap.size + 1]? = some (.cells (V8.cells ⟨0, 0, 0, 0, 0, 0, 0, 0⟩) 70 (0, 0))) := ⟨by
    rw [← hW2]
    have := World.alloc_heap_new (w.alloc (.cells v.cells 70)) (.cells (V8.cells ⟨0, 0, 0, 0, 0, 0, 0, 0⟩) 70)
    rw [size_alloc] at this
    exact this⟩
  go_enter Tryd.func54, Tryd.ntmps54
  go_upto_region 1 with fail
  change Code.wp _ _ _ _ ((w.alloc (.cells v.cells 70)).alloc (.cells (V8.cells ⟨0, 0, 0, 0, 0, 0, 0, 0⟩) 70))
  rw [hW2]
  clear hW2
  obtain ⟨⟨k0, k1, k2, k3⟩, k4, k5, k6, k7⟩ := cells8 HX0.out
  obtain ⟨⟨q0, q1, q2, q3⟩, q4, q5, q6, q7⟩ := cells8 HX1.out
  have rf := fro_of HX1.out
  have hu70 := Tryd.underlying70
  go_wp2
  go_quiet (first | (go_at_call 65; ((with_reducible refine (R6.out _ _).mono ?_)); rintro e w2 ⟨rfl, hw⟩; exact ⟨rfl, _, hw⟩) | (go_at_call 65; ((with_reducible refine (R11.out _ _).mono ?_)); rintro e w2 ⟨rfl, hw⟩; exact ⟨rfl, _, hw⟩) | (go_at_call 65; ((with_reducible refine (R25.out _ _).mono ?_)); rintro e w2 ⟨rfl, hw⟩; exact ⟨rfl, _, hw⟩))
  go_wp2
  go_quiet (first | (go_at_call 65; ((with_reducible refine (R2.out _ _).mono ?_)); rintro e w2 ⟨rfl, hw⟩; exact ⟨rfl, _, hw⟩) | (go_at_call 65; ((with_reducible refine (R13.out _ _).mono ?_)); rintro e w2 ⟨rfl, hw⟩; exact ⟨rfl, _, hw⟩) | (go_at_call 65; ((with_reducible refine (R22.out _ _).mono ?_)); rintro e w2 ⟨rfl, hw⟩; exact ⟨rfl, _, hw⟩))
  go_wp2
  refine bodyPost_ret (v := .agg (stepV v x).cells) (results_cell_row rfl _ _ (w.heap.size + 1) 70 (stepV v x).cells (0, 0) _ rfl ?_ Tryd.underlying70 rfl (by kernel_rfl)) rfl ⟨rfl, ?_⟩
  · simp [World.setCell, Array.getElem?_modify, HX1.out, V8.cells, wcell, stepV]
  · exact below_set (below_set (below_set (below_set (below_set (below_set (below_set (below_set (pw_below_drewN HB2.out _) _ _ (by simp)) _ _ (by simp)) _ _ (by simp)) _ _ (by simp)) _ _ (by simp)) _ _ (by simp)) _ _ (by simp)) _ _ (by simp)
set_option maxRecDepth 100000 in
set_option maxHeartbeats 4000000 in
theorem start_calls (w : World) : Calls Tryd.prog 39 #[] w fun e w' => e = .returned (.agg H0.cells) ∧ Below w.heap.size w w' := by
  have hu70 := Tryd.underlying70
  obtain ⟨W1, hW1⟩ : ∃ W1, w.alloc (.cells (V8.cells ⟨0, 0, 0, 0, 0, 0, 0, 0⟩) 70) = W1 := ⟨_, rfl⟩
  have HB1 : Aside0 (Below w.heap.size w W1) := ⟨by rw [← hW1]; exact (Below.refl _ w).alloc (Nat.le_refl _) _⟩
  have HX1 : Aside0 (W1.heap[w.heap.size]? = some (.cells (V8.cells ⟨0, 0, 0, 0, 0, 0, 0, 0⟩) 70 (0, 0))) := ⟨by rw [← hW1]; exact World.alloc_heap_new w _⟩
  go_enter Tryd.func39, Tryd.ntmps39
  go_upto_region 1 with fail
  change Code.wp _ _ _ _ (w.alloc (.cells (V8.cells ⟨0, 0, 0, 0, 0, 0, 0, 0⟩) 70))
  rw [hW1]
  clear hW1
  obtain ⟨⟨q0, q1, q2, q3⟩, q4, q5, q6, q7⟩ := cells8 HX1.out
  have rf := fro_of HX1.out
  go_wp2
  refine bodyPost_ret (v := .agg H0.cells) (results_cell_row rfl _ _ w.heap.size 70 H0.cells (0, 0) _ rfl ?_ Tryd.underlying70 rfl (by kernel_rfl)) rfl ⟨rfl, ?_⟩
  · simp [World.setCell, Array.getElem?_modify, HX1.out, V8.cells, wcell, H0, U]
  · exact below_set (below_set (below_set (below_set (below_set (below_set (below_set (below_set HB1.out _ _ (by simp)) _ _ (by simp)) _ _ (by simp)) _ _ (by simp)) _ _ (by simp)) _ _ (by simp)) _ _ (by simp)) _ _ (by simp)
set_option maxRecDepth 100000 in
set_option maxHeartbeats 4000000 in
theorem constants_calls (w : World) : Calls Tryd.prog 53 #[] w fun e w' => e = .returned (.agg (warr K)) ∧ Below w.heap.size w w' := by
  have hu85 := Tryd.underlying85
  obtain ⟨W1, hW1⟩ : ∃ W1, w.alloc (.cells (warr (List.replicate 64 0)) 85) = W1 := ⟨_, rfl⟩
  have HB1 : Aside0 (Below w.heap.size w W1) := ⟨by rw [← hW1]; exact (Below.refl _ w).alloc (Nat.le_refl _) _⟩
  have HX1 : Aside0 (W1.heap[w.heap.size]? = some (.cells (warr (List.replicate 64 0)) 85 (0, 0))) := ⟨by rw [← hW1]; exact World.alloc_heap_new w _⟩
  go_enter Tryd.func53, Tryd.ntmps53
  go_upto_region 1 with fail
  change Code.wp _ _ _ _ (w.alloc (.cells (warr (List.replicate 64 0)) 85))
  rw [hW1]
  clear hW1
  go_wp2_with (first
    | ((with_reducible refine gate_store (t := 85) (p := 0) rfl ?_); refine wpList_store_row' rfl 85 (.tmp 0) (.tmp 1) rfl w.heap.size 85 (warr (List.replicate 64 0)) (warr K) rfl (by kernel_rfl) HX1.out (by kernel_rfl) (by kernel_rfl) (by kernel_rfl) ?_; intro w9 hw9; have HX9 : Aside0 (w9.heap[w.heap.size]? = some (.cells (warr K) 85 (0, 0))) := ⟨by rw [hw9]; exact setRow_heap _ _ _ _ _ _ HX1.out⟩; have HB9 : Aside0 (Below w.heap.size w w9) := ⟨by rw [hw9]; exact below_setRow HB1.out (Nat.le_refl _) _⟩; clear hw9))
  exact bodyPost_ret (v := .agg (warr K)) (results_cell_row rfl _ _ w.heap.size 85 (warr K) (0, 0) _ rfl HX9.out Tryd.underlying85 rfl (by kernel_rfl)) rfl ⟨rfl, HB9.out⟩
end Go.Proofs.YtglhbbijoeeclaaDoor.Sha
/- The document's SHA-256: a block's schedule. -/
namespace Go.Proofs.YtglhbbijoeeclaaDoor.Sha
open Go.RowKit Go.Proofs.YtglhbbijoeeclaaDoorW.PrintWords Go.Proofs.YtglhbbijoeeclaaDoorW.PrintLast Go.Proofs.YtglhbbijoeeclaaDoorW.PrintMore Go.Proofs.YtglhbbijoeeclaaDoor.Bytes
set_option linter.unusedVariables false
set_option linter.unusedSimpArgs false
/-- A word, byte by byte. -/
def pv (b : List UInt8) (i : Nat) : Nat → B32
  | 0 => 0
  | j + 1 => pv b i j <<< (8 : Nat) + BitVec.ofNat 32 (b.getD (4 * i + j) 0).toNat
theorem shl_add (x : B32) (c : UInt8) (n : Nat) (h : x.toNat < n) (hn : n * 256 ≤ 4294967296) : (x <<< (8 : Nat) + BitVec.ofNat 32 c.toNat).toNat = x.toNat * 256 + c.toNat := by
  have hc := c.toNat_lt
  rw [BitVec.toNat_add, BitVec.toNat_shiftLeft, Nat.shiftLeft_eq, BitVec.toNat_ofNat]
  have : x.toNat * 2 ^ 8 = x.toNat * 256 := rfl
  rw [this, Nat.mod_eq_of_lt (a := x.toNat * 256) (by omega), Nat.mod_eq_of_lt (a := c.toNat) (by omega), Nat.mod_eq_of_lt (by omega)]
theorem be_nat (a b c d : UInt8) : (be a b c d).toNat = ((a.toNat * 256 + b.toNat) * 256 + c.toNat) * 256 + d.toNat := by
  have ha := a.toNat_lt
  have hb := b.toNat_lt
  have hc := c.toNat_lt
  have hd := d.toNat_lt
  unfold be
  simp only [BitVec.toNat_or, BitVec.toNat_shiftLeft, BitVec.toNat_ofNat, Nat.shiftLeft_eq]
  rw [Nat.mod_eq_of_lt (a := a.toNat) (by omega), Nat.mod_eq_of_lt (a := b.toNat) (by omega), Nat.mod_eq_of_lt (a := c.toNat) (by omega), Nat.mod_eq_of_lt (a := d.toNat) (by omega), Nat.mod_eq_of_lt (a := a.toNat * 2 ^ 24) (by omega), Nat.mod_eq_of_lt (a := b.toNat * 2 ^ 16) (by omega), Nat.mod_eq_of_lt (a := c.toNat * 2 ^ 8) (by omega)]
  have e1 := Nat.two_pow_add_eq_or_of_lt (i := 24) (b := b.toNat * 2 ^ 16) (by omega) a.toNat
  have e2 := Nat.two_pow_add_eq_or_of_lt (i := 16) (b := c.toNat * 2 ^ 8) (by omega) (a.toNat * 2 ^ 8 + b.toNat)
  have e3 := Nat.two_pow_add_eq_or_of_lt (i := 8) (b := d.toNat) (by omega) ((a.toNat * 2 ^ 8 + b.toNat) * 2 ^ 8 + c.toNat)
  rw [Nat.mul_comm a.toNat (2 ^ 24), ← e1, show 2 ^ 24 * a.toNat + b.toNat * 2 ^ 16 = 2 ^ 16 * (a.toNat * 2 ^ 8 + b.toNat) from by omega, ← e2, show 2 ^ 16 * (a.toNat * 2 ^ 8 + b.toNat) + c.toNat * 2 ^ 8 = 2 ^ 8 * ((a.toNat * 2 ^ 8 + b.toNat) * 2 ^ 8 + c.toNat) from by omega, ← e3]
  omega
theorem pv4 (b : List UInt8) (i : Nat) : pv b i 4 = wordAt b i := by
  apply BitVec.eq_of_toNat_eq
  unfold wordAt
  rw [be_nat]
  have h0 := (b.getD (4 * i) 0).toNat_lt
  have h1 := (b.getD (4 * i + 1) 0).toNat_lt
  have h2 := (b.getD (4 * i + 2) 0).toNat_lt
  have h3 := (b.getD (4 * i + 3) 0).toNat_lt
  have s0 : (pv b i 0).toNat = 0 := rfl
  have s1 : (pv b i 1).toNat = (b.getD (4 * i) 0).toNat := by
    have := shl_add (pv b i 0) (b.getD (4 * i + 0) 0) 1 (by rw [s0]; omega) (by omega)
    rw [s0] at this
    rw [pv, this]
    simp
  have s2 : (pv b i 2).toNat = (b.getD (4 * i) 0).toNat * 256 + (b.getD (4 * i + 1) 0).toNat := by
    have := shl_add (pv b i 1) (b.getD (4 * i + 1) 0) 256 (by rw [s1]; omega) (by omega)
    rw [s1] at this
    rw [pv, this]
  have s3 : (pv b i 3).toNat = ((b.getD (4 * i) 0).toNat * 256 + (b.getD (4 * i + 1) 0).toNat) * 256 + (b.getD (4 * i + 2) 0).toNat := by
    have := shl_add (pv b i 2) (b.getD (4 * i + 2) 0) 65536 (by rw [s2]; omega) (by omega)
    rw [s2] at this
    rw [pv, this]
  have := shl_add (pv b i 3) (b.getD (4 * i + 3) 0) 16777216 (by rw [s3]; omega) (by omega)
  rw [s3] at this
  rw [pv, this]
/-- words' boxes: the bytes, the answer, the schedule. -/
structure Wk (h : Nat) (w W : World) (b : List UInt8) (ws : List B32) : Prop where
  bb : W.heap[h]? = some (.cells (barr b) 53 (0, 0))
  rb : W.heap[h + 1]? = some (.cells (warr (List.replicate 64 0)) 85 (0, 0))
  wb : W.heap[h + 1 + 1]? = some (.cells (warr ws) 85 (0, 0))
  below : Below h w W
section
variable {h : Nat} {w W W2 : World} {b : List UInt8} {ws : List B32}
theorem Wk.start (w : World) (b : List UInt8) : Wk w.heap.size w (((w.alloc (.cells (barr b) 53)).alloc (.cells (warr (List.replicate 64 0)) 85)).alloc (.cells (warr (List.replicate 64 0)) 85)) b (List.replicate 64 0) := by
  have a1 : ∀ (W : World) (o : Obj), (W.alloc o).heap.size = W.heap.size + 1 := fun W o => Array.size_push _
  have a2 : ∀ (W : World) (o : Obj) (k : Nat), k < W.heap.size → (W.alloc o).heap[k]? = W.heap[k]? := fun W o k hk => ((Below.refl W.heap.size W).alloc (Nat.le_refl _) o).block k hk
  have a3 : ∀ (W : World) (o : Obj) (k : Nat), k = W.heap.size → (W.alloc o).heap[k]? = some o := fun W o k hk => by rw [hk]; exact World.alloc_heap_new W o
  refine ⟨?_, ?_, ?_, ?_⟩
  · rw [a2 _ _ _ (by simp only [a1]; omega), a2 _ _ _ (by simp only [a1]; omega), a3 _ _ _ rfl]
  · rw [a2 _ _ _ (by simp only [a1]; omega), a3 _ _ _ (by simp only [a1])]
  · rw [a3 _ _ _ (by simp only [a1])]
  · exact (((Below.refl _ w).alloc (Nat.le_refl _) _).alloc (by simp only [a1]; omega) _).alloc (by simp only [a1]; omega) _
theorem Wk.lt (k : Wk h w W b ws) : h + 1 + 1 < W.heap.size := (Array.getElem?_eq_some_iff.1 k.wb).1
theorem Wk.keep (k : Wk h w W b ws) (hb : Below W.heap.size W W2) : Wk h w W2 b ws := by
  have z := k.lt
  exact ⟨(hb.block _ (by omega)).trans k.bb, (hb.block _ (by omega)).trans k.rb, (hb.block _ (by omega)).trans k.wb, k.below.trans (hb.mono (by omega))⟩
theorem Wk.byte (k : Wk h w W b ws) (i : Nat) (hi : i < b.length) : W.cell? ⟨h, i, none⟩ = some (.int .u8 (B (b.getD i 0))) := by
  simp [World.cell?, k.bb, barr, List.getElem?_map, List.getElem?_eq_getElem hi, List.getD_eq_getElem?_getD, bcell]
theorem Wk.word (k : Wk h w W b ws) (i : Nat) (hi : i < ws.length) : W.cell? ⟨h + 1 + 1, i, none⟩ = some (.int .u32 (U (ws.getD i 0))) := by
  simp [World.cell?, k.wb, warr, List.getElem?_map, List.getElem?_eq_getElem hi, List.getD_eq_getElem?_getD, wcell]
theorem Wk.fro (k : Wk h w W b ws) (i : Nat) : W.frozen? ⟨h + 1 + 1, i, none⟩ = false := by simp [World.frozen?, k.wb]
theorem Wk.set (k : Wk h w W b ws) (i : Nat) (x : B32) : Wk h w (W.setCell ⟨h + 1 + 1, i, none⟩ (.int .u32 (U x))) b (ws.set i x) := by
  refine ⟨(Below.heap_setCell _ _ _ _ (by show h ≠ h + 1 + 1; omega)).trans k.bb, (Below.heap_setCell _ _ _ _ (by show h + 1 ≠ h + 1 + 1; omega)).trans k.rb, ?_, ?_⟩
  · have := k.wb
    simp [World.setCell, Array.getElem?_modify, this, warr, List.map_set, wcell]
  · exact k.below.trans ⟨rfl, rfl, rfl, (KeepsWalks.setCell W _ _).size, fun i hi => Below.heap_setCell _ _ _ i (by show i ≠ h + 1 + 1; omega)⟩
end
theorem filled_nil : filled [] = List.replicate 64 0 := rfl
/-- The schedule, the word at work put in. -/
def inWork (b : List UInt8) (i j : Nat) : List B32 := (filled (first b i)).set i (pv b i j)
theorem inWork_len (b : List UInt8) (i j : Nat) (hi : i ≤ 64) : (inWork b i j).length = 64 := by
  rw [inWork, List.length_set, filled_len _ (by rw [first_len]; exact hi)]
theorem inWork_zero (b : List UInt8) (i : Nat) (hi : i < 64) : inWork b i 0 = filled (first b i) := by
  unfold inWork pv
  have hl := first_len b i
  apply List.ext_getElem?
  intro k
  rw [List.getElem?_set]
  split
  · rename_i h
    subst h
    rw [if_pos (by rw [filled_len _ (by omega)]; exact hi)]
    unfold filled
    rw [List.getElem?_append_right (by omega), List.getElem?_replicate, if_pos (by omega)]
  · rfl
theorem inWork_get (b : List UInt8) (i j : Nat) (hi : i < 64) : (inWork b i j).getD i 0 = pv b i j := by
  unfold inWork
  rw [List.getD_eq_getElem?_getD, List.getElem?_set, if_pos rfl, if_pos (by rw [filled_len _ (by rw [first_len]; omega)]; exact hi)]
  rfl
theorem inWork_set (b : List UInt8) (i j : Nat) : (inWork b i j).set i (pv b i (j + 1)) = inWork b i (j + 1) := by
  unfold inWork
  rw [List.set_set]
theorem inWork_four (b : List UInt8) (i : Nat) (hi : i < 64) : inWork b i 4 = filled (first b (i + 1)) := by
  unfold inWork
  have := filled_set (first b i) (wordAt b i) (by rw [first_len]; omega)
  rw [first_len] at this
  rw [pv4, this, first]
attribute [local go_sem] U_xor U_and U_or U_add U_add' U_shr3 U_shr8 U_shr10 U_shr16 U_shr24 U_shl8 U_shl16 U_shl24 U_shl8w U_shl16w U_shl24w B_wide B_wide' U_byte U_byte' U_not u32_signed u32_max
set_option maxRecDepth 100000 in
set_option maxHeartbeats 4000000 in
theorem words_calls (b : List UInt8) (hb : b.length = 64) (w : World) : Calls Tryd.prog 52 #[.agg (b.map bcell).toArray] w fun e w' => e = .returned (.agg (warr (sched b))) ∧ Below w.heap.size w w' := by
  have RT := Aside0.mk (fun (n : Nat) (h0 : 0 < n) (h1 : n < 32) (x : B32) (W : World) => turn_calls x n h0 h1 W)
  have R7 : Aside0 (∀ x W, Calls Tryd.prog 65 #[.int .u32 (U x), .int .u64 7] W fun e w' => e = .returned (.int .u32 (U (rotr x 7))) ∧ w' = W) := ⟨RT.out 7 (by decide) (by decide)⟩
  have R18 : Aside0 (∀ x W, Calls Tryd.prog 65 #[.int .u32 (U x), .int .u64 18] W fun e w' => e = .returned (.int .u32 (U (rotr x 18))) ∧ w' = W) := ⟨RT.out 18 (by decide) (by decide)⟩
  have R17 : Aside0 (∀ x W, Calls Tryd.prog 65 #[.int .u32 (U x), .int .u64 17] W fun e w' => e = .returned (.int .u32 (U (rotr x 17))) ∧ w' = W) := ⟨RT.out 17 (by decide) (by decide)⟩
  have R19 : Aside0 (∀ x W, Calls Tryd.prog 65 #[.int .u32 (U x), .int .u64 19] W fun e w' => e = .returned (.int .u32 (U (rotr x 19))) ∧ w' = W) := ⟨RT.out 19 (by decide) (by decide)⟩
  clear RT
  have hu53 := Tryd.underlying53
  have hu85 := Tryd.underlying85
  have HK0 := Aside0.mk (Wk.start w b)
  have HB := Aside0.mk hb
  clear hb
  go_enter Tryd.func52, Tryd.ntmps52
  go_wp2
  go_loopg [4] 64 (fun g v4 wx => ∃ i : Nat, i + g = 64 ∧ v4 = .int .i64 (i : Int) ∧ Aside0 (Wk w.heap.size w wx b (if i ≤ 16 then filled (first b i) else filled (more b (i - 16)))))
  case atStart => exact ⟨0, by omega, rfl, HK0⟩
  case round =>
    clear HK0
    obtain ⟨i, hig, rfl, HK⟩ := hrel
    cases gk with
    | zero =>
      obtain rfl : i = 64 := by omega
      have HK3 : Aside0 (Wk w.heap.size w wr b (sched b)) := by
        have e : filled (more b 48) = sched b := by
          unfold filled
          rw [more_len, Nat.sub_self]
          show more b 48 ++ [] = _
          rw [List.append_nil, sched]
        rw [← e]; exact HK
      clear HK
      have d1 : decide ((64 : Int) < 64) = false := decide_eq_false (by omega)
      go_wp2_with (first
        | ((with_reducible refine gate_dst (N := 73) rfl ?_); refine wpList_load_mid rfl 85 (.tmp 3) rfl (w.heap.size + 1 + 1) 0 rfl ((sched b).map wcell) _ (range_row HK3.out.wb) Tryd.underlying85 rfl (by rw [List.length_map, sched_len]; kernel_rfl) ?_)
        | ((with_reducible refine gate_store (t := 85) (p := 2) rfl ?_); refine wpList_store_row' rfl 85 (.tmp 2) (.tmp 73) rfl (w.heap.size + 1) 85 (warr (List.replicate 64 0)) (warr (sched b)) rfl rfl HK3.out.rb (by rw [warr, List.size_toArray, List.length_map, sched_len]; kernel_rfl) (by rw [warr, warr, List.size_toArray, List.size_toArray, List.length_map, List.length_map, sched_len]; rfl) (all_oneCell_toArray fun u hu => by obtain ⟨y, _, rfl⟩ := List.mem_map.1 hu; rfl) ?_; intro w9 hw9; have HX9 : Aside0 (w9.heap[w.heap.size + 1]? = some (.cells (warr (sched b)) 85 (0, 0))) := ⟨by rw [hw9]; exact setRow_heap _ _ _ _ _ _ HK3.out.rb⟩; have HB9 : Aside0 (Below w.heap.size w w9) := ⟨by rw [hw9]; exact below_setRow HK3.out.below (Nat.le_succ _) _⟩; clear hw9))
      exact bodyPost_ret (v := .agg (warr (sched b))) (results_cell_row rfl _ _ (w.heap.size + 1) 85 (warr (sched b)) (0, 0) _ rfl HX9.out Tryd.underlying85 rfl (by rw [warr, List.size_toArray, List.length_map, sched_len]; kernel_rfl)) rfl ⟨rfl, HB9.out⟩
    | succ k1 =>
      have d1 : decide ((i : Int) < 64) = true := decide_eq_true (by omega)
      by_cases hi : i < 16
      · have d2 : decide ((i : Int) < 16) = true := decide_eq_true (by omega)
        have HK1 : Aside0 (Wk w.heap.size w wr b (inWork b i 0)) := ⟨by rw [inWork_zero b i (by omega)]; have := HK.out; rw [if_pos (by omega)] at this; exact this⟩
        clear HK
        go_wp2
        go_loopg [5] 4 (fun g v5 wx => ∃ j : Nat, j + g = 4 ∧ v5 = .int .i64 (j : Int) ∧ Aside0 (Wk w.heap.size w wx b (inWork b i j)))
        case atStart => exact ⟨0, by omega, rfl, HK1⟩
        case round =>
          clear HK1
          obtain ⟨j, hjg, rfl, HK⟩ := hrel
          cases gk with
          | zero =>
            obtain rfl : j = 4 := by omega
            go_wp2
            go_roundg k1
            case measure => omega
            case rel =>
              refine ⟨i + 1, by omega, by go_num, ⟨?_⟩⟩
              rw [if_pos (by omega), ← inWork_four b i (by omega)]
              exact HK.out
          | succ k2 =>
            have e0 : (4 * (i : Int) + (j : Int)).toNat = 4 * i + j := by omega
            have p0 : (0 ≤ 4 * (i : Int) + (j : Int)) = True := eq_true (by omega)
            have q0 : (4 * (i : Int) + (j : Int) < 64) = True := eq_true (by omega)
            have p9 : (0 ≤ (i : Int)) = True := eq_true (by omega)
            have q9 : ((i : Int) < 64) = True := eq_true (by omega)
            have d3 : decide ((j : Int) < 4) = true := decide_eq_true (by omega)
            have wr_ : ∀ x : Int, 0 ≤ x → x < 1000 → IntKind.i64.wrap x = x := fun x h0 h1 => by rw [IntKind.wrap_i64]; omega
            have m0 := wr_ (4 * (i : Int)) (by omega) (by omega)
            have m1 := wr_ (4 * (i : Int) + (j : Int)) (by omega) (by omega)
            clear wr_
            go_wp2
            refine wp_region_still_tail 14 (by kernel_rfl) (by kernel_rfl) ?_
            change wpStill _ _ (World.drew wr) (fun a' => wpList _ _ _ _ a' (World.drew wr)) _ _
            have HK2 := Aside0.mk (HK.out.keep (below_drew (Below.refl _ wr)))
            generalize World.drew wr = w2 at HK2 ⊢
            have y0 := HK2.out.byte (4 * i + j) (by rw [HB.out]; omega)
            have y1 := HK2.out.word i (by rw [inWork_len _ _ _ (by omega)]; omega)
            rw [inWork_get b i j (by omega)] at y1
            obtain ⟨x0, hx0⟩ : ∃ x, b.getD (4 * i + j) 0 = x := ⟨_, rfl⟩
            obtain ⟨xp, hxp⟩ : ∃ x, pv b i j = x := ⟨_, rfl⟩
            have HPV := Aside0.mk (show pv b i (j + 1) = xp <<< (8 : Nat) + BitVec.ofNat 32 x0.toNat from by rw [pv, hx0, hxp])
            rw [hx0] at y0
            rw [hxp] at y1
            have y5 := HK2.out.fro i
            clear hx0 hxp HK
            simp only [List.take_succ_cons, List.take_zero, List.drop_succ_cons, List.drop_zero]
            repeat still_step
            refine wpStill_nil ?_
            change wpList _ _ _ _ _ w2
            go_wp2
            clear m0 m1
            go_roundg k2
            case measure => omega
            case rel =>
              refine ⟨j + 1, by omega, by go_num, ⟨?_⟩⟩
              rw [← inWork_set, HPV.out]
              exact HK2.out.set i _
      · have d2 : decide ((i : Int) < 16) = false := decide_eq_false (by omega)
        obtain ⟨n, hn⟩ : ∃ n, i = 16 + n := ⟨i - 16, by omega⟩
        have HK1 : Aside0 (Wk w.heap.size w wr b (filled (more b n))) := ⟨by
          have := HK.out
          by_cases h16 : i ≤ 16
          · obtain rfl : n = 0 := by omega
            rw [if_pos h16, show i = 16 from by omega] at this
            exact this
          · rw [if_neg h16, show i - 16 = n from by omega] at this
            exact this⟩
        clear HK
        have e15 : ((i : Int) - 15).toNat = i - 15 := by omega
        have e2 : ((i : Int) - 2).toNat = i - 2 := by omega
        have e16 : ((i : Int) - 16).toNat = i - 16 := by omega
        have e7 : ((i : Int) - 7).toNat = i - 7 := by omega
        have a15 : (0 ≤ (i : Int) - 15) = True := eq_true (by omega)
        have a2 : (0 ≤ (i : Int) - 2) = True := eq_true (by omega)
        have a16 : (0 ≤ (i : Int) - 16) = True := eq_true (by omega)
        have a7 : (0 ≤ (i : Int) - 7) = True := eq_true (by omega)
        have s15 : (15 ≤ (i : Int)) = True := eq_true (by omega)
        have s2 : (2 ≤ (i : Int)) = True := eq_true (by omega)
        have s16 : (16 ≤ (i : Int)) = True := eq_true (by omega)
        have s7 : (7 ≤ (i : Int)) = True := eq_true (by omega)
        have b15 : ((i : Int) - 15 < 64) = True := eq_true (by omega)
        have b2 : ((i : Int) - 2 < 64) = True := eq_true (by omega)
        have b16 : ((i : Int) - 16 < 64) = True := eq_true (by omega)
        have b7 : ((i : Int) - 7 < 64) = True := eq_true (by omega)
        have p9 : (0 ≤ (i : Int)) = True := eq_true (by omega)
        have q9 : ((i : Int) < 64) = True := eq_true (by omega)
        obtain ⟨l, hl⟩ : ∃ l, more b n = l := ⟨_, rfl⟩
        have hll : l.length = 16 + n := by rw [← hl]; exact more_len b n
        rw [hl] at HK1
        obtain ⟨x15, hx15⟩ : ∃ x, l.getD (i - 15) 0 = x := ⟨_, rfl⟩
        obtain ⟨x2, hx2⟩ : ∃ x, l.getD (i - 2) 0 = x := ⟨_, rfl⟩
        obtain ⟨x16, hx16⟩ : ∃ x, l.getD (i - 16) 0 = x := ⟨_, rfl⟩
        obtain ⟨x7, hx7⟩ : ∃ x, l.getD (i - 7) 0 = x := ⟨_, rfl⟩
        have hlj : l.length = i := by omega
        have HN := Aside0.mk (show filled (more b (n + 1)) = (filled l).set i ((rotr x2 17 ^^^ rotr x2 19 ^^^ x2 >>> (10 : Nat)) + x7 + (rotr x15 7 ^^^ rotr x15 18 ^^^ x15 >>> (3 : Nat)) + x16) from by
          have hcm : (rotr x2 17 ^^^ rotr x2 19 ^^^ x2 >>> (10 : Nat)) + x7 + (rotr x15 7 ^^^ rotr x15 18 ^^^ x15 >>> (3 : Nat)) + x16 = x16 + (rotr x15 7 ^^^ rotr x15 18 ^^^ x15 >>> (3 : Nat)) + x7 + (rotr x2 17 ^^^ rotr x2 19 ^^^ x2 >>> (10 : Nat)) := by
            ac_rfl
          rw [hcm]
          have := filled_set l (x16 + (rotr x15 7 ^^^ rotr x15 18 ^^^ x15 >>> (3 : Nat)) + x7 + (rotr x2 17 ^^^ rotr x2 19 ^^^ x2 >>> (10 : Nat))) (by omega)
          rw [hlj] at this
          rw [this, more, hl]
          unfold next
          rw [hlj, hx15, hx2, hx16, hx7])
        have KW := Aside0.mk (show ∀ W, Wk w.heap.size w W b (filled l) → (W.cell? ⟨w.heap.size + 1 + 1, i - 15, none⟩ = some (.int .u32 (U x15)) ∧ W.cell? ⟨w.heap.size + 1 + 1, i - 2, none⟩ = some (.int .u32 (U x2))) ∧ (W.cell? ⟨w.heap.size + 1 + 1, i - 16, none⟩ = some (.int .u32 (U x16)) ∧ W.cell? ⟨w.heap.size + 1 + 1, i - 7, none⟩ = some (.int .u32 (U x7))) from fun W hk => by
          have fl := filled_len l (by omega)
          have c15 := hk.word (i - 15) (by omega)
          have c2 := hk.word (i - 2) (by omega)
          have c16 := hk.word (i - 16) (by omega)
          have c7 := hk.word (i - 7) (by omega)
          rw [filled_get l _ (by omega)] at c15 c2 c16 c7
          rw [hx15] at c15
          rw [hx2] at c2
          rw [hx16] at c16
          rw [hx7] at c7
          exact ⟨⟨c15, c2⟩, c16, c7⟩)
        have HLJ := Aside0.mk hlj
        have HNI := Aside0.mk hn
        have HIG := Aside0.mk hig
        clear hx15 hx2 hx16 hx7 hl hll hlj hn
        obtain ⟨⟨c15, c2⟩, _, _⟩ := KW.out _ HK1.out
        have wr_ : ∀ x : Int, 0 ≤ x → x < 1000 → IntKind.i64.wrap x = x := fun x h0 h1 => by rw [IntKind.wrap_i64]; omega
        have m15 := wr_ ((i : Int) - 15) (by omega) (by omega)
        have m2 := wr_ ((i : Int) - 2) (by omega) (by omega)
        have m16 := wr_ ((i : Int) - 16) (by omega) (by omega)
        have m7 := wr_ ((i : Int) - 7) (by omega) (by omega)
        clear wr_
        go_wp2_with (first | (go_at_call 65; ((with_reducible refine (R7.out _ _).mono ?_)); rintro e w2 ⟨rfl, hw⟩; rw [hw]; clear hw) | (go_at_call 65; ((with_reducible refine (R18.out _ _).mono ?_)); rintro e w2 ⟨rfl, hw⟩; rw [hw]; clear hw) | (go_at_call 65; ((with_reducible refine (R17.out _ _).mono ?_)); rintro e w2 ⟨rfl, hw⟩; rw [hw]; clear hw) | (go_at_call 65; ((with_reducible refine (R19.out _ _).mono ?_)); rintro e w2 ⟨rfl, hw⟩; rw [hw]; clear hw))
        have HK5 : Aside0 (Wk w.heap.size w wr b (filled l)) := HK1
        clear c15 c2 HK1
        refine wp_region_still_tail 15 (by kernel_rfl) (by kernel_rfl) ?_
        change wpStill _ _ (World.drew wr) (fun a' => wpList _ _ _ _ a' (World.drew wr)) _ _
        have HK6 := Aside0.mk (HK5.out.keep (below_drew (Below.refl _ wr)))
        generalize World.drew wr = w6 at HK6 ⊢
        obtain ⟨⟨_, _⟩, c16, c7⟩ := KW.out _ HK6.out
        have hj64 : i < 64 := by omega
        have y4 := HK6.out.word i (by rw [filled_len _ (by rw [HLJ.out]; omega)]; exact hj64)
        have y5 := HK6.out.fro i
        clear hj64
        simp only [List.take_succ_cons, List.take_zero, List.drop_succ_cons, List.drop_zero]
        repeat still_step
        refine wpStill_nil ?_
        change wpList _ _ _ _ _ w6
        go_wp2
        clear m15 m2 m16 m7
        go_roundg k1
        case measure => omega
        case rel =>
          have hn := HNI.out
          refine ⟨i + 1, by omega, by go_num, ⟨?_⟩⟩
          rw [if_neg (by omega), show i + 1 - 16 = n + 1 from by omega, HN.out]
          exact HK6.out.set i _
end Go.Proofs.YtglhbbijoeeclaaDoor.Sha
/- The document's SHA-256: a block. -/
namespace Go.Proofs.YtglhbbijoeeclaaDoor.Sha
open Go.Proofs.YtglhbbijoeeclaaDoor.OrdersBut Go.RowKit Go.Proofs.YtglhbbijoeeclaaDoorW.PrintWords Go.Proofs.YtglhbbijoeeclaaDoorW.PrintLast Go.Proofs.YtglhbbijoeeclaaDoorW.PrintMore Go.Proofs.YtglhbbijoeeclaaDoor.Bytes
set_option linter.unusedVariables false
set_option linter.unusedSimpArgs false
theorem setCell_rowT (w : World) (b i : Nat) (cs : List Value) (v : Value) (t : TypeId) (hg : w.heap[b]? = some (.cells cs.toArray t (0, 0))) : w.setCell ⟨b, i, none⟩ v = w.setRow b (cs.set i v).toArray := by
  rw [setCell_eq_setRow w b i _ _ _ v hg]
  simp
theorem setCells_rowT (w : World) (b : Nat) (vs : List Value) (t : TypeId) : ∀ (o : Nat) (cs : List Value), w.heap[b]? = some (.cells cs.toArray t (0, 0)) → o + vs.length ≤ cs.length → w.setCells b o vs = w.setRow b (cs.take o ++ vs ++ cs.drop (o + vs.length)).toArray := by
  induction vs generalizing w with
  | nil =>
    intro o cs hg hl
    rw [World.setCells]
    simp
    exact (setRow_self w b _ _ _ hg).symm
  | cons v r ih =>
    intro o cs hg hl
    rw [List.length_cons] at hl
    rw [World.setCells, setCell_rowT w b o cs v t hg, ih _ (o + 1) (cs.set o v) (by rw [setRow_heap w b _ _ _ _ hg]) (by rw [List.length_set]; omega), setRow_setRow]
    congr 2
    rw [List.take_add_one, List.take_set_of_le (Nat.le_refl _), List.getElem?_set_self (by omega), List.drop_set_of_lt (by omega)]
    simp
    rw [show o + 1 + r.length = o + (r.length + 1) from by omega]
/-- The boxes of the document's Block: the words that came in, the answer, the schedule, the constants, the words at work. -/
structure Rk (h p5 p6 p7 : Nat) (w W : World) (v0 : V8) (ws x : List B32) : Prop where
  hb : W.heap[h]? = some (.cells v0.cells 70 (0, 0))
  rb : W.heap[h + 1 + 1]? = some (.cells (V8.cells ⟨0, 0, 0, 0, 0, 0, 0, 0⟩) 70 (0, 0))
  wb : W.heap[p5]? = some (.cells (warr ws) 85 (0, 0))
  kb : W.heap[p6]? = some (.cells (warr K) 85 (0, 0))
  xb : W.heap[p7]? = some (.cells (warr x) 70 (0, 0))
  o5 : h + 1 + 1 < p5
  o6 : p5 < p6
  o7 : p6 < p7
  below : Below h w W
section
variable {h p5 p6 p7 : Nat} {w W W2 : World} {v0 : V8} {ws x : List B32}
theorem Rk.lt (k : Rk h p5 p6 p7 w W v0 ws x) : p7 < W.heap.size := (Array.getElem?_eq_some_iff.1 k.xb).1
theorem Rk.keep (k : Rk h p5 p6 p7 w W v0 ws x) (hb : Below W.heap.size W W2) : Rk h p5 p6 p7 w W2 v0 ws x := by
  have z := k.lt
  have z5 := k.o5
  have z6 := k.o6
  have z7 := k.o7
  exact ⟨(hb.block _ (by omega)).trans k.hb, (hb.block _ (by omega)).trans k.rb, (hb.block _ (by omega)).trans k.wb, (hb.block _ (by omega)).trans k.kb, (hb.block _ (by omega)).trans k.xb, z5, z6, z7, k.below.trans (hb.mono (by omega))⟩
theorem word_at {W : World} {p i : Nat} {l : List B32} {t : TypeId} (hb : W.heap[p]? = some (.cells (warr l) t (0, 0))) (hi : i < l.length) : W.cell? ⟨p, i, none⟩ = some (.int .u32 (U (l.getD i 0))) := by
  simp [World.cell?, hb, warr, List.getElem?_map, List.getElem?_eq_getElem hi, List.getD_eq_getElem?_getD, wcell]
theorem Rk.row (k : Rk h p5 p6 p7 w W v0 ws x) (y : List B32) : Rk h p5 p6 p7 w (W.setRow p7 (warr y)) v0 ws y := by
  have z := k.lt
  have z5 := k.o5
  have z6 := k.o6
  have z7 := k.o7
  exact ⟨(setRow_other _ _ _ _ (by omega)).trans k.hb, (setRow_other _ _ _ _ (by omega)).trans k.rb, (setRow_other _ _ _ _ (by omega)).trans k.wb, (setRow_other _ _ _ _ (by omega)).trans k.kb, setRow_heap _ _ _ _ _ _ k.xb, z5, z6, z7, below_setRow k.below (by omega) _⟩
theorem Rk.put (k : Rk h p5 p6 p7 w W v0 ws x) (y : V8) (hx : x.length = 8) : Rk h p5 p6 p7 w (W.setCells p7 0 y.cells.toList) v0 ws y.words := by
  have e := setCells_rowT W p7 y.cells.toList 70 0 (x.map wcell) k.xb (by rw [List.length_map, hx]; show 0 + 8 ≤ 8; omega)
  rw [e]
  have e2 : ((x.map wcell).take 0 ++ y.cells.toList ++ (x.map wcell).drop (0 + y.cells.toList.length)).toArray = warr y.words := by
    rw [List.take_zero, List.nil_append, List.drop_of_length_le (by rw [List.length_map, hx]; show 8 ≤ 0 + 8; omega), List.append_nil]
    rfl
  rw [e2]
  exact k.row _
theorem Rk.set (k : Rk h p5 p6 p7 w W v0 ws x) (i : Nat) (u : B32) : Rk h p5 p6 p7 w (W.setCell ⟨p7, i, none⟩ (.int .u32 (U u))) v0 ws (x.set i u) := by
  rw [setCell_rowT W p7 i (x.map wcell) _ 70 k.xb]
  have e : ((x.map wcell).set i (.int .u32 (U u))).toArray = warr (x.set i u) := by rw [warr, List.map_set]; rfl
  rw [e]
  exact k.row _
end
/-- The words at work, the first i of them summed with those that came in. -/
def mixw (v r : V8) (i : Nat) : List B32 := (vadd v r).words.take i ++ r.words.drop i
theorem mixw_len (v r : V8) (i : Nat) (h : i ≤ 8) : (mixw v r i).length = 8 := by
  have h1 : (vadd v r).words.length = 8 := rfl
  have h2 : r.words.length = 8 := rfl
  rw [mixw, List.length_append, List.length_take, List.length_drop, h1, h2]
  omega
theorem mixw_get (v r : V8) (i : Nat) (h : i < 8) : (mixw v r i).getD i 0 = r.words.getD i 0 := by
  match i, h with
  | 0, _ => rfl
  | 1, _ => rfl
  | 2, _ => rfl
  | 3, _ => rfl
  | 4, _ => rfl
  | 5, _ => rfl
  | 6, _ => rfl
  | 7, _ => rfl
theorem mixw_set (v r : V8) (i : Nat) (h : i < 8) : (mixw v r i).set i (r.words.getD i 0 + v.words.getD i 0) = mixw v r (i + 1) := by
  rw [BitVec.add_comm]
  match i, h with
  | 0, _ => rfl
  | 1, _ => rfl
  | 2, _ => rfl
  | 3, _ => rfl
  | 4, _ => rfl
  | 5, _ => rfl
  | 6, _ => rfl
  | 7, _ => rfl
attribute [local go_sem] U_xor U_and U_or U_add U_add' u32_signed u32_max
set_option maxRecDepth 100000 in
set_option maxHeartbeats 4000000 in
theorem rblock_calls (v : V8) (b : List UInt8) (hb : b.length = 64) (w : World) : Calls Tryd.prog 40 #[.agg v.cells, .agg (b.map bcell).toArray] w fun e w' => e = .returned (.agg (block v b).cells) ∧ Below w.heap.size w w' := by
  obtain ⟨bv, hbv⟩ : ∃ bv, block v b = bv := ⟨_, rfl⟩
  have HBV := Aside0.mk hbv
  rw [hbv]
  clear hbv
  have hu53 := Tryd.underlying53
  have hu85 := Tryd.underlying85
  have hu70 := Tryd.underlying70
  have HB := Aside0.mk hb
  have CW := Aside0.mk (fun W => words_calls b hb W)
  clear hb
  obtain ⟨W1, hW1⟩ : ∃ W1, ((w.alloc (.cells v.cells 70)).alloc (.cells (barr b) 53)).alloc (.cells (V8.cells ⟨0, 0, 0, 0, 0, 0, 0, 0⟩) 70) = W1 := ⟨_, rfl⟩
  have a1 : ∀ (W : World) (o : Obj), (W.alloc o).heap.size = W.heap.size + 1 := fun W o => Array.size_push _
  have a2 : ∀ (W : World) (o : Obj) (k : Nat), k < W.heap.size → (W.alloc o).heap[k]? = W.heap[k]? := fun W o k hk => ((Below.refl W.heap.size W).alloc (Nat.le_refl _) o).block k hk
  have a3 : ∀ (W : World) (o : Obj) (k : Nat), k = W.heap.size → (W.alloc o).heap[k]? = some o := fun W o k hk => by rw [hk]; exact World.alloc_heap_new W o
  have HB1 : Aside0 (Below w.heap.size w W1 ∧ W1.heap.size = w.heap.size + 1 + 1 + 1) := ⟨by rw [← hW1]; exact ⟨(((Below.refl _ w).alloc (Nat.le_refl _) _).alloc (by simp only [a1]; omega) _).alloc (by simp only [a1]; omega) _, by simp only [a1]⟩⟩
  have HX1 : Aside0 (W1.heap[w.heap.size]? = some (.cells v.cells 70 (0, 0)) ∧ W1.heap[w.heap.size + 1]? = some (.cells (barr b) 53 (0, 0)) ∧ W1.heap[w.heap.size + 1 + 1]? = some (.cells (V8.cells ⟨0, 0, 0, 0, 0, 0, 0, 0⟩) 70 (0, 0))) := ⟨by
    rw [← hW1]
    refine ⟨?_, ?_, ?_⟩
    · rw [a2 _ _ _ (by simp only [a1]; omega), a2 _ _ _ (by simp only [a1]; omega), a3 _ _ _ rfl]
    · rw [a2 _ _ _ (by simp only [a1]; omega), a3 _ _ _ (by simp only [a1])]
    · rw [a3 _ _ _ (by simp only [a1])]⟩
  have A3 := Aside0.mk a3
  clear a1 a2 a3
  go_enter Tryd.func40, Tryd.ntmps40
  go_upto_region 1 with fail
  change Code.wp _ _ _ _ (((w.alloc (.cells v.cells 70)).alloc (.cells (barr b) 53)).alloc (.cells (V8.cells ⟨0, 0, 0, 0, 0, 0, 0, 0⟩) 70))
  rw [hW1]
  clear hW1
  go_wp2_with (first
    | ((with_reducible refine gate_dst (N := 10) rfl ?_); refine wpList_load_mid rfl 53 (.tmp 3) rfl (w.heap.size + 1) 0 rfl (b.map bcell) _ (range_row HX1.out.2.1) Tryd.underlying53 rfl (by rw [List.length_map, HB.out]; kernel_rfl) ?_)
    | (go_at_call 52; ((with_reducible refine (CW.out W1).mono ?_)); rintro e w2 ⟨rfl, hb2⟩; have HB2 := Aside0.mk hb2; clear hb2)
    | ((with_reducible refine gate_store (t := 85) (p := 5) rfl ?_); refine wpList_store_row' rfl 85 (.tmp 5) (.tmp 11) rfl w2.heap.size 85 (warr (List.replicate 64 0)) (warr (sched b)) rfl rfl (World.alloc_heap_new w2 _) (by rw [warr, List.size_toArray, List.length_map, sched_len]; kernel_rfl) (by rw [warr, warr, List.size_toArray, List.size_toArray, List.length_map, List.length_map, sched_len]; rfl) (all_oneCell_toArray fun u hu => by obtain ⟨y, _, rfl⟩ := List.mem_map.1 hu; rfl) ?_; intro w3 hw3; have HB3 : Aside0 (Below w2.heap.size w2 w3 ∧ w3.heap[w2.heap.size]? = some (.cells (warr (sched b)) 85 (0, 0))) := ⟨by rw [hw3]; exact ⟨below_setRow ((Below.refl _ _).alloc (Nat.le_refl _) _) (Nat.le_refl _) _, setRow_heap _ _ _ _ _ _ (World.alloc_heap_new w2 _)⟩⟩; clear hw3)
    | (go_at_call 53; ((with_reducible refine (constants_calls w3).mono ?_)); rintro e w4 ⟨rfl, hb4⟩; have HB4 := Aside0.mk hb4; clear hb4)
    | ((with_reducible refine gate_store (t := 85) (p := 6) rfl ?_); refine wpList_store_row' rfl 85 (.tmp 6) (.tmp 12) rfl w4.heap.size 85 (warr (List.replicate 64 0)) (warr K) rfl rfl (World.alloc_heap_new w4 _) (by kernel_rfl) (by kernel_rfl) (by kernel_rfl) ?_; intro w5 hw5; have HB5 : Aside0 (Below w4.heap.size w4 w5 ∧ w5.heap[w4.heap.size]? = some (.cells (warr K) 85 (0, 0))) := ⟨by rw [hw5]; exact ⟨below_setRow ((Below.refl _ _).alloc (Nat.le_refl _) _) (Nat.le_refl _) _, setRow_heap _ _ _ _ _ _ (World.alloc_heap_new w4 _)⟩⟩; clear hw5; have HV5 : Aside0 (w5.heap[w.heap.size]? = some (.cells v.cells 70 (0, 0))) := ⟨by have z1 := HB1.out.2; have z2 := HB2.out.size; have z3 := HB3.out.1.size; have z4 := HB4.out.size; rw [HB5.out.1.block _ (by omega), HB4.out.block _ (by omega), HB3.out.1.block _ (by omega), HB2.out.block _ (by omega)]; exact HX1.out.1⟩)
    | ((with_reducible refine gate_dst (N := 13) rfl ?_); refine wpList_load_mid rfl 70 (.tmp 2) rfl w.heap.size 0 rfl (v.words.map wcell) _ (range_row HV5.out) Tryd.underlying70 rfl (by kernel_rfl) ?_)
    | ((with_reducible refine gate_store (t := 70) (p := 7) rfl ?_); refine wpList_store_row' rfl 70 (.tmp 7) (.tmp 13) rfl w5.heap.size 70 (V8.cells ⟨0, 0, 0, 0, 0, 0, 0, 0⟩) (warr v.words) rfl rfl (World.alloc_heap_new w5 _) (by kernel_rfl) (by kernel_rfl) (by kernel_rfl) ?_; intro w6 hw6; have HB6 : Aside0 (Below w5.heap.size w5 w6 ∧ w6.heap[w5.heap.size]? = some (.cells (warr v.words) 70 (0, 0))) := ⟨by rw [hw6]; exact ⟨below_setRow ((Below.refl _ _).alloc (Nat.le_refl _) _) (Nat.le_refl _) _, setRow_heap _ _ _ _ _ _ (World.alloc_heap_new w5 _)⟩⟩; clear hw6))
  have HK0 : Aside0 (Rk w.heap.size w2.heap.size w4.heap.size w5.heap.size w w6 v (sched b) v.words) := ⟨by
    have z1 := HB1.out.2
    have z2 := HB2.out.size
    have z3 := HB3.out.1.size
    have z4 := HB4.out.size
    have z5 := HB5.out.1.size
    have z6 := HB6.out.1.size
    have l3 := (Array.getElem?_eq_some_iff.1 HB3.out.2).1
    have l5 := (Array.getElem?_eq_some_iff.1 HB5.out.2).1
    refine ⟨?_, ?_, ?_, ?_, HB6.out.2, by omega, by omega, by omega, ?_⟩
    · rw [HB6.out.1.block _ (by omega)]; exact HV5.out
    · rw [HB6.out.1.block _ (by omega), HB5.out.1.block _ (by omega), HB4.out.block _ (by omega), HB3.out.1.block _ (by omega), HB2.out.block _ (by omega)]; exact HX1.out.2.2
    · rw [HB6.out.1.block _ (by omega), HB5.out.1.block _ (by omega), HB4.out.block _ (by omega)]; exact HB3.out.2
    · rw [HB6.out.1.block _ (by omega)]; exact HB5.out.2
    · exact HB1.out.1.trans ((HB2.out.mono (by omega)).trans ((HB3.out.1.mono (by omega)).trans ((HB4.out.mono (by omega)).trans ((HB5.out.1.mono (by omega)).trans (HB6.out.1.mono (by omega))))))⟩
  obtain ⟨ws, hws⟩ : ∃ ws, sched b = ws := ⟨_, rfl⟩
  have HWS := Aside0.mk hws
  have HWL := Aside0.mk (show ws.length = 64 from by rw [← hws]; exact sched_len b)
  rw [hws] at HK0
  generalize w2.heap.size = p5 at HK0 ⊢
  generalize w4.heap.size = p6 at HK0 ⊢
  generalize w5.heap.size = p7 at HK0 ⊢
  clear hws HB1 HB2 HB3 HB4 HB5 HB6 HV5 HX1
  go_loopg [8] 64 (fun g v8 wx => ∃ i : Nat, i + g = 64 ∧ v8 = .int .i64 (i : Int) ∧ Aside0 (Rk w.heap.size p5 p6 p7 w wx v ws (rounds ws v i).words))
  case atStart => exact ⟨0, by omega, rfl, HK0⟩
  case round =>
    clear HK0
    obtain ⟨i, hig, rfl, HK⟩ := hrel
    cases gk with
    | zero =>
      have hi64 : i = 64 := by omega
      subst hi64
      obtain ⟨r, hr⟩ : ∃ r, rounds ws v 64 = r := ⟨_, rfl⟩
      have HRR := Aside0.mk (show bv = vadd v r from by rw [← HBV.out]; unfold block; rw [HWS.out, hr])
      rw [hr] at HK
      have HK1 : Aside0 (Rk w.heap.size p5 p6 p7 w wr v ws (mixw v r 0)) := HK
      clear HK hr
      go_wp2
      go_loopg [9] 8 (fun g v9 wx => ∃ i : Nat, i + g = 8 ∧ v9 = .int .i64 (i : Int) ∧ Aside0 (Rk w.heap.size p5 p6 p7 w wx v ws (mixw v r i)))
      case atStart => exact ⟨0, by omega, rfl, HK1⟩
      case round =>
        clear HK1
        obtain ⟨i, hig, rfl, HK⟩ := hrel
        cases gk with
        | zero =>
          have hi8 : i = 8 := by omega
          subst hi8
          have HK2 : Aside0 (Rk w.heap.size p5 p6 p7 w wr v ws bv.words) := ⟨by
            rw [HRR.out]
            exact HK.out⟩
          clear HK
          go_wp2_with (first
            | ((with_reducible refine gate_dst (N := 39) rfl ?_); refine wpList_load_mid rfl 70 (.tmp 7) rfl p7 0 rfl (bv.words.map wcell) _ (range_row HK2.out.xb) Tryd.underlying70 rfl (by kernel_rfl) ?_)
            | ((with_reducible refine gate_store (t := 70) (p := 4) rfl ?_); refine wpList_store_row' rfl 70 (.tmp 4) (.tmp 39) rfl (w.heap.size + 1 + 1) 70 (V8.cells ⟨0, 0, 0, 0, 0, 0, 0, 0⟩) (warr bv.words) rfl rfl HK2.out.rb (by kernel_rfl) (by kernel_rfl) (by kernel_rfl) ?_; intro w9 hw9; have HX9 : Aside0 (w9.heap[w.heap.size + 1 + 1]? = some (.cells (warr bv.words) 70 (0, 0))) := ⟨by rw [hw9]; exact setRow_heap _ _ _ _ _ _ HK2.out.rb⟩; have HB9 : Aside0 (Below w.heap.size w w9) := ⟨by rw [hw9]; exact below_setRow HK2.out.below (by omega) _⟩; clear hw9))
          exact bodyPost_ret (v := .agg bv.cells) (results_cell_row rfl _ _ (w.heap.size + 1 + 1) 70 bv.cells (0, 0) _ rfl HX9.out Tryd.underlying70 rfl (by kernel_rfl)) rfl ⟨rfl, HB9.out⟩
        | succ k1 =>
          have hi : i < 8 := by omega
          have d1 : decide ((i : Int) < 8) = true := decide_eq_true (by omega)
          have p9 : (0 ≤ (i : Int)) = True := eq_true (by omega)
          have q9 : ((i : Int) < 8) = True := eq_true (by omega)
          have HI := Aside0.mk hi
          go_wp2
          refine wp_region_still_tail 8 (by kernel_rfl) (by kernel_rfl) ?_
          change wpStill _ _ (World.drew wr) (fun a' => wpList _ _ _ _ a' (World.drew wr)) _ _
          have HK2 := Aside0.mk (HK.out.keep (below_drew (Below.refl _ wr)))
          generalize World.drew wr = w2_ at HK2 ⊢
          have y1 := word_at (i := i) HK2.out.xb (by rw [mixw_len _ _ _ (by omega)]; exact hi)
          rw [mixw_get v r i hi] at y1
          have y2 := word_at (i := i) (l := v.words) (show w2_.heap[w.heap.size]? = some (.cells (warr v.words) 70 (0, 0)) from HK2.out.hb) hi
          have y5 := fro_of HK2.out.xb i
          clear HK hi
          simp only [List.take_succ_cons, List.take_zero, List.drop_succ_cons, List.drop_zero]
          repeat still_step
          refine wpStill_nil ?_
          change wpList _ _ _ _ _ w2_
          go_wp2
          go_roundg k1
          case measure => omega
          case rel =>
            refine ⟨i + 1, by omega, by go_num, ⟨?_⟩⟩
            rw [← mixw_set v r i HI.out]
            exact HK2.out.set i _
    | succ k1 =>
      have hi : i < 64 := by omega
      have d1 : decide ((i : Int) < 64) = true := decide_eq_true (by omega)
      have p9 : (0 ≤ (i : Int)) = True := eq_true (by omega)
      have q9 : ((i : Int) < 64) = True := eq_true (by omega)
      obtain ⟨x, hx⟩ : ∃ x, rounds ws v i = x := ⟨_, rfl⟩
      obtain ⟨ci, hci⟩ : ∃ x, K.getD i 0 = x := ⟨_, rfl⟩
      obtain ⟨wi, hwi⟩ : ∃ x, ws.getD i 0 = x := ⟨_, rfl⟩
      have HNX := Aside0.mk (show rounds ws v (i + 1) = stepV x (ci + wi) from by rw [rounds, hx, hci, hwi, step_round])
      rw [hx] at HK
      go_wp2
      have HK2 := Aside0.mk (HK.out.keep (below_drew (Below.refl _ wr)))
      have g1 := word_at (i := i) HK2.out.kb hi
      have g2 := word_at (i := i) HK2.out.wb (by rw [HWL.out]; exact hi)
      rw [hci] at g1
      rw [hwi] at g2
      have HELD := Aside0.mk (show wr.drew.rangeAt p7 0 (x.words.map wcell) ∧ wr.drew.cell? ⟨p6, i, none⟩ = some (.int .u32 (U ci)) ∧ wr.drew.cell? ⟨p5, i, none⟩ = some (.int .u32 (U wi)) from ⟨range_row HK2.out.xb, g1, g2⟩)
      have HC := Aside0.mk (show Calls Tryd.prog 54 #[.agg (x.words.map wcell).toArray, .int .u32 (U (ci + wi))] wr.drew fun e w' => e = .returned (.agg (stepV x (ci + wi)).cells) ∧ Below wr.drew.heap.size wr.drew w' from step_calls x (ci + wi) wr.drew)
      obtain ⟨y, hy⟩ : ∃ y, stepV x (ci + wi) = y := ⟨_, rfl⟩
      rw [hy] at HC HNX
      clear g1 g2 hx hci hwi HK hy hi
      refine wp_region_but 9 (fun W => W.rangeAt p7 0 (x.words.map wcell) ∧ W.cell? ⟨p6, i, none⟩ = some (.int .u32 (U ci)) ∧ W.cell? ⟨p5, i, none⟩ = some (.int .u32 (U wi))) (by kernel_rfl) ?_
      refine wpAnyB_load (i := 0) rfl (by kernel_rfl) (by kernel_rfl) (by kernel_rfl) (by decide) (by kernel_rfl) (by kernel_rfl) (fun _ _ _ h => h) (yieldsIf_load_mid (by kernel_rfl) 70 (.tmp 7) rfl p7 0 rfl (x.words.map wcell) _ (fun w h => h.1) Tryd.underlying70 rfl (by kernel_rfl)) HELD.out ?_
      try simp only [Act.put, List.setIfInBounds_toArray, List.set_cons_zero, List.set_cons_succ]
      refine wpAnyB_take (i := 1) rfl (by kernel_rfl) (by kernel_rfl) (by kernel_rfl) (by decide) (fun _ _ _ h => h) (Or.inl ⟨by kernel_rfl, fun w _ => by go_simp <;> with_reducible rfl⟩) (fun _ => HELD.out) ?_
      try simp only [Act.put, List.setIfInBounds_toArray, List.set_cons_zero, List.set_cons_succ]
      refine wpAnyB_take (i := 2) rfl (by kernel_rfl) (by kernel_rfl) (by kernel_rfl) (by decide) (fun _ _ _ h => h) (Or.inl ⟨by kernel_rfl, fun w _ => by go_simp <;> with_reducible rfl⟩) (fun _ => HELD.out) ?_
      try simp only [Act.put, List.setIfInBounds_toArray, List.set_cons_zero, List.set_cons_succ]
      refine wpAnyB_load (i := 3) rfl (by kernel_rfl) (by kernel_rfl) (by kernel_rfl) (by decide) (by kernel_rfl) (by kernel_rfl) (fun _ _ _ h => h) (Or.inl ⟨by kernel_rfl, fun w hS => by obtain ⟨_, c1, c2⟩ := hS; go_simp <;> with_reducible rfl⟩) HELD.out ?_
      try simp only [Act.put, List.setIfInBounds_toArray, List.set_cons_zero, List.set_cons_succ]
      refine wpAnyB_take (i := 4) rfl (by kernel_rfl) (by kernel_rfl) (by kernel_rfl) (by decide) (fun _ _ _ h => h) (Or.inl ⟨by kernel_rfl, fun w _ => by go_simp <;> with_reducible rfl⟩) (fun _ => HELD.out) ?_
      try simp only [Act.put, List.setIfInBounds_toArray, List.set_cons_zero, List.set_cons_succ]
      refine wpAnyB_take (i := 5) rfl (by kernel_rfl) (by kernel_rfl) (by kernel_rfl) (by decide) (fun _ _ _ h => h) (Or.inl ⟨by kernel_rfl, fun w _ => by go_simp <;> with_reducible rfl⟩) (fun _ => HELD.out) ?_
      try simp only [Act.put, List.setIfInBounds_toArray, List.set_cons_zero, List.set_cons_succ]
      refine wpAnyB_load (i := 6) rfl (by kernel_rfl) (by kernel_rfl) (by kernel_rfl) (by decide) (by kernel_rfl) (by kernel_rfl) (fun _ _ _ h => h) (Or.inl ⟨by kernel_rfl, fun w hS => by obtain ⟨_, c1, c2⟩ := hS; go_simp <;> with_reducible rfl⟩) HELD.out ?_
      try simp only [Act.put, List.setIfInBounds_toArray, List.set_cons_zero, List.set_cons_succ]
      refine wpAnyB_take (i := 7) rfl (by kernel_rfl) (by kernel_rfl) (by kernel_rfl) (by decide) (fun _ _ _ h => h) (Or.inl ⟨by kernel_rfl, fun w _ => by go_simp <;> with_reducible rfl⟩) (fun _ => HELD.out) ?_
      try simp only [Act.put, List.setIfInBounds_toArray, List.set_cons_zero, List.set_cons_succ]
      refine wpAnyB_one (i := 8) rfl (by kernel_rfl) (fun K9 hK => ?_)
      rw [if_pos (by kernel_rfl)]
      go_simp
      with_reducible refine HC.out.mono ?_
      rintro e w4_ ⟨rfl, hb4⟩
      have HK4 := Aside0.mk (HK2.out.keep hb4)
      have HELD4 := Aside0.mk (show w4_.rangeAt p7 0 (x.words.map wcell) ∧ w4_.cell? ⟨p6, i, none⟩ = some (.int .u32 (U ci)) ∧ w4_.cell? ⟨p5, i, none⟩ = some (.int .u32 (U wi)) from ⟨range_row HK4.out.xb, by
        have z := HK2.out.lt; have z7 := HK2.out.o7; unfold World.cell?; rw [hb4.block _ (by show p6 < _; omega)]; exact HELD.out.2.1, by
        have z := HK2.out.lt; have z7 := HK2.out.o7; have z6 := HK2.out.o6; unfold World.cell?; rw [hb4.block _ (by show p5 < _; omega)]; exact HELD.out.2.2⟩)
      refine hK _ _ (fun _ => HELD4.out) ?_
      clear hK K9 HELD HC hb4
      try simp only [Act.put, List.setIfInBounds_toArray, List.set_cons_zero, List.set_cons_succ]
      refine wpAnyB_one (i := 9) rfl (by kernel_rfl) (fun K9 hK => ?_)
      rw [if_pos (by kernel_rfl)]
      refine wp_store_mid 70 (.tmp 7) (.tmp 26) rfl p7 0 y.cells rfl rfl (fun j hj => ⟨HELD4.out.1.isSome j hj, fro_of HK4.out.xb _⟩) (by kernel_rfl) (by kernel_rfl) ?_
      refine hK _ _ (fun h => Bool.noConfusion (h.symm.trans (show _ = true by kernel_rfl))) ?_
      have HK5 := Aside0.mk (HK4.out.put y rfl)
      generalize w4_.setCells p7 0 y.cells.toList = w5_ at HK5 ⊢
      refine wpAnyB_done (by kernel_rfl) ?_ _
      clear hK K9 HELD4 HK4 HK2
      try simp only [Act.put, List.setIfInBounds_toArray, List.set_cons_zero, List.set_cons_succ]
      go_wp2
      go_roundg k1
      case measure => omega
      case rel =>
        refine ⟨i + 1, by omega, by go_num, ⟨?_⟩⟩
        rw [HNX.out]
        exact HK5.out
end Go.Proofs.YtglhbbijoeeclaaDoor.Sha
/- The document's Pad is pad (plain). -/
namespace Go.Proofs.YtglhbbijoeeclaaDoor.Sha
open Go.RowKit Go.Proofs.YtglhbbijoeeclaaDoorW.PrintWords Go.Proofs.YtglhbbijoeeclaaDoorW.PrintLast Go.Proofs.YtglhbbijoeeclaaDoorW.PrintMore Go.Proofs.YtglhbbijoeeclaaDoor.Bytes Go.Proofs.YtglhbbijoeeclaaDoor.Q Go.Proofs.YtglhbbijoeeclaaDoor.Evs
set_option linter.unusedVariables false
set_option linter.unusedSimpArgs false
theorem nums_one (v : Int) : bs (strOfNums [v]) = [UInt8.ofNat v.toNat] := by
  unfold strOfNums bs
  simp
/-- The bytes of a number, the highest first. -/
def be8 (m : Nat) : Nat → List UInt8
  | 0 => []
  | d + 1 => UInt8.ofNat (nib m d).toNat :: be8 m d
theorem rpad_l1 (m : Nat) (hm : m < 18446744073709551616) (d : Nat) : ∀ (s : ByteArray), d ≤ 8 → (bs s).length + d ≤ 1000 → Ev (fun k => depotref01_Pad.l1 k s (m : Int) ((d : Int) - 1)) ⟨(bs s ++ be8 m d).toArray⟩ := by
  induction d with
  | zero =>
    intro s _ _
    refine succ ?_
    simp only [depotref01_Pad.l1]
    refine neg (by omega) (now (congrArg some ?_))
    apply bs_inj
    rw [be8, List.append_nil]
    exact (bs_mk (bs s)).symm
  | succ d ih =>
    intro s hd hl
    refine succ ?_
    simp only [depotref01_Pad.l1]
    have e0 : ((d + 1 : Nat) : Int) - 1 = (d : Int) := by omega
    have e1 : wrap64 (8 * (d : Int)) = ((8 * d : Nat) : Int) := by rw [w64 (by omega) (by omega)]; omega
    have e2 : IntKind.u64.wrap ((8 * d : Nat) : Int) = ((8 * d : Nat) : Int) := by rw [IntKind.wrap_u64]; omega
    have e3 : shr .u64 (m : Int) ((8 * d : Nat) : Int) = ((m / 2 ^ (8 * d) : Nat) : Int) := by
      unfold shr
      rw [Int.toNat_natCast, Nat.min_eq_left (by show 8 * d ≤ 64; omega), Int.natCast_ediv, Int.natCast_pow]
      rfl
    have hq : m / 2 ^ (8 * d) ≤ m := Nat.div_le_self _ _
    have e4 : Go.bits .and .u64 ((m / 2 ^ (8 * d) : Nat) : Int) 255 % 256 = nib m d := by
      rw [show (255 : Int) = ((255 : Nat) : Int) from rfl, u64_and_nat _ _ (by omega) (by omega)]
      unfold nib
      have := Nat.and_two_pow_sub_one_eq_mod (m / 2 ^ (8 * d)) 8
      rw [show (255 : Nat) = 2 ^ 8 - 1 from rfl, this]
      omega
    rw [e0, e1, e2, e3, e4]
    have hz : (strOfNums [nib m d]).size = 1 := by rw [size_bs, nums_one]; rfl
    refine pos (by omega) (pos (by omega) (call rfl (pos (by rw [hz, size_bs]; omega) ?_)))
    have ew : wrap64 ((d : Int) - 1) = (d : Int) - 1 := w64 (by omega) (by omega)
    rw [ew]
    have h := ih (s ++ strOfNums [nib m d]) (by omega) (by rw [bs_append, List.length_append, nums_one, List.length_singleton]; omega)
    rw [bs_append, nums_one, List.append_assoc] at h
    exact h
theorem rpad_l0 (n z : Nat) (hn : n < 1152921504606846976) (hz : z = (119 - n % 64) % 64) (d : Nat) : ∀ j, j + d = z → Ev (fun k => depotref01_Pad.l0 k (n : Int) ⟨(128 :: List.replicate j 0).toArray⟩) ⟨((128 :: List.replicate z 0) ++ be8 (n * 8) 8).toArray⟩ := by
  have ht : ∀ j, j ≤ 64 → Int.tmod (wrap64 (Int.tmod (n : Int) 64 + (((⟨(128 :: List.replicate j 0).toArray⟩ : ByteArray).size : Nat) : Int))) 64 = (((n % 64 + 1 + j) % 64 : Nat) : Int) := by
    intro j hj
    have t1 : Int.tmod (n : Int) 64 = ((n % 64 : Nat) : Int) := rfl
    have hsz : (⟨(128 :: List.replicate j 0).toArray⟩ : ByteArray).size = j + 1 := by rw [size_bs, bs_mk, List.length_cons, List.length_replicate]
    rw [t1, hsz, w64 (by omega) (by omega), show ((n % 64 : Nat) : Int) + ((j + 1 : Nat) : Int) = ((n % 64 + 1 + j : Nat) : Int) from by omega]
    rfl
  induction d with
  | zero =>
    intro j hj
    obtain rfl : j = z := by omega
    refine succ ?_
    simp only [depotref01_Pad.l0]
    rw [ht j (by omega)]
    refine pos (by omega) ?_
    have e1 : IntKind.u64.wrap (n : Int) = (n : Int) := by rw [IntKind.wrap_u64]; omega
    have e2 : IntKind.u64.wrap ((n : Int) * 8) = ((n * 8 : Nat) : Int) := by rw [IntKind.wrap_u64]; omega
    rw [e1, e2]
    have h := rpad_l1 (n * 8) (by omega) 8 ⟨(128 :: List.replicate j 0).toArray⟩ (by omega) (by rw [bs_mk, List.length_cons, List.length_replicate]; omega)
    rw [bs_mk] at h
    exact h
  | succ d ih =>
    intro j hj
    refine succ ?_
    simp only [depotref01_Pad.l0]
    rw [ht j (by omega)]
    refine neg (by omega) (pos (by rw [size_bs, bs_mk, List.length_cons, List.length_replicate]; omega) ?_)
    have e : (⟨(128 :: List.replicate j 0).toArray⟩ : ByteArray) ++ (⟨#[0]⟩ : ByteArray) = ⟨(128 :: List.replicate (j + 1) 0).toArray⟩ := by
      apply bs_inj
      rw [bs_append, bs_mk, bs_mk, List.replicate_succ', List.cons_append]
      rfl
    rw [e]
    exact ih (j + 1) (by omega)
theorem rpad (n : Nat) (hn : n < 1152921504606846976) : Ev (fun k => depotref01_Pad.f k (n : Int)) ⟨(pad n).toArray⟩ := by
  unfold depotref01_Pad.f
  refine neg (by omega) ?_
  have h := rpad_l0 n _ hn rfl ((119 - n % 64) % 64) 0 (by omega)
  have e : (128 :: List.replicate ((119 - n % 64) % 64) 0) ++ be8 (n * 8) 8 = pad n := by
    unfold pad be8 be8 be8 be8 be8 be8 be8 be8 be8
    rw [nib_byte (n * 8) 7 72057594037927936 rfl, nib_byte (n * 8) 6 281474976710656 rfl, nib_byte (n * 8) 5 1099511627776 rfl, nib_byte (n * 8) 4 4294967296 rfl, nib_byte (n * 8) 3 16777216 rfl, nib_byte (n * 8) 2 65536 rfl, nib_byte (n * 8) 1 256 rfl, nib_byte (n * 8) 0 1 rfl, Nat.div_one]
    rfl
  rw [e] at h
  exact h
end Go.Proofs.YtglhbbijoeeclaaDoor.Sha
/- The document's SHA-256: Of. -/
namespace Go.Proofs.YtglhbbijoeeclaaDoor.Sha
open Go.RowKit Go.Proofs.YtglhbbijoeeclaaDoor.Q Go.Proofs.YtglhbbijoeeclaaDoorW.PrintWords Go.Proofs.YtglhbbijoeeclaaDoorW.PrintLast Go.Proofs.YtglhbbijoeeclaaDoorW.PrintMore Go.Proofs.YtglhbbijoeeclaaDoor.Bytes
set_option linter.unusedVariables false
set_option linter.unusedSimpArgs false
/-- The block at work: i bytes of a list, then noughts. -/
def part (l : List UInt8) (i : Nat) : List UInt8 := l.take i ++ List.replicate (64 - i) 0
theorem part_len (l : List UInt8) (i : Nat) (hi : i ≤ 64) (hl : i ≤ l.length) : (part l i).length = 64 := by
  rw [part, List.length_append, List.length_take, List.length_replicate]
  omega
theorem part_set (l : List UInt8) (i : Nat) (hi : i < 64) (hl : i < l.length) : (part l i).set i (l[i]) = part l (i + 1) := by
  unfold part
  have ht : (l.take i).length = i := by rw [List.length_take]; omega
  obtain ⟨m, hm⟩ : ∃ m, 64 - i = m + 1 := ⟨63 - i, by omega⟩
  rw [List.set_append_right _ _ (by omega), ht, Nat.sub_self, hm, show 64 - (i + 1) = m from by omega, List.replicate_succ, List.set_cons_zero, List.take_succ_eq_append_getElem hl, List.append_assoc]
  rfl
theorem part_zero (l : List UInt8) : part l 0 = List.replicate 64 0 := by simp [part]
theorem part_all (l : List UInt8) : part l 64 = l.take 64 := by simp [part]
/-- The digest at work. -/
def dpart (l : List UInt8) (i : Nat) : List UInt8 := l.take i ++ List.replicate (32 - i) 0
theorem dpart_len (l : List UInt8) (i : Nat) (hi : i ≤ 32) (hl : i ≤ l.length) : (dpart l i).length = 32 := by
  rw [dpart, List.length_append, List.length_take, List.length_replicate]
  omega
theorem dpart_set (l : List UInt8) (i : Nat) (hi : i < 32) (hl : i < l.length) : (dpart l i).set i (l[i]) = dpart l (i + 1) := by
  unfold dpart
  have ht : (l.take i).length = i := by rw [List.length_take]; omega
  obtain ⟨m, hm⟩ : ∃ m, 32 - i = m + 1 := ⟨31 - i, by omega⟩
  rw [List.set_append_right _ _ (by omega), ht, Nat.sub_self, hm, show 32 - (i + 1) = m from by omega, List.replicate_succ, List.set_cons_zero, List.take_succ_eq_append_getElem hl, List.append_assoc]
  rfl
theorem dpart_next (l : List UInt8) (i : Nat) (hi : i < 32) (z : UInt8) (hz : l[i]? = some z) : (dpart l i).set i z = dpart l (i + 1) := by
  obtain ⟨hl, e⟩ := List.getElem?_eq_some_iff.1 hz
  rw [← e]
  exact dpart_set l i hi hl
theorem digest_at (v : V8) (c : Nat) (hc : c < 8) : (digest v)[4 * c]? = some (UInt8.ofNat ((v.words.getD c 0).toNat >>> 24)) ∧ (digest v)[4 * c + 1]? = some (UInt8.ofNat ((v.words.getD c 0).toNat >>> 16)) ∧ (digest v)[4 * c + 2]? = some (UInt8.ofNat ((v.words.getD c 0).toNat >>> 8)) ∧ (digest v)[4 * c + 3]? = some (UInt8.ofNat (v.words.getD c 0).toNat) := by
  match c, hc with
  | 0, _ => exact ⟨rfl, rfl, rfl, rfl⟩
  | 1, _ => exact ⟨rfl, rfl, rfl, rfl⟩
  | 2, _ => exact ⟨rfl, rfl, rfl, rfl⟩
  | 3, _ => exact ⟨rfl, rfl, rfl, rfl⟩
  | 4, _ => exact ⟨rfl, rfl, rfl, rfl⟩
  | 5, _ => exact ⟨rfl, rfl, rfl, rfl⟩
  | 6, _ => exact ⟨rfl, rfl, rfl, rfl⟩
  | 7, _ => exact ⟨rfl, rfl, rfl, rfl⟩
theorem dpart_zero (l : List UInt8) : dpart l 0 = List.replicate 32 0 := by simp [dpart]
theorem blocks_step (h : V8) (l : List UInt8) (q : Nat) (hq : 64 * q + 64 ≤ l.length) : block (blocks h (l.take (64 * q))) ((l.drop (64 * q)).take 64) = blocks h (l.take (64 * (q + 1))) := by
  rw [show 64 * (q + 1) = 64 * q + 64 from by omega, List.take_add, blocks_end h _ _ (by rw [List.length_take]; omega) (by rw [List.length_take, List.length_drop]; omega)]
attribute [local go_sem] U_shr8 U_shr16 U_shr24 U_byte U_byte' u32_signed u32_max
set_option maxRecDepth 100000 in
set_option maxHeartbeats 4000000 in
theorem rof_calls (t : ByteArray) (w : World) (hn : t.size < 1000000000000) : Calls Tryd.prog 23 #[.string t] w fun e w' => e = .returned (.agg ((of t.data.toList).map bcell).toArray) ∧ Below w.heap.size w w' := by
  have HR23 : Aside0 ((Tryd.prog.info? 23).map (·.size) = some 32) := ⟨by kernel_rfl⟩
  obtain ⟨O, hO⟩ : ∃ O, of t.data.toList = O := ⟨_, rfl⟩
  obtain ⟨k, hk⟩ := rpad t.size (by omega)
  have CP := Aside0.mk (fun W => depotref01_Pad.calls k (t.size : Int) _ W (hk k (Nat.le_refl _)))
  obtain ⟨pd, hpd⟩ : ∃ pd : ByteArray, (⟨(pad t.size).toArray⟩ : ByteArray) = pd := ⟨_, rfl⟩
  have hps : pd.size = (pad t.size).length := by rw [← hpd, size_bs, bs_mk]
  have hpl := pad_len t.size
  have hpw := pad_whole t.size
  rw [hpd] at CP
  have s1 : (t.size + pd.size ≤ 9223372036854775807) = True := eq_true (by omega)
  have s2 : ((t.size : Int) + (pd.size : Int) ≤ 9223372036854775807) = True := eq_true (by omega)
  have s3 : (9223372036854775807 < t.size + pd.size) = False := eq_false (by omega)
  obtain ⟨L, hL⟩ : ∃ L, bs (t ++ pd) = L := ⟨_, rfl⟩
  have hLl : L.length = t.size + pd.size := by rw [← hL, bs_append, List.length_append, ← size_bs, ← size_bs]
  have HO : Aside0 (digest (blocks H0 L) = O) := ⟨by
    rw [← hO, ← hL, bs_append, ← hpd, bs_mk]
    unfold of
    rw [show t.data.toList.length = t.size from (Lib.size_eq t).symm]
    rfl⟩
  obtain ⟨Q, hQ⟩ : ∃ Q, L.length = 64 * Q := ⟨L.length / 64, by omega⟩
  have hQB : 64 * Q < 2000000000000 := by omega
  have HOL := Aside0.mk (show O.length = 32 from by rw [← hO]; exact of_len _)
  rw [hO]
  have HB1 := Aside0.mk ((Below.refl w.heap.size w).alloc (Nat.le_refl _) (.cells (List.replicate 32 (Value.int .u8 0)).toArray 23))
  have HX1 := Aside0.mk (World.alloc_heap_new w (.cells (List.replicate 32 (Value.int .u8 0)).toArray 23))
  have HL := Aside0.mk hL
  clear hO hk hpd hL hps hpl hpw
  go_enter Tryd.func23, Tryd.ntmps23
  go_wp2_with (first
    | (go_at_call 38; ((with_reducible refine (CP.out _).mono ?_)); rintro e w2 ⟨rfl, hb2⟩; have HB2 := Aside0.mk (HB1.out.trans (hb2.mono HB1.out.size)); have HX2 := Aside0.mk ((hb2.block _ (Array.getElem?_eq_some_iff.1 HX1.out).1).trans HX1.out); clear hb2)
    | (go_at_call 39; ((with_reducible refine (start_calls w2).mono ?_)); rintro e w3 ⟨rfl, hb3⟩; have HB3 := Aside0.mk (HB2.out.trans (hb3.mono HB2.out.size)); have HX3 := Aside0.mk ((hb3.block _ (Array.getElem?_eq_some_iff.1 HX2.out).1).trans HX2.out); clear hb3)
    | ((with_reducible refine gate_store (t := 70) (p := 4) rfl ?_); refine wpList_store_row' rfl 70 (.tmp 4) (.tmp 15) rfl w3.heap.size 70 (V8.cells ⟨0, 0, 0, 0, 0, 0, 0, 0⟩) H0.cells rfl rfl (World.alloc_heap_new w3 _) (by kernel_rfl) (by kernel_rfl) (by kernel_rfl) ?_; intro w4 hw4; have HB4 : Aside0 (Below w3.heap.size w3 w4 ∧ w4.heap[w3.heap.size]? = some (.cells H0.cells 70 (0, 0))) := ⟨by rw [hw4]; exact ⟨below_setRow ((Below.refl _ _).alloc (Nat.le_refl _) _) (Nat.le_refl _) _, setRow_heap _ _ _ _ _ _ (World.alloc_heap_new w3 _)⟩⟩; clear hw4))
  have HP4 : Aside0 (w.heap.size < w3.heap.size) := ⟨(Array.getElem?_eq_some_iff.1 HX3.out).1⟩
  have HX4 : Aside0 (w4.heap[w.heap.size]? = some (.cells (List.replicate 32 (Value.int .u8 0)).toArray 23 (0, 0))) := ⟨(HB4.out.1.block _ HP4.out).trans HX3.out⟩
  have HV4 := Aside0.mk (show w4.heap[w3.heap.size]? = some (.cells (blocks H0 (L.take (64 * 0))).cells 70 (0, 0)) from by rw [Nat.mul_zero, List.take_zero, blocks_few H0 [] (by decide)]; exact HB4.out.2)
  have HBB4 := Aside0.mk (HB3.out.trans (HB4.out.1.mono HB3.out.size))
  clear HB1 HB2 HB3 HB4 HX1 HX2 HX3
  generalize w3.heap.size = p4 at HP4 HV4 ⊢
  obtain ⟨m, hm⟩ : ∃ m, t ++ pd = m := ⟨_, rfl⟩
  rw [hm]
  have HLM : Aside0 (bs m = L) := ⟨by rw [← hm]; exact HL.out⟩
  have hmz : m.size = 64 * Q := by rw [size_bs, HLM.out]; exact hQ
  clear hm s1 s2 s3 HL hLl
  go_loopg [5] Q (fun g v5 wx => ∃ q : Nat, q + g = Q ∧ v5 = .int .i64 ((64 * q : Nat) : Int) ∧ Aside0 (wx.heap[p4]? = some (.cells (blocks H0 (L.take (64 * q))).cells 70 (0, 0))) ∧ Aside0 (Below w.heap.size w wx) ∧ Aside0 (wx.heap[w.heap.size]? = some (.cells (List.replicate 32 (Value.int .u8 0)).toArray 23 (0, 0))))
  case atStart => exact ⟨0, by omega, rfl, HV4, HBB4, HX4⟩
  case round =>
    clear HV4 HBB4 HX4
    obtain ⟨q, hqg, rfl, HV, HBW, HX⟩ := hrel
    cases gk with
    | zero =>
      obtain rfl : q = Q := by omega
      rw [List.take_of_length_le (by omega)] at HV
      have d1 : decide (((64 * q : Nat) : Int) < (m.size : Int)) = false := decide_eq_false (by omega)
      obtain ⟨v, hv⟩ : ∃ v, blocks H0 L = v := ⟨_, rfl⟩
      rw [hv] at HV HO
      clear hv
      have HA1 := Aside0.mk (World.alloc_heap_new wr (.cells ((dpart O 0).map bcell).toArray 23))
      have HA2 := Aside0.mk (HBW.out.alloc HBW.out.size (.cells ((dpart O 0).map bcell).toArray 23))
      have HP6 : Aside0 (p4 < wr.heap.size) := ⟨(Array.getElem?_eq_some_iff.1 HV.out).1⟩
      have HA3 := Aside0.mk ((((Below.refl _ wr).alloc (Nat.le_refl _) (.cells ((dpart O 0).map bcell).toArray 23)).block p4 HP6.out).trans HV.out)
      have HA4 := Aside0.mk ((((Below.refl _ wr).alloc (Nat.le_refl _) (.cells ((dpart O 0).map bcell).toArray 23)).block w.heap.size (Nat.lt_trans HP4.out HP6.out)).trans HX.out)
      have e0 : (List.replicate 32 (Value.int .u8 0)).toArray = ((dpart O 0).map bcell).toArray := by rw [dpart_zero]; rfl
      clear HV HBW HX
      go_upto_block 4 with fail
      change Code.wp _ _ _ _ (wr.alloc (.cells (List.replicate 32 (Value.int .u8 0)).toArray 23))
      rw [e0]
      clear e0
      generalize wr.alloc (.cells ((dpart O 0).map bcell).toArray 23) = w5 at HA1 HA2 HA3 HA4 ⊢
      generalize wr.heap.size = p6 at HA1 HP6 ⊢
      go_wp2
      go_loopg [9] 32 (fun g v9 wx => ∃ i : Nat, i + g = 32 ∧ v9 = .int .i64 (i : Int) ∧ Aside0 (wx.heap[p6]? = some (.cells ((dpart O i).map bcell).toArray 23 (0, 0))) ∧ Aside0 (wx.heap[p4]? = some (.cells v.cells 70 (0, 0))) ∧ Aside0 (Below w.heap.size w wx) ∧ Aside0 (wx.heap[w.heap.size]? = some (.cells (List.replicate 32 (Value.int .u8 0)).toArray 23 (0, 0))))
      case atStart => exact ⟨0, by omega, rfl, HA1, HA3, HA2, HA4⟩
      case round =>
        clear HA1 HA2 HA3 HA4
        obtain ⟨i, hig, rfl, HP, HV, HBW, HX⟩ := hrel
        cases gk with
        | zero =>
          obtain rfl : i = 32 := by omega
          have d2 : decide ((32 : Int) < 32) = false := by decide
          have eO : dpart O 32 = O := by rw [dpart, Nat.sub_self, List.take_of_length_le (by rw [HOL.out]; omega)]; simp
          rw [eO] at HP
          go_wp2_with (first
            | ((with_reducible refine gate_dst (N := 53) rfl ?_); refine wpList_load_mid rfl 23 (.tmp 8) rfl p6 0 rfl (O.map bcell) _ (range_row HP.out) Tryd.underlying23 rfl (by rw [List.length_map, HOL.out]; exact HR23.out) ?_)
            | ((with_reducible refine gate_store (t := 23) (p := 2) rfl ?_); refine wpList_store_row' rfl 23 (.tmp 2) (.tmp 53) rfl w.heap.size 23 _ (O.map bcell).toArray rfl rfl HX.out (by rw [List.size_toArray, List.length_map, HOL.out]; exact HR23.out) (by rw [List.size_toArray, List.size_toArray, List.length_map, HOL.out]; rfl) (all_oneCell_toArray fun u hu => by obtain ⟨y, _, rfl⟩ := List.mem_map.1 hu; rfl) ?_; intro w9 hw9; have HX9 : Aside0 (w9.heap[w.heap.size]? = some (.cells (O.map bcell).toArray 23 (0, 0))) := ⟨by rw [hw9]; exact setRow_heap _ _ _ _ _ _ HX.out⟩; have HB9 : Aside0 (Below w.heap.size w w9) := ⟨by rw [hw9]; exact below_setRow HBW.out (Nat.le_refl _) _⟩; clear hw9))
          exact bodyPost_ret (v := .agg (O.map bcell).toArray) (results_cell_row rfl _ _ w.heap.size 23 (O.map bcell).toArray (0, 0) _ rfl HX9.out Tryd.underlying23 rfl (by rw [List.size_toArray, List.length_map, HOL.out]; exact HR23.out)) rfl ⟨rfl, HB9.out⟩
        | succ k2 =>
          have hi : i < 32 := by omega
          have d2 : decide ((i : Int) < 32) = true := decide_eq_true (by omega)
          have p9 : (0 ≤ (i : Int)) = True := eq_true (by omega)
          have q9 : ((i : Int) < 32) = True := eq_true (by omega)
          obtain ⟨c, hc⟩ : ∃ c, i / 4 = c := ⟨_, rfl⟩
          have hc8 : c < 8 := by omega
          have g1 := word_at (i := c) (l := v.words) (show wr.heap[p4]? = some (.cells (warr v.words) 70 (0, 0)) from HV.out) hc8
          obtain ⟨x, hx⟩ : ∃ x, v.words.getD c 0 = x := ⟨_, rfl⟩
          rw [hx] at g1
          have y0 : wr.cell? ⟨p6, i, none⟩ = some (.int .u8 (B ((dpart O i).getD i 0))) := by
            have hl := dpart_len O i (by omega) (by rw [HOL.out]; omega)
            simp [World.cell?, HP.out, List.getElem?_map, List.getElem?_eq_getElem (show i < (dpart O i).length by omega), List.getD_eq_getElem?_getD, bcell]
          have fz : wr.frozen? ⟨p6, i, none⟩ = false := by simp [World.frozen?, HP.out]
          have HIO : Aside0 (O.length = 32 ∧ digest v = O) := ⟨HOL.out, HO.out⟩
          have pc : (0 ≤ (c : Int)) = True := eq_true (by omega)
          have qc : ((c : Int) < 8) = True := eq_true (by omega)
          have et1 : Int.tdiv (i : Int) 4 = (c : Int) := by rw [← hc]; rfl
          have hr : i % 4 = 0 ∨ i % 4 = 1 ∨ i % 4 = 2 ∨ i % 4 = 3 := by omega
          have HC := Aside0.mk hc
          have HXX := Aside0.mk hx
          clear hc hx
          rcases hr with hr | hr | hr | hr
          · have et2 : Int.tmod (i : Int) 4 = 0 := by show ((i % 4 : Nat) : Int) = 0; omega
            go_wp2
            go_roundg k2
            case measure => omega
            case rel =>
              have n1 : p4 ≠ p6 := by have := HP6.out; omega
              have n2 : w.heap.size ≠ p6 := by have := HP6.out; have := HP4.out; omega
              refine ⟨i + 1, by omega, by go_num, ⟨?_⟩, ⟨(Below.heap_setCell _ _ _ _ n1).trans HV.out⟩, ⟨below_set HBW.out _ _ (by have := HP6.out; have := HP4.out; show w.heap.size ≤ p6; omega)⟩, ⟨(Below.heap_setCell _ _ _ _ n2).trans HX.out⟩⟩
              rw [← dpart_next O i hi _ (by rw [← HIO.out.2, show i = 4 * c from by have := HC.out; omega]; exact (digest_at v c hc8).1)]
              rw [HXX.out]
              exact bset HP.out i _
          · have et2 : Int.tmod (i : Int) 4 = 1 := by show ((i % 4 : Nat) : Int) = 1; omega
            go_wp2
            go_roundg k2
            case measure => omega
            case rel =>
              have n1 : p4 ≠ p6 := by have := HP6.out; omega
              have n2 : w.heap.size ≠ p6 := by have := HP6.out; have := HP4.out; omega
              refine ⟨i + 1, by omega, by go_num, ⟨?_⟩, ⟨(Below.heap_setCell _ _ _ _ n1).trans HV.out⟩, ⟨below_set HBW.out _ _ (by have := HP6.out; have := HP4.out; show w.heap.size ≤ p6; omega)⟩, ⟨(Below.heap_setCell _ _ _ _ n2).trans HX.out⟩⟩
              rw [← dpart_next O i hi _ (by rw [← HIO.out.2, show i = 4 * c + 1 from by have := HC.out; omega]; exact (digest_at v c hc8).2.1)]
              rw [HXX.out]
              exact bset HP.out i _
          · have et2 : Int.tmod (i : Int) 4 = 2 := by show ((i % 4 : Nat) : Int) = 2; omega
            go_wp2
            go_roundg k2
            case measure => omega
            case rel =>
              have n1 : p4 ≠ p6 := by have := HP6.out; omega
              have n2 : w.heap.size ≠ p6 := by have := HP6.out; have := HP4.out; omega
              refine ⟨i + 1, by omega, by go_num, ⟨?_⟩, ⟨(Below.heap_setCell _ _ _ _ n1).trans HV.out⟩, ⟨below_set HBW.out _ _ (by have := HP6.out; have := HP4.out; show w.heap.size ≤ p6; omega)⟩, ⟨(Below.heap_setCell _ _ _ _ n2).trans HX.out⟩⟩
              rw [← dpart_next O i hi _ (by rw [← HIO.out.2, show i = 4 * c + 2 from by have := HC.out; omega]; exact (digest_at v c hc8).2.2.1)]
              rw [HXX.out]
              exact bset HP.out i _
          · have et2 : Int.tmod (i : Int) 4 = 3 := by show ((i % 4 : Nat) : Int) = 3; omega
            go_wp2
            go_roundg k2
            case measure => omega
            case rel =>
              have n1 : p4 ≠ p6 := by have := HP6.out; omega
              have n2 : w.heap.size ≠ p6 := by have := HP6.out; have := HP4.out; omega
              refine ⟨i + 1, by omega, by go_num, ⟨?_⟩, ⟨(Below.heap_setCell _ _ _ _ n1).trans HV.out⟩, ⟨below_set HBW.out _ _ (by have := HP6.out; have := HP4.out; show w.heap.size ≤ p6; omega)⟩, ⟨(Below.heap_setCell _ _ _ _ n2).trans HX.out⟩⟩
              rw [← dpart_next O i hi _ (by rw [← HIO.out.2, show i = 4 * c + 3 from by have := HC.out; omega]; exact (digest_at v c hc8).2.2.2)]
              rw [HXX.out]
              exact bset HP.out i _
    | succ k1 =>
      have d1 : decide (((64 * q : Nat) : Int) < (m.size : Int)) = true := decide_eq_true (by omega)
      obtain ⟨D, hD⟩ : ∃ D, L.drop (64 * q) = D := ⟨_, rfl⟩
      have hDl : 64 ≤ D.length := by rw [← hD, List.length_drop]; omega
      obtain ⟨h, hh⟩ : ∃ h, blocks H0 (L.take (64 * q)) = h := ⟨_, rfl⟩
      have HN := Aside0.mk (show block h (part D 64) = blocks H0 (L.take (64 * (q + 1))) from by rw [part_all, ← hh, ← hD]; exact blocks_step H0 L q (by omega))
      rw [hh] at HV
      have HA1 := Aside0.mk (World.alloc_heap_new wr (.cells ((part D 0).map bcell).toArray 53))
      have HA2 := Aside0.mk (HBW.out.alloc HBW.out.size (.cells ((part D 0).map bcell).toArray 53))
      have HP6 : Aside0 (p4 < wr.heap.size) := ⟨(Array.getElem?_eq_some_iff.1 HV.out).1⟩
      have HA3 := Aside0.mk ((((Below.refl _ wr).alloc (Nat.le_refl _) (.cells ((part D 0).map bcell).toArray 53)).block p4 HP6.out).trans HV.out)
      have HA4 := Aside0.mk ((((Below.refl _ wr).alloc (Nat.le_refl _) (.cells ((part D 0).map bcell).toArray 53)).block w.heap.size (Nat.lt_trans HP4.out HP6.out)).trans HX.out)
      have e0 : (List.replicate 64 (Value.int .u8 0)).toArray = ((part D 0).map bcell).toArray := by rw [part_zero]; rfl
      have HEL := Aside0.mk (show ∀ j, j < 64 → L[64 * q + j]? = D[j]? from fun j hj => by rw [← hD, List.getElem?_drop])
      clear hD hh HV HBW HX
      go_upto_block 2 with fail
      change Code.wp _ _ _ _ (wr.alloc (.cells (List.replicate 64 (Value.int .u8 0)).toArray 53))
      rw [e0]
      clear e0
      generalize wr.alloc (.cells ((part D 0).map bcell).toArray 53) = w5 at HA1 HA2 HA3 HA4 ⊢
      generalize wr.heap.size = p6 at HA1 HP6 ⊢
      go_wp2
      go_loopg [7] 64 (fun g v7 wx => ∃ j : Nat, j + g = 64 ∧ v7 = .int .i64 (j : Int) ∧ Aside0 (wx.heap[p6]? = some (.cells ((part D j).map bcell).toArray 53 (0, 0))) ∧ Aside0 (wx.heap[p4]? = some (.cells h.cells 70 (0, 0))) ∧ Aside0 (Below w.heap.size w wx) ∧ Aside0 (wx.heap[w.heap.size]? = some (.cells (List.replicate 32 (Value.int .u8 0)).toArray 23 (0, 0))))
      case atStart => exact ⟨0, by omega, rfl, HA1, HA3, HA2, HA4⟩
      case round =>
        clear HA1 HA2 HA3 HA4
        obtain ⟨j, hjg, rfl, HP, HV, HBW, HX⟩ := hrel
        cases gk with
        | zero =>
          obtain rfl : j = 64 := by omega
          have HPL := Aside0.mk (part_len D 64 (Nat.le_refl _) hDl)
          obtain ⟨pb, hpb⟩ : ∃ pb, part D 64 = pb := ⟨_, rfl⟩
          rw [hpb] at HP HN HPL
          clear hpb
          have d2 : decide ((64 : Int) < 64) = false := by decide
          obtain ⟨y, hy⟩ : ∃ y, block h pb = y := ⟨_, rfl⟩
          have CB := Aside0.mk (rblock_calls h pb HPL.out wr)
          rw [hy] at CB HN
          clear hy
          go_wp2_with (first
            | ((with_reducible refine gate_dst (N := 33) rfl ?_); refine wpList_load_mid rfl 70 (.tmp 4) rfl p4 0 rfl (h.words.map wcell) _ (range_row HV.out) Tryd.underlying70 rfl (by kernel_rfl) ?_)
            | ((with_reducible refine gate_dst (N := 34) rfl ?_); refine wpList_load_mid rfl 53 (.tmp 6) rfl p6 0 rfl (pb.map bcell) _ (range_row HP.out) Tryd.underlying53 rfl (by rw [List.length_map, HPL.out]; kernel_rfl) ?_)
            | (go_at_call 40; refine Calls.mono (show Calls Tryd.prog 40 #[.agg (h.words.map wcell).toArray, .agg (pb.map bcell).toArray] wr _ from CB.out) ?_; rintro e w6 ⟨rfl, hb6⟩; have HB6 := Aside0.mk (HBW.out.trans (hb6.mono HBW.out.size)); have HX6 := Aside0.mk ((hb6.block _ (Array.getElem?_eq_some_iff.1 HX.out).1).trans HX.out); have HV6 := Aside0.mk ((hb6.block _ (Array.getElem?_eq_some_iff.1 HV.out).1).trans HV.out); clear hb6)
            | ((with_reducible refine gate_store (t := 70) (p := 4) rfl ?_); refine wpList_store_row' rfl 70 (.tmp 4) (.tmp 35) rfl p4 70 h.cells y.cells rfl rfl HV6.out (by kernel_rfl) (by kernel_rfl) (by kernel_rfl) ?_; intro w7 hw7; have HV7 : Aside0 (w7.heap[p4]? = some (.cells y.cells 70 (0, 0))) := ⟨by rw [hw7]; exact setRow_heap _ _ _ _ _ _ HV6.out⟩; have HB7 : Aside0 (Below w.heap.size w w7) := ⟨by rw [hw7]; exact below_setRow HB6.out (Nat.le_of_lt HP4.out) _⟩; have HX7 : Aside0 (w7.heap[w.heap.size]? = some (.cells (List.replicate 32 (Value.int .u8 0)).toArray 23 (0, 0))) := ⟨by rw [hw7]; exact (setRow_other _ _ _ _ (Nat.ne_of_lt HP4.out)).trans HX6.out⟩; clear hw7))
          go_roundg k1
          case measure => omega
          case rel =>
            refine ⟨q + 1, by omega, by first | rfl | go_num | (congr 1; omega), ⟨?_⟩, HB7, HX7⟩
            rw [← HN.out]
            exact HV7.out
        | succ k2 =>
          have hj : j < 64 := by omega
          have d2 : decide ((j : Int) < 64) = true := decide_eq_true (by omega)
          have p9 : (0 ≤ (j : Int)) = True := eq_true (by omega)
          have q9 : ((j : Int) < 64) = True := eq_true (by omega)
          have ew : wrap64 (64 * (q : Int) + (j : Int)) = 64 * (q : Int) + (j : Int) := w64 (by omega) (by omega)
          have et : (64 * (q : Int) + (j : Int)).toNat = 64 * q + j := by omega
          have p8 : (0 ≤ 64 * (q : Int) + (j : Int)) = True := eq_true (by omega)
          have q8 : (64 * (q : Int) + (j : Int) < 64 * (Q : Int)) = True := eq_true (by omega)
          have q7 : (64 * q + j < 64 * Q) = True := eq_true (by omega)
          obtain ⟨x, hx⟩ : ∃ x, D[j]? = some x := ⟨_, List.getElem?_eq_getElem (by omega)⟩
          have HMX := Aside0.mk (show ∀ hb : 64 * q + j < m.size, m[64 * q + j]'hb = x from fun hb => by
            have h1 := HEL.out j hj
            rw [hx, ← HLM.out] at h1
            have h2 : (bs m)[64 * q + j]? = some (m[64 * q + j]'hb) := by
              unfold bs
              rw [Array.getElem?_toList, Array.getElem?_eq_getElem hb]
              rfl
            rw [h1] at h2
            injection h2 with h2
            exact h2.symm)
          have HNP := Aside0.mk (show (part D j).set j x = part D (j + 1) from by
            have hjl : j < D.length := by omega
            rw [List.getElem?_eq_getElem hjl] at hx
            injection hx with hx
            rw [← hx]
            exact part_set D j hj hjl)
          have y0 : wr.cell? ⟨p6, j, none⟩ = some (.int .u8 (B ((part D j).getD j 0))) := by
            have hl := part_len D j (by omega) (by omega)
            simp [World.cell?, HP.out, List.getElem?_map, List.getElem?_eq_getElem (show j < (part D j).length by omega), List.getD_eq_getElem?_getD, bcell]
          have fz : wr.frozen? ⟨p6, j, none⟩ = false := by simp [World.frozen?, HP.out]
          clear hx
          go_wp2
          go_roundg k2
          case measure => omega
          case rel =>
            have n1 : p4 ≠ p6 := by have := HP6.out; omega
            have n2 : w.heap.size ≠ p6 := by have := HP6.out; have := HP4.out; omega
            refine ⟨j + 1, by omega, by go_num, ⟨?_⟩, ⟨(Below.heap_setCell _ _ _ _ n1).trans HV.out⟩, ⟨below_set HBW.out _ _ (by have := HP6.out; have := HP4.out; show w.heap.size ≤ p6; omega)⟩, ⟨(Below.heap_setCell _ _ _ _ n2).trans HX.out⟩⟩
            rw [← HNP.out, ← HMX.out (by omega)]
            exact bset HP.out j _
end Go.Proofs.YtglhbbijoeeclaaDoor.Sha
/- Hexadecimal digits: the program's and the document's (plain). -/
namespace Go.Proofs.YtglhbbijoeeclaaDoor.HexPure
open Go.RowKit Go.Proofs.YtglhbbijoeeclaaDoor.Q Go.Proofs.YtglhbbijoeeclaaDoor.Bytes Go.Proofs.YtglhbbijoeeclaaDoor.Evs Go.Proofs.YtglhbbijoeeclaaDoorW.PrintWords Go.Proofs.YtglhbbijoeeclaaDoorW.PrintLast Go.Proofs.YtglhbbijoeeclaaDoorW.PrintMore
set_option linter.unusedVariables false
set_option linter.unusedSimpArgs false
/-- A digit's letter. -/
def dg (n : Nat) : Int := if n < 10 then ((48 + n : Nat) : Int) else ((87 + n : Nat) : Int)
theorem dg_prog : ∀ n : Nat, n < 16 → bt (⟨#[48, 49, 50, 51, 52, 53, 54, 55, 56, 57, 97, 98, 99, 100, 101, 102]⟩ : ByteArray) (n : Int) = dg n := by decide +kernel
theorem dg_ref : ∀ n : Nat, n < 16 → depotref02_digit.f (n : Int) = some (dg n) := by decide +kernel
theorem and15_mod : ∀ n : Nat, n < 256 → Go.bits .and .u8 (n : Int) 15 = ((n % 16 : Nat) : Int) := by decide +kernel
/-- The digits of bytes, as numbers. -/
def hexN (l : List UInt8) : List Int := l.flatMap fun c => [dg (c.toNat / 16), dg (c.toNat % 16)]
theorem hexN_len : ∀ l : List UInt8, (hexN l).length = 2 * l.length
  | [] => rfl
  | c :: l => by
    rw [hexN, List.flatMap_cons, List.length_append, List.length_cons]
    have := hexN_len l
    unfold hexN at this
    rw [this]
    show 2 + 2 * l.length = 2 * (l.length + 1)
    omega
theorem hexN_snoc (l : List UInt8) (c : UInt8) : hexN (l ++ [c]) = hexN l ++ [dg (c.toNat / 16), dg (c.toNat % 16)] := by
  unfold hexN
  rw [List.flatMap_append]
  rfl
theorem prog_l0 (a : ByteArray) (ha : (bs a).length < 1000000) (d : Nat) : ∀ i, i + d = (bs a).length → Ev (fun k => radix_Hex.l0 k a (hexN ((bs a).take i)) ((bs a).length : Int) (i : Int)) (strOfNums (hexN (bs a))) := by
  induction d with
  | zero =>
    intro i hi
    refine succ ?_
    simp only [radix_Hex.l0]
    refine neg (by omega) (now ?_)
    rw [List.take_of_length_le (by omega)]
  | succ d ih =>
    intro i hi
    have hil : i < (bs a).length := by omega
    have ht : (bs a).take (i + 1) = (bs a).take i ++ [(bs a)[i]] := List.take_succ_eq_append_getElem hil
    have hlt := (bs a)[i].toNat_lt
    refine succ ?_
    simp only [radix_Hex.l0]
    rw [bt_lt a i hil]
    have h1 : ((((bs a)[i]).toNat : Int)) / 16 = ((((bs a)[i]).toNat / 16 : Nat) : Int) := by omega
    rw [h1, and15_mod _ hlt, dg_prog _ (by omega), dg_prog _ (by omega), wr i (by omega)]
    refine pos (by omega) (pos (by omega) (pos (by rw [size_bs]; omega) (pos (by omega) (pos (by omega) (pos (by omega) (pos (by omega) (call rfl (pos (by rw [hexN_len, List.length_take]; show _ + 2 < _; omega) ?_))))))))
    have := ih (i + 1) (by omega)
    rw [ht, hexN_snoc] at this
    exact this
theorem prog_hex (a : ByteArray) (ha : (bs a).length < 1000000) : Ev (fun k => radix_Hex.f k a) (strOfNums (hexN (bs a))) := by
  unfold radix_Hex.f
  have e : wrap64 (2 * (a.size : Int)) = ((2 * (bs a).length : Nat) : Int) := by rw [size_bs, w64 (by omega) (by omega)]; omega
  rw [e]
  refine pos (by omega) (pos (by omega) ?_)
  have := prog_l0 a ha (bs a).length 0 (by omega)
  rw [size_bs]
  exact this
theorem ref_l0 (a : ByteArray) (ha : (bs a).length < 1000000) (d : Nat) : ∀ i, i + d = (bs a).length → Ev (fun k => depotref02_Hex.l0 k a (hexN ((bs a).take i) ++ List.replicate (2 * d) 0) (i : Int)) (strOfNums (hexN (bs a))) := by
  induction d with
  | zero =>
    intro i hi
    refine succ ?_
    simp only [depotref02_Hex.l0]
    refine neg (by rw [size_bs]; omega) (now ?_)
    rw [List.take_of_length_le (by omega), Nat.mul_zero, List.replicate_zero, List.append_nil]
  | succ d ih =>
    intro i hi
    have hil : i < (bs a).length := by omega
    have ht : (bs a).take (i + 1) = (bs a).take i ++ [(bs a)[i]] := List.take_succ_eq_append_getElem hil
    have hlt := (bs a)[i].toNat_lt
    have hl : (hexN ((bs a).take i)).length = 2 * i := by rw [hexN_len, List.length_take]; omega
    refine succ ?_
    simp only [depotref02_Hex.l0]
    rw [bt_lt a i hil]
    have h1 : (Int.tdiv (((bs a)[i]).toNat : Int) 16) % 256 = ((((bs a)[i]).toNat / 16 : Nat) : Int) := by
      rw [Int.tdiv_eq_ediv_of_nonneg (by omega)]
      omega
    have h2 : Int.tmod (((bs a)[i]).toNat : Int) 16 = ((((bs a)[i]).toNat % 16 : Nat) : Int) := rfl
    have e1 : wrap64 (2 * (i : Int)) = ((2 * i : Nat) : Int) := by rw [w64 (by omega) (by omega)]; omega
    have e2 : wrap64 (((2 * i : Nat) : Int) + 1) = ((2 * i + 1 : Nat) : Int) := by rw [w64 (by omega) (by omega)]; omega
    rw [h1, h2, e1, e2, wr i (by omega)]
    have hL : (hexN ((bs a).take i) ++ List.replicate (2 * (d + 1)) (0 : Int)).length = 2 * i + 2 * (d + 1) := by rw [List.length_append, hl, List.length_replicate]
    refine pos (by rw [size_bs]; omega) (pos (by omega) (call (dg_ref _ (by omega)) (pos (by omega) (pos (by rw [hL]; omega) (call (dg_ref _ (by omega)) (pos (by omega) (pos (by rw [hL]; omega) ?_)))))))
    have := ih (i + 1) (by omega)
    rw [ht, hexN_snoc] at this
    have es : ((hexN ((bs a).take i) ++ List.replicate (2 * (d + 1)) (0 : Int)).set (2 * i) (dg (((bs a)[i]).toNat / 16))).set (2 * i + 1) (dg (((bs a)[i]).toNat % 16)) = hexN ((bs a).take i) ++ [dg (((bs a)[i]).toNat / 16), dg (((bs a)[i]).toNat % 16)] ++ List.replicate (2 * d) 0 := by
      rw [List.set_append_right _ _ (by omega), List.set_append_right _ _ (by omega), hl, Nat.sub_self, Nat.add_sub_cancel_left, show 2 * (d + 1) = (2 * d) + 1 + 1 from by omega, List.replicate_succ, List.replicate_succ, List.set_cons_zero, List.set_cons_succ, List.set_cons_zero]
      simp
    rw [Int.toNat_natCast, Int.toNat_natCast, es]
    exact this
theorem ref_hex (a : ByteArray) (ha : (bs a).length < 1000000) : Ev (fun k => depotref02_Hex.f k a) (strOfNums (hexN (bs a))) := by
  unfold depotref02_Hex.f
  have e : wrap64 (2 * (a.size : Int)) = ((2 * (bs a).length : Nat) : Int) := by rw [size_bs, w64 (by omega) (by omega)]; omega
  rw [e]
  refine pos (by omega) (pos (by omega) ?_)
  have := ref_l0 a ha (bs a).length 0 (by omega)
  exact this
end Go.Proofs.YtglhbbijoeeclaaDoor.HexPure
/- The document's Fold is fold (plain). -/
namespace Go.Proofs.YtglhbbijoeeclaaDoor.Sha
open Go.RowKit Go.Proofs.YtglhbbijoeeclaaDoor.Q Go.Proofs.YtglhbbijoeeclaaDoor.Bytes Go.Proofs.YtglhbbijoeeclaaDoor.Evs Go.Proofs.YtglhbbijoeeclaaDoorW.PrintWords Go.Proofs.YtglhbbijoeeclaaDoorW.PrintLast Go.Proofs.YtglhbbijoeeclaaDoorW.PrintMore
set_option linter.unusedVariables false
set_option linter.unusedSimpArgs false
theorem nums_bytes (l : List UInt8) : strOfNums (l.map B) = ⟨l.toArray⟩ := by
  unfold strOfNums
  rw [List.map_map]
  congr 1
  congr 1
  conv => rhs; rw [← List.map_id l]
  exact List.map_congr_left fun c _ => by simp [B]
theorem rfold_l0 (s : ByteArray) (n : Nat) (h1 : 1 ≤ n) (h2 : n ≤ 64) (hs : (bs s).length < 1000000) (d : Nat) : ∀ i, i + d = (bs s).length →
    Ev (fun k => depotref02_Fold.l0 k s (n : Int) (((foldTo (bs s) n i).take n).map B) (i : Int)) (⟨(fold (bs s) n).toArray⟩, 0) := by
  induction d with
  | zero =>
    intro i hi
    refine succ ?_
    simp only [depotref02_Fold.l0]
    refine neg (by rw [size_bs]; omega) (now ?_)
    rw [nums_bytes, show i = (bs s).length from by omega]
    rfl
  | succ d ih =>
    intro i hi
    have hil : i < (bs s).length := by omega
    have hm : i % n < n := Nat.mod_lt _ (by omega)
    have hfl := foldTo_len (bs s) n i
    have htl : (((foldTo (bs s) n i).take n).map B).length = n := by rw [List.length_map, List.length_take]; omega
    refine succ ?_
    simp only [depotref02_Fold.l0]
    have et : Int.tmod (i : Int) (n : Int) = ((i % n : Nat) : Int) := rfl
    rw [et, wr i (by omega)]
    refine pos (by rw [size_bs]; omega) (neg (by omega) (pos (by omega) (pos (by rw [htl]; omega) (pos (by omega) ?_))))
    have hg : rd (((foldTo (bs s) n i).take n).map B) ((i % n : Nat) : Int) = B ((foldTo (bs s) n i).getD (i % n) 0) := by
      unfold rd
      rw [Int.toNat_natCast, List.getD_eq_getElem?_getD, List.getElem?_map, List.getElem?_take, if_pos hm, List.getD_eq_getElem?_getD, List.getElem?_eq_getElem (by omega)]
      rfl
    have hb : bt s (i : Int) = B ((bs s).getD i 0) := by rw [bt_bs, Int.toNat_natCast]; rfl
    rw [hg, hb, B_xor, Int.toNat_natCast, ← List.map_set, ← List.take_set]
    have := ih (i + 1) (by omega)
    rw [foldTo] at this
    exact this
theorem rfold (s : ByteArray) (n : Nat) (h1 : 1 ≤ n) (h2 : n ≤ 64) (hs : (bs s).length < 1000000) : Ev (fun k => depotref02_Fold.f k s (n : Int)) (⟨(fold (bs s) n).toArray⟩, 0) := by
  unfold depotref02_Fold.f
  refine neg (by omega) (succ ?_)
  simp only [depotref02_Fold.j0]
  refine neg (by rw [decide_eq_true_iff]; omega) (pos (by omega) (pos (by rw [Int.toNat_natCast]; omega) ?_))
  have := rfold_l0 s n h1 h2 hs (bs s).length 0 (by omega)
  have e : ((foldTo (bs s) n 0).take n).map B = List.replicate n 0 := by
    rw [foldTo, List.take_replicate, Nat.min_eq_left h2, List.map_replicate]
    rfl
  rw [e] at this
  rw [Int.toNat_natCast]
  exact this
end Go.Proofs.YtglhbbijoeeclaaDoor.Sha
/- The document's Base32 writes the same letters (plain). -/
set_option linter.unusedVariables false
set_option linter.unusedSimpArgs false
namespace Go.Proofs.YtglhbbijoeeclaaDoor.B32
open Go.RowKit Go.Proofs.YtglhbbijoeeclaaDoor.Q Go.Proofs.YtglhbbijoeeclaaDoorW.PrintWords Go.Proofs.YtglhbbijoeeclaaDoorW.PrintLast Go.Proofs.YtglhbbijoeeclaaDoorW.PrintMore Go.Proofs.YtglhbbijoeeclaaDoor.Bytes Go.Proofs.YtglhbbijoeeclaaDoor.Evs
/-- The lowest bits of a number. -/
def bitsN (M n : Nat) : List Int := (List.range n).map fun i => ((M / 2 ^ i % 2 : Nat) : Int)
theorem bitsN_len (M n : Nat) : (bitsN M n).length = n := by simp [bitsN]
theorem bitsN_succ (M n : Nat) : bitsN M (n + 1) = bitsN M n ++ [((M / 2 ^ n % 2 : Nat) : Int)] := by
  unfold bitsN
  rw [List.range_succ, List.map_append]
  rfl
theorem numB_digit (l : List UInt8) : ∀ i (h : i < l.length), numB l / 256 ^ i % 256 = (l[i]).toNat := by
  induction l with
  | nil => intro i h; simp at h
  | cons c l ih =>
    intro i h
    have hc := c.toNat_lt
    match i with
    | 0 =>
      rw [numB, Nat.pow_zero, Nat.div_one]
      show _ = c.toNat
      omega
    | i + 1 =>
      have e : numB (c :: l) / 256 ^ (i + 1) = numB l / 256 ^ i := by
        have h256 : numB (c :: l) / 256 = numB l := by rw [numB]; omega
        rw [Nat.pow_succ, Nat.mul_comm (256 ^ i) 256, ← Nat.div_div_eq_div_mul, h256]
      rw [e]
      exact ih i (by simpa using h)
theorem bit_of (M i k : Nat) (hk : k < 8) : M / 2 ^ (8 * i + k) % 2 = M / 256 ^ i % 256 / 2 ^ k % 2 := by
  have e : M / 2 ^ (8 * i + k) = M / 256 ^ i / 2 ^ k := by
    rw [Nat.pow_add, ← Nat.div_div_eq_div_mul, show (256 : Nat) = 2 ^ 8 from rfl, ← Nat.pow_mul]
  rw [e]
  generalize M / 256 ^ i = D
  match k, hk with
  | 0, _ => omega
  | 1, _ => omega
  | 2, _ => omega
  | 3, _ => omega
  | 4, _ => omega
  | 5, _ => omega
  | 6, _ => omega
  | 7, _ => omega
theorem half (x k : Nat) (hx : x < 256) : wrap64 (Int.tdiv ((x / 2 ^ k : Nat) : Int) 2) = ((x / 2 ^ (k + 1) : Nat) : Int) := by
  have hq : x / 2 ^ k ≤ x := Nat.div_le_self _ _
  rw [Nat.pow_succ, ← Nat.div_div_eq_div_mul]
  generalize x / 2 ^ k = y at hq
  have : Int.tdiv (y : Int) 2 = ((y / 2 : Nat) : Int) := rfl
  rw [this, w64 (by omega) (by omega)]
theorem bits_l1 (s : ByteArray) (M i x : Nat) (R : List Int) (hx : x = M / 256 ^ i % 256) (hi : i < 1000000) (d : Nat) : ∀ k, k + d = 8 →
    Ev (fun f => depotref02_bits.l0 f s (bitsN M (8 * (i + 1))) ((i + 1 : Nat) : Int)) R →
    Ev (fun f => depotref02_bits.l1 f s (bitsN M (8 * i + k)) (i : Int) ((x / 2 ^ k : Nat) : Int) (k : Int)) R := by
  induction d with
  | zero =>
    intro k hk h
    obtain rfl : k = 8 := by omega
    refine succ ?_
    simp only [depotref02_bits.l1]
    refine neg (by omega) ?_
    rw [wr i (by omega)]
    exact h
  | succ d ih =>
    intro k hk h
    refine succ ?_
    simp only [depotref02_bits.l1]
    refine pos (by omega) (pos (by rw [bitsN_len]; omega) ?_)
    have e1 : Int.tmod ((x / 2 ^ k : Nat) : Int) 2 = ((M / 2 ^ (8 * i + k) % 2 : Nat) : Int) := by
      rw [bit_of M i k (by omega), ← hx]
      rfl
    have hx2 : x < 256 := by rw [hx]; exact Nat.mod_lt _ (by omega)
    have e2 := half x k hx2
    rw [e1, e2, wr k (by omega), ← bitsN_succ]
    exact ih (k + 1) (by omega) h
theorem bits_l0 (s : ByteArray) (hs : (bs s).length < 1000000) (d : Nat) : ∀ i, i + d = (bs s).length → Ev (fun f => depotref02_bits.l0 f s (bitsN (numB (bs s)) (8 * i)) (i : Int)) (bitsN (numB (bs s)) (8 * (bs s).length)) := by
  induction d with
  | zero =>
    intro i hi
    refine succ ?_
    simp only [depotref02_bits.l0]
    refine neg (by rw [size_bs]; omega) (now ?_)
    rw [show i = (bs s).length from by omega]
  | succ d ih =>
    intro i hi
    have hil : i < (bs s).length := by omega
    have hlt := (bs s)[i].toNat_lt
    refine succ ?_
    simp only [depotref02_bits.l0]
    refine pos (by rw [size_bs]; omega) (pos (by omega) ?_)
    rw [bt_lt s i hil, w64 (by omega) (by omega)]
    have := bits_l1 s (numB (bs s)) i ((bs s)[i]).toNat _ (numB_digit (bs s) i hil).symm (by omega) 8 0 (by omega) (ih (i + 1) (by omega))
    rw [Nat.pow_zero, Nat.div_one, Nat.add_zero] at this
    exact this
theorem bits_f (s : ByteArray) (hs : (bs s).length < 1000000) : Ev (fun f => depotref02_bits.f f s) (bitsN (numB (bs s)) (8 * (bs s).length)) := by
  unfold depotref02_bits.f
  exact bits_l0 s hs (bs s).length 0 (by omega)
theorem bitsN_get (M n i : Nat) (h : i < n) : rd (bitsN M n) (i : Int) = ((M / 2 ^ i % 2 : Nat) : Int) := by
  unfold rd bitsN
  rw [Int.toNat_natCast, List.getD_eq_getElem?_getD, List.getElem?_map, List.getElem?_range h]
  rfl
theorem mod_more (M a m : Nat) : M / 2 ^ a % 2 ^ (m + 1) = 2 * (M / 2 ^ (a + 1) % 2 ^ m) + M / 2 ^ a % 2 := by
  have e : M / 2 ^ (a + 1) = M / 2 ^ a / 2 := by rw [Nat.pow_succ, ← Nat.div_div_eq_div_mul]
  rw [e]
  generalize M / 2 ^ a = D
  rw [Nat.pow_succ, Nat.mul_comm (2 ^ m) 2, Nat.mod_mul]
  omega
/-- Letters so far, as numbers. -/
def lets (t N : Nat) : List Int := (d32 t N).map fun c => (c.toNat : Int)
theorem lets_len (t N : Nat) : (lets t N).length = t := by rw [lets, List.length_map, d32_len]
theorem b_l1 (M n t : Nat) (R : ByteArray) (hM : M < 2 ^ n) (hn : n < 10000000) (ht : 5 * t < n) (d : Nat) : d ≤ 5 →
    Ev (fun f => depotref02_Base32.l0 f (bitsN M n) (lets (t + 1) M) ((5 * (t + 1) : Nat) : Int)) R →
    Ev (fun f => depotref02_Base32.l1 f (bitsN M n) (lets t M) ((5 * t : Nat) : Int) ((M / 2 ^ (5 * t + d) % 2 ^ (5 - d) : Nat) : Int) ((d : Int) - 1)) R := by
  induction d with
  | zero =>
    intro _ h
    refine succ ?_
    simp only [depotref02_Base32.l1]
    refine neg (by omega) ?_
    have hlt : M / 2 ^ (5 * t + 0) % 2 ^ (5 - 0) < 32 := Nat.mod_lt _ (by decide)
    refine pos (by omega) (pos (by omega) (pos (by rw [lets_len]; omega) ?_))
    rw [bt_letter]
    have e1 : wrap64 (((5 * t : Nat) : Int) + 5) = ((5 * (t + 1) : Nat) : Int) := by rw [w64 (by omega) (by omega)]; omega
    have e2 : lets t M ++ [((lt32 (M / 2 ^ (5 * t + 0) % 2 ^ (5 - 0))).toNat : Int)] = lets (t + 1) M := by
      unfold lets
      rw [d32_succ, List.map_append]
      congr 3
      rw [show (32 : Nat) ^ t = 2 ^ (5 * t) from by rw [show (32 : Nat) = 2 ^ 5 from rfl, ← Nat.pow_mul]]
      rfl
    rw [e1, e2]
    exact h
  | succ d ih =>
    intro hd h
    have e0 : ((d + 1 : Nat) : Int) - 1 = (d : Int) := by omega
    have e1 : wrap64 (((5 * t : Nat) : Int) + (d : Int)) = ((5 * t + d : Nat) : Int) := by rw [w64 (by omega) (by omega)]; omega
    have e3 : wrap64 ((d : Int) - 1) = (d : Int) - 1 := w64 (by omega) (by omega)
    have z1 : 5 - (d + 1) + 1 = 5 - d := by omega
    have z2 : 5 * t + d + 1 = 5 * t + (d + 1) := by omega
    have z3 : 5 - (d + 1) ≤ 5 := by omega
    have h2 := ih (by omega) h
    have hlt2 : M / 2 ^ (5 * t + (d + 1)) % 2 ^ (5 - (d + 1)) < 32 := Nat.lt_of_lt_of_le (Nat.mod_lt _ (Nat.pow_pos (by decide))) (Nat.pow_le_pow_right (by decide) z3)
    have hmm := mod_more M (5 * t + d) (5 - (d + 1))
    rw [z1, z2] at hmm
    refine succ ?_
    simp only [depotref02_Base32.l1]
    rw [e0, e1, e3]
    refine pos (Int.natCast_nonneg _) ?_
    rw [hmm] at h2
    clear hmm
    generalize M / 2 ^ (5 * t + (d + 1)) % 2 ^ (5 - (d + 1)) = v at hlt2 h2 ⊢
    have e2 : wrap64 ((v : Int) * 2) = ((2 * v : Nat) : Int) := by rw [w64 (by omega) (by omega)]; omega
    rw [e2]
    by_cases hb : 5 * t + d < n
    · refine pos (by rw [bitsN_len]; omega) (pos (by omega) ?_)
      rw [bitsN_get _ _ _ hb]
      have hbit : M / 2 ^ (5 * t + d) % 2 < 2 := Nat.mod_lt _ (by omega)
      generalize M / 2 ^ (5 * t + d) % 2 = u at hbit h2 ⊢
      have e4 : wrap64 (((2 * v : Nat) : Int) + (u : Int)) = ((2 * v + u : Nat) : Int) := by rw [w64 (by omega) (by omega)]; omega
      rw [e4]
      exact h2
    · refine neg (by rw [bitsN_len]; omega) ?_
      have hz : M / 2 ^ (5 * t + d) = 0 := Nat.div_eq_of_lt (Nat.lt_of_lt_of_le hM (Nat.pow_le_pow_right (by omega) (by omega)))
      rw [hz] at h2
      exact h2
/-- The row turned so far. -/
theorem b_l2 (L : List UInt8) (hL : L.length < 10000000) (d : Nat) : ∀ i, i + d = L.length →
    Ev (fun f => depotref02_Base32.l2 f (L.map fun c => (c.toNat : Int)) (List.replicate d 0 ++ (L.take i).reverse.map fun c => (c.toNat : Int)) (i : Int)) ⟨L.reverse.toArray⟩ := by
  induction d with
  | zero =>
    intro i hi
    refine succ ?_
    simp only [depotref02_Base32.l2]
    refine neg (by rw [List.length_map]; omega) (now (congrArg some ?_))
    rw [List.replicate_zero, List.nil_append, List.take_of_length_le (by omega)]
    exact nums_row _
  | succ d ih =>
    intro i hi
    have hil : i < L.length := by omega
    refine succ ?_
    simp only [depotref02_Base32.l2]
    have e1 : wrap64 (((L.map fun c => (c.toNat : Int)).length : Int) - 1) = ((L.length - 1 : Nat) : Int) := by rw [List.length_map, w64 (by omega) (by omega)]; omega
    have e2 : wrap64 (((L.length - 1 : Nat) : Int) - (i : Int)) = (d : Int) := by rw [w64 (by omega) (by omega)]; omega
    rw [e1, e2, wr i (by omega)]
    refine pos (by rw [List.length_map]; omega) (pos (by omega) (pos (by omega) (pos (by rw [List.length_append, List.length_replicate]; omega) ?_)))
    have hr : rd (L.map fun c => (c.toNat : Int)) (i : Int) = ((L[i]).toNat : Int) := by
      unfold rd
      rw [Int.toNat_natCast, List.getD_eq_getElem?_getD, List.getElem?_map, List.getElem?_eq_getElem hil]
      rfl
    rw [hr, Int.toNat_natCast]
    have es : (List.replicate (d + 1) (0 : Int) ++ (L.take i).reverse.map fun c => (c.toNat : Int)).set d ((L[i]).toNat : Int) = List.replicate d 0 ++ (L.take (i + 1)).reverse.map fun c => (c.toNat : Int) := by
      rw [List.take_succ_eq_append_getElem hil, List.reverse_append, List.reverse_singleton, List.singleton_append, List.map_cons, List.replicate_succ', List.append_assoc, List.set_append_right _ _ (by rw [List.length_replicate]; exact Nat.le_refl _)]
      simp
    rw [es]
    exact ih (i + 1) (by omega)
theorem b_l0 (M n m : Nat) (hM : M < 2 ^ n) (hn : n < 10000000) (hm : m = (n + 4) / 5) (d : Nat) : ∀ t, t + d = m →
    Ev (fun f => depotref02_Base32.l0 f (bitsN M n) (lets t M) ((5 * t : Nat) : Int)) ⟨(d32 m M).reverse.toArray⟩ := by
  induction d with
  | zero =>
    intro t ht
    obtain rfl : t = m := by omega
    refine succ ?_
    simp only [depotref02_Base32.l0]
    refine neg (by rw [bitsN_len]; omega) (pos (by omega) (pos (by rw [lets_len]; omega) ?_))
    have := b_l2 (d32 t M) (by rw [d32_len]; omega) t 0 (by rw [d32_len]; omega)
    rw [List.take_zero, List.reverse_nil, List.map_nil, List.append_nil] at this
    rw [lets_len, Int.toNat_natCast]
    exact this
  | succ d ih =>
    intro t ht
    refine succ ?_
    simp only [depotref02_Base32.l0]
    refine pos (by rw [bitsN_len]; omega) ?_
    have := b_l1 M n t _ hM hn (by omega) 5 (Nat.le_refl _) (ih (t + 1) (by omega))
    rw [Nat.sub_self, Nat.pow_zero, Nat.mod_one] at this
    exact this
/-- The document's Base32, any bytes. -/
theorem ref_enc (s : ByteArray) (hs : (bs s).length < 1000000) : Ev (fun f => depotref02_Base32.f f s) ⟨(enc (bs s)).toArray⟩ := by
  unfold depotref02_Base32.f
  refine Ev.bind (bits_f s hs) ?_
  have hM : numB (bs s) < 2 ^ (8 * (bs s).length) := by
    have := numB_lt (bs s)
    rw [show (256 : Nat) = 2 ^ 8 from rfl, ← Nat.pow_mul] at this
    exact this
  exact b_l0 (numB (bs s)) (8 * (bs s).length) _ hM (by omega) rfl _ 0 (Nat.zero_add _)
end Go.Proofs.YtglhbbijoeeclaaDoor.B32
/- The document's CheckRefs in plain Lean. -/
set_option linter.unusedVariables false
set_option linter.unusedSimpArgs false
namespace Go.Proofs.YtglhbbijoeeclaaDoor.Refs
open Go.RowKit Go.Proofs.YtglhbbijoeeclaaDoor.Q Go.Proofs.YtglhbbijoeeclaaDoorW.PrintWords Go.Proofs.YtglhbbijoeeclaaDoorW.PrintLast Go.Proofs.YtglhbbijoeeclaaDoorW.PrintMore Go.Proofs.YtglhbbijoeeclaaDoor.Bytes Go.Proofs.YtglhbbijoeeclaaDoor.Evs Go.Proofs.YtglhbbijoeeclaaDoor.SpathPure
theorem good (s : ByteArray) (hs : (bs s).length ≤ 140737488355000) : Ev (fun k => depotref13_Good.f k s) ((parseB s).2.2 == 0) := by
  unfold depotref13_Good.f
  exact Ev.bind (ref_parse s hs) (Ev.now _)
/-- A path isn't empty: it stands above the empty text. -/
theorem above_nil (s : ByteArray) (h : (parseB s).2.2 = 0) : Op.bytesLess ByteArray.empty.toList s.toList = true := by
  have : 46 ≤ (bs s).length := by
    unfold parseB at h
    by_cases hp : isPath0 (bs s)
    · exact hp.2.1
    · rw [if_neg hp] at h
      exact absurd h (by decide)
  rw [toList_bs, toList_bs]
  have e : bs ByteArray.empty = [] := rfl
  rw [e]
  match bs s, this with
  | c :: t, _ => rfl
theorem ref_l0 (xs : List ByteArray) (h : ∀ x ∈ xs, x.size ≤ 140737488351232) (hl : xs.length ≤ 1024) (d : Nat) : ∀ i (last : ByteArray), i + d = xs.length → (last = if i = 0 then ByteArray.empty else el xs (i - 1)) → Ev (fun k => depotref13_CheckRefs.l0 k xs last (i : Int)) (from_ xs i d) := by
  induction d with
  | zero =>
    intro i last hi hlast
    refine succ ?_
    simp only [depotref13_CheckRefs.l0]
    exact neg (by omega) (Ev.now _)
  | succ d ih =>
    intro i last hi hlast
    refine succ ?_
    simp only [depotref13_CheckRefs.l0]
    refine pos (by omega) (pos (by omega) ?_)
    rw [rd_nat]
    refine Ev.bind (good (el xs i) (el_small h i)) ?_
    unfold from_
    rw [wr i (by omega)]
    by_cases hp : (parseB (el xs i)).2.2 = 0
    · refine pos (by rw [hp]; rfl) ?_
      have hih := ih (i + 1) (el xs i) (by omega) (by rw [if_neg (by omega)]; rfl)
      by_cases h0 : i = 0
      · refine pos ?_ (same (if_pos ⟨hp, .inl h0⟩) hih)
        rw [hlast, if_pos h0]
        exact above_nil _ hp
      · rw [if_neg h0] at hlast
        by_cases hb : Op.bytesLess (el xs (i - 1)).toList (el xs i).toList = true
        · refine pos ?_ (same (if_pos ⟨hp, .inr hb⟩) hih)
          rw [hlast]
          exact hb
        · refine neg ?_ (same (if_neg (fun hk => by rcases hk.2 with hk | hk; exact h0 hk; exact hb hk)) (Ev.now _))
          rw [hlast]
          exact hb
    · exact neg (by rw [beq_iff_eq]; exact hp) (same (if_neg (fun hk => hp hk.1)) (Ev.now _))
theorem ref_refs (xs : List ByteArray) (h : ∀ x ∈ xs, x.size ≤ 140737488351232) : Ev (fun k => depotref13_CheckRefs.f k xs) (refsNo xs) := by
  unfold depotref13_CheckRefs.f refsNo
  by_cases hl : 1024 < xs.length
  · exact pos (by omega) (same (if_pos hl) (Ev.now _))
  · exact neg (by omega) (same (if_neg hl) (ref_l0 xs h (by omega) xs.length 0 _ (by omega) (by rw [if_pos rfl]; rfl)))
end Go.Proofs.YtglhbbijoeeclaaDoor.Refs
/- The document's Named and Make, walked. -/
namespace Go.Proofs.YtglhbbijoeeclaaDoor.Sha
open Go.RowKit Go.Proofs.YtglhbbijoeeclaaDoor.Q Go.Proofs.YtglhbbijoeeclaaDoorW.PrintWords Go.Proofs.YtglhbbijoeeclaaDoorW.PrintLast Go.Proofs.YtglhbbijoeeclaaDoorW.PrintMore Go.Proofs.YtglhbbijoeeclaaDoor.Bytes Go.Proofs.YtglhbbijoeeclaaDoor.TextTrue
set_option linter.unusedVariables false
set_option linter.unusedSimpArgs false
set_option maxRecDepth 100000 in
set_option maxHeartbeats 8000000 in
theorem named_calls (w : World) (A : Option Addr) (c : Nat) (refs : List ByteArray) (d : List UInt8) (hd : d.length = 32) (label hxs txt : ByteArray) (kh : Nat) (hr : Kd.C Kd.string w A refs.length refs) (hc : refs.length ≤ c) (hlen : refs.length ≤ 1024)
    (h3 : depotref02_Hex.f kh ⟨d.toArray⟩ = some hxs) (hxl : hxs.size < 1000000) (hll : label.size < 1000000) (hsz : ∀ k, k ≤ refs.length → (textTo refs k).size < 1000000000000) (hrz : ∀ k, (refs.getD k ⟨#[]⟩).size < 1000000)
    (htx : textTo refs refs.length ++ shaC ++ hxs ++ dirC ++ label = txt) :
    Calls Tryd.prog 24 #[.slice A refs.length c, .agg (d.map bcell).toArray, .string label] w fun e w' => e = .returned (.string txt) ∧ Below w.heap.size w w' := by
  have C3 := Aside0.mk (fun W => depotref02_Hex.calls kh ⟨d.toArray⟩ hxs W h3)
  have HB1 := Aside0.mk ((Below.refl w.heap.size w).alloc (Nat.le_refl _) (.cells (d.map bcell).toArray 23))
  have HX1 := Aside0.mk (World.alloc_heap_new w (.cells (d.map bcell).toArray 23))
  have HR := Aside0.mk hr
  have HD := Aside0.mk hd
  have HSZ := Aside0.mk hsz
  have HRZ := Aside0.mk hrz
  have HTX : Aside0 (textTo refs refs.length ++ (⟨#[58, 115, 104, 97, 50, 53, 54, 58]⟩ : ByteArray) ++ hxs ++ (⟨#[58]⟩ : ByteArray) ++ (⟨#[47, 100, 101, 112, 111, 116, 47, 115, 116, 111, 114, 101, 47]⟩ : ByteArray) ++ (⟨#[58]⟩ : ByteArray) ++ label = txt) := ⟨by
    rw [← htx]
    apply bs_inj
    simp only [bs_append, List.append_assoc]
    rfl⟩
  clear hr hd h3 hsz hrz htx
  go_enter Tryd.func24, Tryd.ntmps24
  go_wp2
  go_loopg [7, 8] refs.length (fun g v7 v8 wx => ∃ i : Nat, i + g = refs.length ∧ v8 = .int .i64 (i : Int) ∧ v7 = .string (textTo refs i) ∧ Aside0 (Below w.heap.size w wx) ∧ Aside0 (wx.heap[w.heap.size]? = some (.cells (d.map bcell).toArray 23 (0, 0))))
  case atStart => exact ⟨0, by omega, rfl, rfl, HB1, HX1⟩
  case round =>
    clear HB1 HX1
    obtain ⟨i, hig, rfl, rfl, HB, HX⟩ := hrel
    cases gk with
    | zero =>
      obtain rfl : i = refs.length := by omega
      have d5 : decide ((refs.length : Int) < (refs.length : Int)) = false := decide_eq_false (by omega)
      obtain ⟨T, hT, hTs⟩ : ∃ T, textTo refs refs.length = T ∧ T.size < 1000000000000 := ⟨_, rfl, HSZ.out _ (Nat.le_refl _)⟩
      have HTX2 := HTX.out
      rw [hT] at HTX2
      have HTX3 := Aside0.mk HTX2
      rw [hT]
      clear HTX2 hT HTX HSZ
      have hcv := conv32 wr w.heap.size d _ HD.out HX.out
      have t1 : (T.size + 8 ≤ 9223372036854775807) = True := eq_true (by omega)
      have t2 : (T.size + 8 + hxs.size ≤ 9223372036854775807) = True := eq_true (by omega)
      have t3 : (T.size + 8 + hxs.size + 1 ≤ 9223372036854775807) = True := eq_true (by omega)
      have t4 : (T.size + 8 + hxs.size + 1 + 13 ≤ 9223372036854775807) = True := eq_true (by omega)
      have t5 : (T.size + 8 + hxs.size + 1 + 13 + 1 ≤ 9223372036854775807) = True := eq_true (by omega)
      have t6 : (T.size + 8 + hxs.size + 1 + 13 + 1 + label.size ≤ 9223372036854775807) = True := eq_true (by omega)
      go_wp2_with (first
        | (go_at_call 41; ((with_reducible refine (C3.out wr).mono ?_)); rintro e w6 ⟨rfl, hb6⟩; have HB6 := Aside0.mk (HB.out.trans (hb6.mono HB.out.size)); clear hb6 hcv))
      go_ret
      exact ⟨by rw [← HTX3.out]; rfl, HB6.out⟩
    | succ k1 =>
      have d4 : decide ((i : Int) < (refs.length : Int)) = true := decide_eq_true (by omega)
      obtain ⟨bk, o, rfl, hcell⟩ := string_cells (Kd.C_below HR.out HB.out) (by omega)
      have hi : i < refs.length := by omega
      have y1 := hcell i _ (List.getElem?_eq_getElem hi)
      have hgx : refs.getD i ⟨#[]⟩ = refs[i] := by rw [List.getD_eq_getElem?_getD, List.getElem?_eq_getElem hi]; rfl
      have hxs_ := HRZ.out i
      have hts := HSZ.out i (by omega)
      have HN : Aside0 (textTo refs (i + 1) = textTo refs i ++ (colonS ++ refs[i])) := ⟨by rw [textTo, hgx]⟩
      rw [hgx] at hxs_
      obtain ⟨x, hx⟩ : ∃ x, refs[i] = x := ⟨_, rfl⟩
      obtain ⟨tt, htt⟩ : ∃ tt, textTo refs i = tt := ⟨_, rfl⟩
      rw [hx] at y1 hxs_ HN
      rw [htt] at hts HN
      rw [htt]
      have t1 : (1 + x.size ≤ 9223372036854775807) = True := eq_true (by omega)
      have t2 : (tt.size + (1 + x.size) ≤ 9223372036854775807) = True := eq_true (by omega)
      have p1 : (0 ≤ (i : Int)) = True := eq_true (by omega)
      have p2 : ((i : Int) < (refs.length : Int)) = True := eq_true (by omega)
      have p3 : (i < refs.length) = True := eq_true hi
      clear hcell hgx hx htt hi
      go_wp2
      go_roundg k1
      case measure => omega
      case rel => exact ⟨i + 1, by omega, by go_num, by rw [HN.out]; rfl, HB, HX⟩
end Go.Proofs.YtglhbbijoeeclaaDoor.Sha
/- The document's Make, and depotlaw13.SpathMakes, walked. -/
namespace Go.Proofs.YtglhbbijoeeclaaDoor.Sha
open Go.RowKit Go.Proofs.YtglhbbijoeeclaaDoor.Q Go.Proofs.YtglhbbijoeeclaaDoorW.PrintWords Go.Proofs.YtglhbbijoeeclaaDoorW.PrintLast Go.Proofs.YtglhbbijoeeclaaDoorW.PrintMore Go.Proofs.YtglhbbijoeeclaaDoor.Bytes Go.Proofs.YtglhbbijoeeclaaDoor.TextTrue
set_option linter.unusedVariables false
set_option linter.unusedSimpArgs false
set_option maxRecDepth 100000 in
set_option maxHeartbeats 8000000 in
theorem rmake_good (w : World) (A : Option Addr) (c : Nat) (refs : List ByteArray) (d : List UInt8) (hd : d.length = 32) (label hxs txt b32 : ByteArray) (kl kr kh kf kb : Nat) (hr : Kd.C Kd.string w A refs.length refs) (hc : refs.length ≤ c) (hlen : refs.length ≤ 1024)
    (h1 : depotref13_CheckLabel.f kl label = some 0) (h2 : depotref13_CheckRefs.f kr refs = some 0) (h3 : depotref02_Hex.f kh ⟨d.toArray⟩ = some hxs) (hxl : hxs.size < 1000000) (hll : label.size < 1000000) (hsz : ∀ k, k ≤ refs.length → (textTo refs k).size < 1000000000000) (hrz : ∀ k, (refs.getD k ⟨#[]⟩).size < 1000000)
    (htx : textTo refs refs.length ++ shaC ++ hxs ++ dirC ++ label = txt) (ht : txt.size < 1000000000000) (h4 : depotref02_Fold.f kf ⟨(of txt.data.toList).toArray⟩ 20 = some (⟨(fold (of txt.data.toList) 20).toArray⟩, 0)) (h5 : depotref02_Base32.f kb ⟨(fold (of txt.data.toList) 20).toArray⟩ = some b32) (hb : b32.size < 1000000) :
    Calls Tryd.prog 9 #[.slice A refs.length c, .agg (d.map bcell).toArray, .string label] w fun e w' => e = .returned (.tuple #[.string (dirS ++ b32 ++ dashS ++ label), .int .i64 0]) ∧ Below w.heap.size w w' := by
  have HR23 : Aside0 ((Tryd.prog.info? 23).map (·.size) = some 32) := ⟨by kernel_rfl⟩
  have C1 := Aside0.mk (fun W => show Calls Tryd.prog 21 #[.string label] W fun e w' => e = .returned (.int .i64 0) ∧ Below W.heap.size W w' from (depotref13_CheckLabel.calls kl label 0 W h1).mono fun e w' h => ⟨h.1, h.2.below⟩)
  have C2 := Aside0.mk (fun (W : World) (h : Below w.heap.size w W) => show Calls Tryd.prog 22 #[.slice A refs.length c] W fun e w' => e = .returned (.int .i64 0) ∧ Below W.heap.size W w' from (depotref13_CheckRefs.calls kr A c refs 0 W (Kd.C_below hr h) hc h2).mono fun e w' h => ⟨h.1, h.2.below⟩)
  have CN := Aside0.mk (fun W (h : Below w.heap.size w W) => named_calls W A c refs d hd label hxs txt kh (Kd.C_below hr h) hc hlen h3 hxl hll hsz hrz htx)
  have CO := Aside0.mk (fun W => rof_calls txt W ht)
  have CF := Aside0.mk (fun W => depotref02_Fold.calls kf ⟨(of txt.data.toList).toArray⟩ 20 _ 0 W h4)
  have C5 := Aside0.mk (fun W => depotref02_Base32.calls kb ⟨(fold (of txt.data.toList) 20).toArray⟩ b32 W h5)
  have HB1 := Aside0.mk ((Below.refl w.heap.size w).alloc (Nat.le_refl _) (.cells (d.map bcell).toArray 23))
  have HX1 := Aside0.mk (World.alloc_heap_new w (.cells (d.map bcell).toArray 23))
  have HOL := Aside0.mk (of_len txt.data.toList)
  have HD := Aside0.mk hd
  have s1 : (13 + b32.size ≤ 9223372036854775807) = True := eq_true (by omega)
  have s2 : (13 + b32.size + 1 ≤ 9223372036854775807) = True := eq_true (by omega)
  have s3 : (13 + b32.size + 1 + label.size ≤ 9223372036854775807) = True := eq_true (by omega)
  clear hr hd h1 h2 h3 h4 h5 hsz hrz htx
  go_enter Tryd.func9, Tryd.ntmps9
  go_wp2_with (first
    | (go_at_call 21; (refine (C1.out _).mono ?_); rintro e w2 ⟨rfl, hb2⟩; have HB2 := Aside0.mk (HB1.out.trans (hb2.mono HB1.out.size)); have HX2 := Aside0.mk ((hb2.block _ (Array.getElem?_eq_some_iff.1 HX1.out).1).trans HX1.out); clear hb2)
    | (go_at_call 22; ((with_reducible refine (C2.out w2 HB2.out).mono ?_)); rintro e w3 ⟨rfl, hb3⟩; have HB3 := Aside0.mk (HB2.out.trans (hb3.mono HB2.out.size)); have HX3 := Aside0.mk ((hb3.block _ (Array.getElem?_eq_some_iff.1 HX2.out).1).trans HX2.out); clear hb3)
    | ((with_reducible refine gate_dst (N := 22) rfl ?_); refine wpList_load_mid rfl 23 (.tmp 4) rfl w.heap.size 0 rfl (d.map bcell) _ (range_row HX3.out) Tryd.underlying23 rfl (by rw [List.length_map, HD.out]; kernel_rfl) ?_)
    | (go_at_call 24; ((with_reducible refine (CN.out w3 HB3.out).mono ?_)); rintro e w4 ⟨rfl, hb4⟩; have HB4 := Aside0.mk (HB3.out.trans (hb4.mono HB3.out.size)); clear hb4)
    | (go_at_call 23; ((with_reducible refine (CO.out w4).mono ?_)); rintro e w10 ⟨rfl, hb10⟩; have HB10 := Aside0.mk (HB4.out.trans (hb10.mono HB4.out.size)); clear hb10)
    | ((with_reducible refine gate_store (t := 23) (p := 9) rfl ?_); refine wpList_store_row' rfl 23 (.tmp 9) (.tmp 25) rfl w10.heap.size 23 (List.replicate 32 (Value.int .u8 0)).toArray ((of txt.data.toList).map bcell).toArray rfl rfl (World.alloc_heap_new w10 _) (by rw [List.size_toArray, List.length_map, HOL.out]; exact HR23.out) (by rw [List.size_toArray, List.size_toArray, List.length_map, HOL.out]; rfl) (all_oneCell_toArray fun u hu => by obtain ⟨y, _, rfl⟩ := List.mem_map.1 hu; rfl) ?_; intro w11 hw11; have hcv11 := conv32 w11 w10.heap.size (of txt.data.toList) 23 HOL.out (by rw [hw11]; exact setRow_heap _ _ _ _ _ _ (World.alloc_heap_new w10 _)); have HB11 : Aside0 (Below w.heap.size w w11) := ⟨by rw [hw11]; exact below_setRow (HB10.out.alloc HB10.out.size _) HB10.out.size _⟩; clear hw11)
    | (go_at_call 25; ((with_reducible refine (CF.out w11).mono ?_)); rintro e w12 ⟨rfl, hb12⟩; have HB12 := Aside0.mk (HB11.out.trans (hb12.mono HB11.out.size)); clear hb12 hcv11)
    | (go_at_call 26; ((with_reducible refine (C5.out w12).mono ?_)); rintro e w13 ⟨rfl, hb13⟩; have HB13 := Aside0.mk (HB12.out.trans (hb13.mono HB12.out.size)); clear hb13))
  go_ret2
  exact ⟨rfl, HB13.out⟩
set_option maxRecDepth 100000 in
set_option maxHeartbeats 4000000 in
theorem rmake_label (w : World) (A : Option Addr) (n c : Nat) (d : List UInt8) (label : ByteArray) (e1 : Int) (kl : Nat) (h1 : depotref13_CheckLabel.f kl label = some e1) (he : e1 ≠ 0) :
    Calls Tryd.prog 9 #[.slice A n c, .agg (d.map bcell).toArray, .string label] w fun e w' => e = .returned (.tuple #[.string ⟨#[]⟩, .int .i64 e1]) ∧ Below w.heap.size w w' := by
  have HB1 := Aside0.mk ((Below.refl w.heap.size w).alloc (Nat.le_refl _) (.cells (d.map bcell).toArray 23))
  have C1 := Aside0.mk (fun W => show Calls Tryd.prog 21 #[.string label] W fun e w' => e = .returned (.int .i64 e1) ∧ Below W.heap.size W w' from (depotref13_CheckLabel.calls kl label e1 W h1).mono fun e w' h => ⟨h.1, h.2.below⟩)
  have d1 : decide (e1 = 0) = false := decide_eq_false he
  clear h1
  go_enter Tryd.func9, Tryd.ntmps9
  go_wp2_with (first
    | (go_at_call 21; (refine (C1.out _).mono ?_); rintro e w2 ⟨rfl, hb2⟩; have HB2 := Aside0.mk (HB1.out.trans (hb2.mono HB1.out.size)); clear hb2))
  go_ret2
  exact ⟨rfl, HB2.out⟩
set_option maxRecDepth 100000 in
set_option maxHeartbeats 4000000 in
theorem rmake_refs (w : World) (A : Option Addr) (c : Nat) (refs : List ByteArray) (d : List UInt8) (label : ByteArray) (e2 : Int) (kl kr : Nat) (hr : Kd.C Kd.string w A refs.length refs) (hc : refs.length ≤ c) (h1 : depotref13_CheckLabel.f kl label = some 0) (h2 : depotref13_CheckRefs.f kr refs = some e2) (he : e2 ≠ 0) :
    Calls Tryd.prog 9 #[.slice A refs.length c, .agg (d.map bcell).toArray, .string label] w fun e w' => e = .returned (.tuple #[.string ⟨#[]⟩, .int .i64 e2]) ∧ Below w.heap.size w w' := by
  have HB1 := Aside0.mk ((Below.refl w.heap.size w).alloc (Nat.le_refl _) (.cells (d.map bcell).toArray 23))
  have C1 := Aside0.mk (fun W => show Calls Tryd.prog 21 #[.string label] W fun e w' => e = .returned (.int .i64 0) ∧ Below W.heap.size W w' from (depotref13_CheckLabel.calls kl label 0 W h1).mono fun e w' h => ⟨h.1, h.2.below⟩)
  have C2 := Aside0.mk (fun (W : World) (h : Below w.heap.size w W) => show Calls Tryd.prog 22 #[.slice A refs.length c] W fun e w' => e = .returned (.int .i64 e2) ∧ Below W.heap.size W w' from (depotref13_CheckRefs.calls kr A c refs e2 W (Kd.C_below hr h) hc h2).mono fun e w' h => ⟨h.1, h.2.below⟩)
  have d1 : decide (e2 = 0) = false := decide_eq_false he
  clear h1 h2 hr
  go_enter Tryd.func9, Tryd.ntmps9
  go_wp2_with (first
    | (go_at_call 21; (refine (C1.out _).mono ?_); rintro e w2 ⟨rfl, hb2⟩; have HB2 := Aside0.mk (HB1.out.trans (hb2.mono HB1.out.size)); clear hb2)
    | (go_at_call 22; ((with_reducible refine (C2.out w2 HB2.out).mono ?_)); rintro e w3 ⟨rfl, hb3⟩; have HB3 := Aside0.mk (HB2.out.trans (hb3.mono HB2.out.size)); clear hb3))
  go_ret2
  exact ⟨rfl, HB3.out⟩
/-- The document's Make answers as the program's. -/
theorem rmake_all (refs : List ByteArray) (d : List UInt8) (hd : d.length = 32) (label p : ByteArray) (e1 : Int) (hsz : ∀ x ∈ refs, x.size ≤ 140737488351232)
    (h : (e1 ≠ 0 ∧ p = ⟨#[]⟩ ∧ (labelNo (bs label) = e1 ∨ labelNo (bs label) = 0 ∧ Refs.refsNo refs = e1)) ∨ (e1 = 0 ∧ labelNo (bs label) = 0 ∧ Refs.refsNo refs = 0 ∧ MadeAs refs d label p)) :
    ∀ W, ∀ (A : Option Addr) (c : Nat), Kd.C Kd.string W A refs.length refs → refs.length ≤ c → Calls Tryd.prog 9 #[.slice A refs.length c, .agg (d.map bcell).toArray, .string label] W fun e w' => e = .returned (.tuple #[.string p, .int .i64 e1]) ∧ Below W.heap.size W w' := by
  intro W A c hr hc
  obtain ⟨kl, hl⟩ := SpathPure.ref_label label
  have h1 := hl kl (Nat.le_refl _)
  obtain ⟨kr, hkr⟩ := Refs.ref_refs refs hsz
  have h2 := hkr kr (Nat.le_refl _)
  rcases h with ⟨he, rfl, hl | ⟨hl, hq⟩⟩ | ⟨rfl, hl, hq, hxs, b32, ⟨kp, hp⟩, hxl, rfl, hbl, rfl⟩
  · rw [hl] at h1
    exact rmake_label W A _ c d label e1 kl h1 he
  · rw [hl] at h1
    rw [hq] at h2
    exact rmake_refs W A c refs d label e1 kl kr hr hc h1 h2 he
  · rw [hl] at h1
    rw [hq] at h2
    obtain ⟨hlen, hsm⟩ := TextPure.refs_small refs hq
    have hll := TextPure.label_len hl
    rw [← size_bs] at hll
    have hts := TextPure.text_size refs hsm
    have hn := hts refs.length
    have hdb : bs (⟨d.toArray⟩ : ByteArray) = d := bs_mk d
    obtain ⟨k1, hk1⟩ := HexPure.prog_hex ⟨d.toArray⟩ (by rw [hdb, hd]; decide)
    obtain ⟨kh, hkh⟩ := HexPure.ref_hex ⟨d.toArray⟩ (by rw [hdb, hd]; decide)
    have hmono : ∀ a b : Nat, a ≤ b → ∀ r, radix_Hex.f a ⟨d.toArray⟩ = some r → radix_Hex.f b ⟨d.toArray⟩ = some r := by
      intro a b hab r hr
      obtain ⟨n, rfl⟩ := Nat.exists_eq_add_of_le hab
      clear hab
      induction n with
      | zero => exact hr
      | succ n ih => exact radix_Hex.mono _ (a + n) r ih
    have hxe : hxs = strOfNums (HexPure.hexN (bs ⟨d.toArray⟩)) := Option.some.inj ((hmono kp (max kp k1) (Nat.le_max_left _ _) _ hp).symm.trans (hk1 _ (Nat.le_max_right _ _)))
    have h3 := hkh kh (Nat.le_refl _)
    rw [← hxe] at h3
    obtain ⟨txt, htx⟩ : ∃ txt, textTo refs refs.length ++ shaC ++ hxs ++ dirC ++ label = txt := ⟨_, rfl⟩
    have hts2 : txt.size < 1000000 := by
      rw [← htx, size_bs, bs_append, bs_append, bs_append, bs_append, List.length_append, List.length_append, List.length_append, List.length_append, ← size_bs, ← size_bs, ← size_bs, ← size_bs, ← size_bs]
      have q1 : shaC.size = 8 := rfl
      have q2 : dirC.size = 15 := rfl
      omega
    rw [htx] at hbl ⊢
    have hof : (bs (⟨(of txt.data.toList).toArray⟩ : ByteArray)).length < 1000000 := by rw [bs_mk, of_len]; decide
    obtain ⟨kf, hkf⟩ := rfold ⟨(of txt.data.toList).toArray⟩ 20 (by decide) (by decide) hof
    have h4 := hkf kf (Nat.le_refl _)
    rw [bs_mk] at h4
    obtain ⟨kb, hkb⟩ := B32.ref_enc ⟨(fold (of txt.data.toList) 20).toArray⟩ (by rw [bs_mk, fold, List.length_take, foldTo_len]; decide)
    have h5 := hkb kb (Nat.le_refl _)
    rw [bs_mk] at h5
    exact rmake_good W A c refs d hd label hxs txt _ kl kr kh kf kb hr hc hlen h1 h2 h3 (by omega) (by omega) (fun k hk => by have := hts k; omega) (fun k => by have := hsm k; omega) htx (by omega) h4 h5 (by show (⟨(B32.enc (fold (of (bs txt)) 20)).toArray⟩ : ByteArray).size < 1000000; rw [hbl]; decide)
set_option maxRecDepth 100000 in
set_option maxHeartbeats 8000000 in
theorem makes_walk (w : World) (hG : Glob w) (A : Option Addr) (c : Nat) (refs : List ByteArray) (d : List UInt8) (hd : d.length = 32) (label p : ByteArray) (e1 : Int) (hr : Kd.C Kd.string w A refs.length refs) (hc : refs.length ≤ c)
    (ka : Nat) (ha : depotlaw13_awake.f ka = some true) (hM : MakeGives refs d label p e1) (hM2 : ∀ W, ∀ (A : Option Addr) (c : Nat), Kd.C Kd.string W A refs.length refs → refs.length ≤ c → Calls Tryd.prog 9 #[.slice A refs.length c, .agg (d.map bcell).toArray, .string label] W fun e w' => e = .returned (.tuple #[.string p, .int .i64 e1]) ∧ Below W.heap.size W w') :
    Calls Tryd.prog 3 #[.slice A refs.length c, .agg (d.map bcell).toArray, .string label] w fun e w' => e = .returned (.bool true) ∧ Below w.heap.size w w' := by
  have C0 := Aside0.mk (fun W => depotlaw13_awake.calls ka true W ha)
  have CM := Aside0.mk (fun (W : World) (h : Below w.heap.size w W) => hM W (hG.below h hG.lt) A c (Kd.C_below hr h) hc)
  have CR := Aside0.mk (fun (W : World) (h : Below w.heap.size w W) => hM2 W A c (Kd.C_below hr h) hc)
  have HB1 := Aside0.mk ((Below.refl w.heap.size w).alloc (Nat.le_refl _) (.cells (d.map bcell).toArray 23))
  have HX1 := Aside0.mk (World.alloc_heap_new w (.cells (d.map bcell).toArray 23))
  have HD := Aside0.mk hd
  have c3 : (p.toList == p.toList) = true := by simp
  clear hG hd ha hM hM2 hr
  go_enter Tryd.func3, Tryd.ntmps3
  go_wp2_with (first
    | (go_at_call 7; (refine (C0.out _).mono ?_); rintro e w2 ⟨rfl, hb2⟩; have HB2 := Aside0.mk (HB1.out.trans (hb2.mono HB1.out.size)); have HX2 := Aside0.mk ((hb2.block _ (Array.getElem?_eq_some_iff.1 HX1.out).1).trans HX1.out); clear hb2)
    | ((with_reducible refine gate_dst (N := 15) rfl ?_); refine wpList_load_mid rfl 23 (.tmp 4) rfl w.heap.size 0 rfl (d.map bcell) _ (range_row HX2.out) Tryd.underlying23 rfl (by rw [List.length_map, HD.out]; kernel_rfl) ?_)
    | (go_at_call 8; ((with_reducible refine (CM.out w2 HB2.out).mono ?_)); rintro e w3 ⟨rfl, hb3⟩; have HB3 := Aside0.mk (HB2.out.trans (hb3.mono HB2.out.size)); have HX3 := Aside0.mk ((hb3.block _ (Array.getElem?_eq_some_iff.1 HX2.out).1).trans HX2.out); clear hb3)
    | ((with_reducible refine gate_dst (N := 22) rfl ?_); refine wpList_load_mid rfl 23 (.tmp 4) rfl w.heap.size 0 rfl (d.map bcell) _ (range_row HX3.out) Tryd.underlying23 rfl (by rw [List.length_map, HD.out]; kernel_rfl) ?_)
    | (go_at_call 9; ((with_reducible refine (CR.out w3 HB3.out).mono ?_)); rintro e w4 ⟨rfl, hb4⟩; have HB4 := Aside0.mk (HB3.out.trans (hb4.mono HB3.out.size)); clear hb4))
  go_ret
  exact ⟨rfl, HB4.out⟩
/-- SpathMakes answers true. -/
theorem makes_true (w : World) (hG : Glob w) (A : Option Addr) (c : Nat) (refs : List ByteArray) (d : List UInt8) (hd : d.length = 32) (label : ByteArray) (hr : Kd.C Kd.string w A refs.length refs) (hc : refs.length ≤ c) (hsz : ∀ x ∈ refs, x.size ≤ 140737488351232) :
    Calls Tryd.prog 3 #[.slice A refs.length c, .agg (d.map bcell).toArray, .string label] w fun e w' => e = .returned (.bool true) ∧ Below w.heap.size w w' := by
  obtain ⟨ka, hka⟩ := SpathPure.awake
  obtain ⟨p, e1, hM, h⟩ := make_all refs d hd label hsz
  exact makes_walk w hG A c refs d hd label p e1 hr hc ka (hka ka (Nat.le_refl _)) hM (rmake_all refs d hd label p e1 hsz h)
end Go.Proofs.YtglhbbijoeeclaaDoor.Sha
/- A world in which the listed variables (SHA-256's two tables) read as the row lists them: the door's own heap, the tables laid. -/
namespace Go.Proofs.YtglhbbijoeeclaaDoor.Door
open Go
set_option linter.unusedVariables false

def cellsOfData : DataW Unit → Array Value
  | .agg l => (l.map fun | .lit (.int k x) => Value.int k x | _ => undef).toArray
  | _ => #[]
/-- The two tables' numbers. -/
theorem gStart : Tryd.prog.globalNamed "depot/sha.start" = some 0 := by kernel_rfl
theorem gRounds : Tryd.prog.globalNamed "depot/sha.rounds" = some 1 := by kernel_rfl
noncomputable def W0 (os : Os) : World :=
  { World.doorLaid Tryd.prog 19 os with heap := ((World.doorLaid Tryd.prog 19 os).heap.modify 0 fun | .cells _ t f => .cells (cellsOfData Rows.laid_depot_sha_start) t f | o => o).modify 1 fun | .cells _ t f => .cells (cellsOfData Rows.laid_depot_sha_rounds) t f | o => o }
abbrev laid2 : List (String × DataW Unit) := Rows.spathTextRow.laid
theorem met (os : Os) (args : Array Value) : laidMetH Tryd.prog laid2 ((W0 os).forCall (fun _ _ => 0) ⟨#[], args, []⟩).memory :=
  laidMetH_of_parts3 (fuel := 8) (laidMet_of_run' 8 (by kernel_rfl) (by kernel_rfl)) (by kernel_rfl) (by kernel_rfl)
theorem shaped (os : Os) (args : Array Value) : ((W0 os).forCall (fun _ _ => 0) ⟨#[], args, []⟩).Shaped Tryd.prog := World.shaped_of_RefB (by kernel_rfl) (by kernel_rfl)
end Go.Proofs.YtglhbbijoeeclaaDoor.Door
/- What came in, opened by its kind: a reading of a value ys data gives the Lean value of the print's kinds, with its sizes. For rows over slices and structs. -/
set_option linter.unusedVariables false
set_option linter.unusedSimpArgs false
namespace Go.Proofs.YtglhbbijoeeclaaDoor.Opens
open Go.RowKit Go.Deep Go.Proofs.YtglhbbijoeeclaaDoorW.PrintWords

section
variable {α β : Type}
/-- A reading at type t gives a value of kind d: its cells (K), its weights (each no more than one of the datum's, or 0), its bulk, and what is good about its numbers. -/
structure Opens (P : Program) (t : TypeId) (d : Kd α) (Wt : α → List Nat) (Bk : α → Nat) (Gd : α → Prop) : Prop where
  sz : P.cellsOf t = d.sz
  out : ∀ {H : Type} {enc : TypeId × Value → H} {w : World} {base : Nat} {spare : Nat → Bool} {held : Bool} {fuel : Nat} {cs : List Value} {x : DataW H × List MemPlace},
    DataW.trod enc P w base spare held fuel t cs = some x → ∃ a, d.K w a cs ∧ (∀ n ∈ Wt a, n = 0 ∨ ∃ m ∈ x.1.weights P t, n ≤ m) ∧ Bk a ≤ Rows.uptoBulk x.1 ∧ Gd a

variable {P : Program} {t : TypeId}
theorem opens_string (ht : P.underlying t = some .string) (hs : P.cellsOf t = 1) : Opens P t Kd.string (fun s => [s.size]) (fun s => s.size + 1) (fun s => s.size ≤ maxLen) := by
  refine ⟨hs, fun {H enc w base spare held fuel cs x} h => ?_⟩
  obtain ⟨s, rfl, rfl, hw⟩ := DataW.trod_string ht h
  refine ⟨s, rfl, ?_, ?_, hw⟩
  · intro n hn
    rw [List.mem_singleton] at hn
    refine .inr ⟨s.data.toList.length, by rw [DataW.weights]; exact List.mem_singleton.2 rfl, ?_⟩
    rw [hn, Array.length_toList]
    exact Nat.le_refl _
  · rw [Rows.uptoBulk, Array.length_toList]
    exact Nat.le_refl _
theorem opens_bool (ht : P.underlying t = some .bool) (hs : P.cellsOf t = 1) : Opens P t Kd.bool (fun _ => []) (fun _ => 1) (fun _ => True) := by
  refine ⟨hs, fun {H enc w base spare held fuel cs x} h => ?_⟩
  obtain ⟨b, rfl, rfl⟩ := DataW.trod_bool ht h
  exact ⟨b, rfl, fun _ h => absurd h (by simp), by rw [Rows.uptoBulk] <;> simp, trivial⟩
theorem opens_int {k : IntKind} (ht : P.underlying t = some (.int k)) (hs : P.cellsOf t = 1) : Opens P t (Kd.int k) (fun _ => []) (fun _ => 1) (fun n => (Lit.int k n).wf = true) := by
  refine ⟨hs, fun {H enc w base spare held fuel cs x} h => ?_⟩
  obtain ⟨n, rfl, rfl, hw⟩ := DataW.trod_int ht h
  exact ⟨n, rfl, fun _ h => absurd h (by simp), by rw [Rows.uptoBulk] <;> simp, hw⟩

theorem list_of {Q : Nat → α → Prop} : ∀ (n : Nat), (∀ i, i < n → ∃ a, Q i a) → ∃ ys : List α, ys.length = n ∧ ∀ i a, ys[i]? = some a → Q i a
  | 0, _ => ⟨[], rfl, fun i a h => by simp at h⟩
  | n + 1, h => by
    obtain ⟨ys, hl, hq⟩ := list_of n (fun i hi => h i (by omega))
    obtain ⟨a, ha⟩ := h n (by omega)
    refine ⟨ys ++ [a], by simp [hl], fun i b hb => ?_⟩
    rcases Nat.lt_or_ge i n with hi | hi
    · rw [List.getElem?_append_left (by omega)] at hb
      exact hq i b hb
    · have : i < (ys ++ [a]).length := (List.getElem?_eq_some_iff.1 hb).1
      simp [hl] at this
      have e : i = n := by omega
      subst e
      rw [List.getElem?_append_right (by omega), hl, Nat.sub_self] at hb
      simp at hb
      subst hb
      exact ha
theorem sum_le_range (ys : List α) (Bk : α → Nat) (b : Nat → Nat) (h : ∀ i a, ys[i]? = some a → Bk a ≤ b i) : (ys.map Bk).sum ≤ ((List.range ys.length).map b).sum := by
  induction ys generalizing b with
  | nil => simp
  | cons a ys ih =>
    have h0 := h 0 a rfl
    have h1 := ih (fun i => b (i + 1)) (fun i a ha => h (i + 1) a (by simpa using ha))
    rw [List.length_cons, List.range_succ_eq_map, List.map_cons, List.sum_cons, List.map_cons, List.sum_cons, List.map_map]
    have e : (List.map (b ∘ Nat.succ) (List.range ys.length)) = List.map (fun i => b (i + 1)) (List.range ys.length) := rfl
    rw [e]
    omega
theorem bulkAll_sum {H : Type} (l : List (DataW H)) : Rows.uptoBulkAll l = (l.map Rows.uptoBulk).sum := by
  induction l with
  | nil => rfl
  | cons d l ih => rw [Rows.uptoBulkAll, ih, List.map_cons, List.sum_cons]
theorem weightsAll_mem {H : Type} {e : TypeId} : ∀ (l : List (DataW H)) (d : DataW H), d ∈ l → ∀ m ∈ d.weights P e, m ∈ DataW.weightsAll P e l
  | [], d, h => absurd h (by simp)
  | d' :: l, d, h => by
    intro m hm
    rw [DataW.weightsAll, List.mem_append]
    rcases List.mem_cons.1 h with rfl | h
    · exact .inl hm
    · exact .inr (weightsAll_mem l d h m hm)

theorem opens_slice {e : TypeId} {d : Kd α} {Wt : α → List Nat} {Bk : α → Nat} {Gd : α → Prop} (ht : P.underlying t = some (.slice e)) (hs : P.cellsOf t = 1) (he : Opens P e d Wt Bk Gd) :
    Opens P t (Kd.slice e d) (fun xs => (xs.length * P.bytesOf e) :: xs.flatMap Wt) (fun xs => (xs.map Bk).sum + 1) (fun xs => xs.length ≤ maxLen ∧ ∀ x ∈ xs, Gd x) := by
  refine ⟨hs, fun {H enc w base spare held fuel cs x} h => ?_⟩
  rcases open_slice ht h with ⟨rfl, rfl⟩ | ⟨a, len, cap, m, n, D, Pl, rfl, hb, hl, hm, hmm, rfl, hx⟩
  · exact ⟨[], ⟨none, 0, rfl, Nat.le_refl _, Kd.C_nil d w⟩, fun n hn => .inl (by simpa using hn), by rw [Rows.uptoBulk]; simp, by simp, by simp⟩
  · have hlm : len ≤ m := by rw [hmm]; split <;> omega
    have each : ∀ i, i < len → ∃ b : α, (∃ cs', w.cells? base (a.add (i * P.cellsOf e)) (P.cellsOf e) = some cs' ∧ d.K w b cs') ∧ (∀ q ∈ Wt b, q = 0 ∨ ∃ r ∈ (D i).weights P e, q ≤ r) ∧ Bk b ≤ Rows.uptoBulk (D i) ∧ Gd b := by
      intro i hi
      obtain ⟨cs', h1, h2⟩ := hx i (by omega)
      obtain ⟨b, hK, hw, hk, hg⟩ := he.out h2
      exact ⟨b, ⟨cs', h1, hK⟩, hw, hk, hg⟩
    obtain ⟨ys, hal, has⟩ := list_of len each
    subst hal
    refine ⟨ys, ⟨some a, cap, rfl, hl, rfl, by unfold maxLen at hm; omega, fun hp => ⟨a, rfl, fun j p hj => ?_⟩⟩, ?_, ?_, by omega, ?_⟩
    · obtain ⟨⟨cs', h1, hK⟩, _⟩ := has j p hj
      refine ⟨cs', d.K_len hK, hK, fun i u hu => ?_⟩
      have hc := World.cells?_some h1
      rw [he.sz] at hc
      obtain ⟨hc0, hc1, hc2⟩ := hc
      have hi : i < d.sz := by rw [← d.K_len hK]; exact (List.getElem?_eq_some_iff.1 hu).1
      have := hc2 i (by omega)
      rw [hu] at this
      rw [Go.Deep.add_add] at this
      exact this
    · intro q hq
      rw [List.mem_cons, List.mem_flatMap] at hq
      have hwt : (DataW.slice ((List.range ys.length).map D) ((List.range (m - ys.length)).map fun j => D (ys.length + j)) : DataW H).weights P t = (((List.range ys.length).map D).length + ((List.range (m - ys.length)).map fun j => D (ys.length + j)).length) * P.bytesOf e :: (DataW.weightsAll P e ((List.range ys.length).map D) ++ DataW.weightsAll P e ((List.range (m - ys.length)).map fun j => D (ys.length + j))) := by
        rw [DataW.weights, ht]
      show q = 0 ∨ ∃ r ∈ (DataW.slice ((List.range ys.length).map D) ((List.range (m - ys.length)).map fun j => D (ys.length + j)) : DataW H).weights P t, q ≤ r
      rw [hwt]
      rcases hq with rfl | ⟨b, hbm, hq⟩
      · refine .inr ⟨_, List.mem_cons_self, ?_⟩
        refine Nat.mul_le_mul_right _ ?_
        simp
      · obtain ⟨i, hi⟩ := List.getElem?_of_mem hbm
        have hil : i < ys.length := (List.getElem?_eq_some_iff.1 hi).1
        obtain ⟨_, hw, _⟩ := has i b hi
        rcases hw q hq with h0 | ⟨r, hr, hqr⟩
        · exact .inl h0
        · exact .inr ⟨r, List.mem_cons_of_mem _ (List.mem_append_left _ (weightsAll_mem _ (D i) (List.mem_map.2 ⟨i, List.mem_range.2 hil, rfl⟩) r hr)), hqr⟩
    · show _ ≤ Rows.uptoBulk (DataW.slice ((List.range ys.length).map D) ((List.range (m - ys.length)).map fun j => D (ys.length + j)) : DataW H)
      rw [Rows.uptoBulk, bulkAll_sum, List.map_map]
      have := sum_le_range ys Bk (fun i => Rows.uptoBulk (D i)) (fun i b hb => (has i b hb).2.2.1)
      have e2 : (List.map (Rows.uptoBulk ∘ D) (List.range ys.length)) = List.map (fun i => Rows.uptoBulk (D i)) (List.range ys.length) := rfl
      rw [e2]
      omega
    · intro b hbm
      obtain ⟨i, hi⟩ := List.getElem?_of_mem hbm
      exact (has i b hi).2.2.2

/-- Fields, from a place on. -/
structure OpensF (P : Program) (fs : List Field) (off : Nat) (d : Kd α) (Wt : α → List Nat) (Bk : α → Nat) (Gd : α → Prop) : Prop where
  out : ∀ {H : Type} {enc : TypeId × Value → H} {w : World} {base : Nat} {spare : Nat → Bool} {held : Bool} {fuel : Nat} {cs : List Value} {xs : List (DataW H × List MemPlace)},
    cs.length = off + d.sz → xs.length = fs.length → (∀ (i : Nat) (f : Field), fs[i]? = some f → DataW.trod enc P w base spare held fuel f.type ((cs.drop f.offset).take (P.cellsOf f.type)) = xs[i]?) →
    ∃ a, d.K w a (cs.drop off) ∧ (∀ n ∈ Wt a, n = 0 ∨ ∃ m ∈ DataW.weightsEach P (fs.map (·.type)) (xs.map (·.1)), n ≤ m) ∧ Bk a ≤ Rows.uptoBulkAll (xs.map (·.1)) ∧ Gd a
theorem opensF_one {f : Field} {off : Nat} {d : Kd α} {Wt : α → List Nat} {Bk : α → Nat} {Gd : α → Prop} (ho : f.offset = off) (he : Opens P f.type d Wt Bk Gd) : OpensF P [f] off d Wt Bk Gd := by
  refine ⟨fun {H enc w base spare held fuel cs xs} hc hl h => ?_⟩
  match xs, hl with
  | [x], _ =>
    have h0 := h 0 f rfl
    rw [ho, he.sz, List.take_of_length_le (by rw [List.length_drop]; omega)] at h0
    obtain ⟨a, hK, hw, hb, hg⟩ := he.out h0
    refine ⟨a, hK, fun n hn => ?_, ?_, hg⟩
    · rcases hw n hn with h | ⟨m, hm, hle⟩
      · exact .inl h
      · refine .inr ⟨m, ?_, hle⟩
        simp only [List.map_cons, List.map_nil, DataW.weightsEach, List.append_nil]
        exact hm
    · simp only [List.map_cons, List.map_nil, Rows.uptoBulkAll]
      omega
theorem opensF_cons {f : Field} {fs : List Field} {off : Nat} {d : Kd α} {d' : Kd β} {Wt : α → List Nat} {Bk : α → Nat} {Gd : α → Prop} {Wt' : β → List Nat} {Bk' : β → Nat} {Gd' : β → Prop}
    (ho : f.offset = off) (he : Opens P f.type d Wt Bk Gd) (hr : OpensF P fs (off + d.sz) d' Wt' Bk' Gd') :
    OpensF P (f :: fs) off (Kd.pair d d') (fun x => Wt x.1 ++ Wt' x.2) (fun x => Bk x.1 + Bk' x.2) (fun x => Gd x.1 ∧ Gd' x.2) := by
  refine ⟨fun {H enc w base spare held fuel cs xs} hc hl h => ?_⟩
  have hsz : (Kd.pair d d').sz = d.sz + d'.sz := rfl
  rw [hsz] at hc
  match xs, hl with
  | x :: xs, hl =>
    have h0 := h 0 f rfl
    rw [ho, he.sz] at h0
    obtain ⟨a, hK, hw, hb, hg⟩ := he.out h0
    obtain ⟨b, hK', hw', hb', hg'⟩ := hr.out (enc := enc) (w := w) (base := base) (spare := spare) (held := held) (fuel := fuel) (cs := cs) (xs := xs) (by omega) (by simpa using hl) (fun i f' hf => by simpa using h (i + 1) f' (by simpa using hf))
    refine ⟨(a, b), ⟨(cs.drop off).take d.sz, cs.drop (off + d.sz), ?_, hK, hK'⟩, fun n hn => ?_, ?_, hg, hg'⟩
    · rw [← List.drop_drop, List.take_append_drop]
    · simp only [List.map_cons, DataW.weightsEach, List.mem_append]
      rcases List.mem_append.1 hn with hn | hn
      · rcases hw n hn with h | ⟨m, hm, hle⟩
        · exact .inl h
        · exact .inr ⟨m, .inl hm, hle⟩
      · rcases hw' n hn with h | ⟨m, hm, hle⟩
        · exact .inl h
        · exact .inr ⟨m, .inr hm, hle⟩
    · simp only [List.map_cons, Rows.uptoBulkAll]
      omega
theorem opens_struct {fs : Array Field} {d : Kd α} {Wt : α → List Nat} {Bk : α → Nat} {Gd : α → Prop} (ht : P.underlying t = some (.struct fs)) (hs : P.cellsOf t = d.sz) (he : OpensF P fs.toList 0 d Wt Bk Gd) :
    Opens P t d Wt (fun a => Bk a + 1) Gd := by
  refine ⟨hs, fun {H enc w base spare held fuel cs x} h => ?_⟩
  obtain ⟨xs, n, rfl, rfl, hl, hl2, hx⟩ := DataW.trod_struct ht h
  obtain ⟨a, hK, hw, hb, hg⟩ := he.out (enc := enc) (w := w) (base := base) (spare := spare) (held := held) (fuel := n) (cs := cs) (xs := xs) (by omega) (by simpa using hl2) (fun i f hf => hx i f (by simpa using hf))
  refine ⟨a, by simpa using hK, fun n hn => ?_, ?_, hg⟩
  · rcases hw n hn with h | ⟨m, hm, hle⟩
    · exact .inl h
    · refine .inr ⟨m, ?_, hle⟩
      show m ∈ (DataW.agg (xs.map (·.1))).weights P t
      rw [DataW.weights, ht]
      exact hm
  · show _ ≤ Rows.uptoBulk (DataW.agg (xs.map (·.1)))
    rw [Rows.uptoBulk]
    omega
theorem opens_iso {d : Kd α} {Wt : α → List Nat} {Bk : α → Nat} {Gd : α → Prop} (f : β → α) (g : α → β) (hfg : ∀ a, f (g a) = a) (h : Opens P t d Wt Bk Gd) : Opens P t (Kd.iso d f) (fun b => Wt (f b)) (fun b => Bk (f b)) (fun b => Gd (f b)) := by
  refine ⟨h.sz, fun {H enc w base spare held fuel cs x} hx => ?_⟩
  obtain ⟨a, hK, hw, hb, hg⟩ := h.out hx
  refine ⟨g a, ?_, ?_, ?_, ?_⟩
  · show d.K w (f (g a)) cs
    rw [hfg]; exact hK
  · rw [hfg]; exact hw
  · rw [hfg]; exact hb
  · rw [hfg]; exact hg

/-- At an argument: its weights are within the reach. -/
theorem arg {H : Type} {enc : TypeId × Value → H} {w : World} {base : Nat} {spare : Nat → Bool} {held : Bool} {v : Value} {dd : DataW H} {ps : List MemPlace} {d : Kd α} {Wt : α → List Nat} {Bk : α → Nat} {Gd : α → Prop} (h : Opens P t d Wt Bk Gd)
    (hx : DataW.Trod enc P w base spare held t v dd ps) : ∃ a, d.K w a v.cells.toList ∧ (∀ n ∈ Wt a, n = 0 ∨ ∃ m ∈ dd.weights P t, n ≤ m) ∧ Bk a ≤ Rows.uptoBulk dd ∧ Gd a := by
  obtain ⟨fuel, hf⟩ := hx
  obtain ⟨a, h1, h2, h3, h4⟩ := h.out hf
  exact ⟨a, h1, h2, h3, h4⟩
/-- Each weight of an argument is within the reach of the form. -/
theorem reach {H : Type} {ts : List TypeId} {ds : List (DataW H)} (h : (DataW.weightsEach P ts ds).all (· ≤ reachBytes) = true) {j : Nat} {t : TypeId} {dd : DataW H} (ht : ts[j]? = some t) (hd : ds[j]? = some dd) {l : List Nat}
    (hw : ∀ n ∈ l, n = 0 ∨ ∃ m ∈ dd.weights P t, n ≤ m) : ∀ n ∈ l, n ≤ 140737488351232 := by
  intro n hn
  rcases hw n hn with h0 | ⟨m, hm, hle⟩
  · omega
  · have := DataW.weights_mem_each ht hd m hm
    rw [List.all_eq_true] at h
    have h1 := of_decide_eq_true (h m this)
    unfold reachBytes at h1
    omega
end
end Go.Proofs.YtglhbbijoeeclaaDoor.Opens
/- Arrays of numbers, opened; SHA-256's tables out of the row's condition. -/
set_option linter.unusedVariables false
set_option linter.unusedSimpArgs false
namespace Go.Proofs.YtglhbbijoeeclaaDoor.Sha
open Go Go.RowKit Go.Proofs.YtglhbbijoeeclaaDoorW.PrintWords Go.Proofs.YtglhbbijoeeclaaDoor.Bytes

section
variable {H : Type} {enc : TypeId × Value → H} {P : Program} {w : World} {base : Nat} {spare : Nat → Bool} {held : Bool} {fuel : Nat} {t : TypeId} {cs : List Value} {x : DataW H × List MemPlace}
/-- An array of whole numbers: its cells, its data. -/
theorem open_ints {k : IntKind} {n : Nat} {e : TypeId} (ht : P.underlying t = some (.array n e)) (he : P.underlying e = some (.int k)) (hc : P.cellsOf e = 1) (hct : P.cellsOf t = n)
    (h : DataW.trod enc P w base spare held fuel t cs = some x) :
    ∃ l : List Int, l.length = n ∧ cs = l.map (fun i => Value.int k i) ∧ x = (.agg (l.map fun i => .lit (.int k i)), []) ∧ ∀ i ∈ l, (Lit.int k i).wf = true := by
  obtain ⟨xs, m, rfl, rfl, hl, hx, hr⟩ := DataW.trod_array ht h
  rw [hct] at hl
  have each : ∀ i, i < n → ∃ z : Int, cs[i]? = some (.int k z) ∧ xs[i]? = some (.lit (.int k z), []) ∧ (Lit.int k z).wf = true := by
    intro i hi
    have h2 := hr i hi
    rw [hc, Nat.mul_one, List.getElem?_eq_getElem (by omega), List.drop_eq_getElem_cons (by omega), List.take_succ_cons, List.take_zero] at h2
    obtain ⟨z, h3, h4, h5⟩ := DataW.trod_int he h2
    refine ⟨z, ?_, ?_, h5⟩
    · rw [List.getElem?_eq_getElem (by omega)]
      injection h3 with h3 _
      rw [h3]
    · rw [List.getElem?_eq_getElem (by omega), h4]
  obtain ⟨l, hll, hla⟩ := Opens.list_of n each
  have at_ : ∀ i, i < n → ∃ z, l[i]? = some z ∧ cs[i]? = some (.int k z) ∧ xs[i]? = some (.lit (.int k z), []) := fun i hi => by
    have := List.getElem?_eq_getElem (l := l) (i := i) (by omega)
    exact ⟨l[i], this, (hla i _ this).1, (hla i _ this).2.1⟩
  have e1 : cs = l.map (fun i => Value.int k i) := by
    refine List.ext_getElem? fun i => ?_
    rw [List.getElem?_map]
    by_cases hi : i < n
    · obtain ⟨z, h1, h2, _⟩ := at_ i hi
      rw [h1, h2]; rfl
    · rw [List.getElem?_eq_none (by omega), List.getElem?_eq_none (by omega)]; rfl
  have e2 : xs = l.map (fun i => ((.lit (.int k i), []) : DataW H × List MemPlace)) := by
    refine List.ext_getElem? fun i => ?_
    rw [List.getElem?_map]
    by_cases hi : i < n
    · obtain ⟨z, h1, _, h3⟩ := at_ i hi
      rw [h1, h3]; rfl
    · rw [List.getElem?_eq_none (by omega), List.getElem?_eq_none (by omega)]; rfl
  refine ⟨l, hll, e1, ?_, fun i hi => ?_⟩
  · rw [e2, List.map_map]
    congr 1
    clear e2 e1 at_ hla hll
    induction l with
    | nil => rfl
    | cons a l ih => rw [List.map_cons, List.flatMap_cons, ih]; rfl
  · obtain ⟨j, hj⟩ := List.getElem?_of_mem hi
    exact (hla j i hj).2.2
end
/-- Numbers within a byte's range are bytes. -/
theorem bytes_of (l : List Int) (h : ∀ i ∈ l, (Lit.int .u8 i).wf = true) : ∃ d : List UInt8, l = d.map B := by
  refine ⟨l.map fun i => UInt8.ofNat i.toNat, ?_⟩
  rw [List.map_map]
  conv => lhs; rw [← List.map_id l]
  refine List.map_congr_left fun i hi => ?_
  have := bounds_u8 (h i hi)
  show i = ((UInt8.ofNat i.toNat).toNat : Int)
  rw [UInt8.toNat_ofNat']
  omega
theorem lits_inj {k : IntKind} {a b : List Int} (h : (DataW.agg (a.map fun i => .lit (.int k i)) : DataW Unit) = .agg (b.map fun i => .lit (.int k i))) : a = b := by
  injection h with h
  have hinj : Function.Injective (fun i : Int => (DataW.lit (.int k i) : DataW Unit)) := fun x y hxy => by injection hxy with hxy; injection hxy
  exact List.map_inj_right (fun x y hxy => hinj hxy) |>.1 h
theorem rounds_data : (Rows.laid_depot_sha_rounds : DataW Unit) = .agg ((K.map U).map fun i => .lit (.int .u32 i)) := by kernel_rfl
theorem start_data : (Rows.laid_depot_sha_start : DataW Unit) = .agg (([H0.a, H0.b, H0.c, H0.d, H0.e, H0.f, H0.g, H0.k].map U).map fun i => .lit (.int .u32 i)) := by kernel_rfl
theorem gType0 : (Tryd.prog.globals[0]?).map (·.type) = some 70 := by kernel_rfl
theorem gType1 : (Tryd.prog.globals[1]?).map (·.type) = some 85 := by kernel_rfl
/-- One listed table, in the heap. -/
theorem table {w : World} {nm : String} {g n : Nat} {tt e : TypeId} {ws : List Int} {d : DataW Unit} {t : TypeId} {cs : Array Value} {fuel gg : Nat} {p ps : List MemPlace} (hg : Tryd.prog.globalNamed nm = some g) (hgt : (Tryd.prog.globals[g]?).map (·.type) = some tt)
    (htu : Tryd.prog.underlying tt = some (.array n e)) (heu : Tryd.prog.underlying e = some (.int .u32)) (hce : Tryd.prog.cellsOf e = 1) (hct : Tryd.prog.cellsOf tt = n) (hn : 0 < n) (hd : d = .agg (ws.map fun i => .lit (.int .u32 i)))
    (h1 : Tryd.prog.globalNamed nm = some gg) (h2 : (Tryd.prog.globals[gg]?).map (·.type) = some t) (h3 : w.var? Tryd.prog nm = some cs) (h4 : DataW.trod (fun _ => ()) Tryd.prog w 0 (fun _ => true) false fuel t cs.toList = some (d, p))
    (hp : ∀ off, off < cs.size → MemPlace.cell g off ∈ ps) (hall : ∀ b off, MemPlace.cell b off ∈ ps → (∃ c t, w.heap[b]? = some (.cells c t (0, 0)))) :
    ∃ t, w.heap[g]? = some (.cells (ws.map fun i => Value.int .u32 i).toArray t (0, 0)) := by
  rw [hg] at h1
  injection h1 with h1
  subst h1
  rw [hgt] at h2
  injection h2 with h2
  subst h2
  obtain ⟨l, hll, hcs, hx, _⟩ := open_ints htu heu hce hct h4
  injection hx with hx _
  rw [hd] at hx
  have := lits_inj hx
  subst this
  have hsz : cs.size = n := by rw [← Array.length_toList, hcs, List.length_map, hll]
  obtain ⟨c, t, hc⟩ := hall g 0 (hp 0 (by omega))
  unfold World.var? at h3
  rw [hg] at h3
  have h3' : (match w.heap[g]? with | some (.cells cs _ _) => some cs | _ => none) = some cs := h3
  rw [hc] at h3'
  injection h3' with h3'
  subst h3'
  refine ⟨t, ?_⟩
  rw [hc]
  congr 2
  exact Array.toList_inj.1 hcs
theorem row_mem (g : Nat) (n : Nat) : ∀ off, off < n → MemPlace.cell g off ∈ MemPlace.row ⟨g, 0, none⟩ n := by
  intro off h
  unfold MemPlace.row
  refine List.mem_map.2 ⟨off, List.mem_range.2 h, ?_⟩
  simp [Addr.add]
/-- The row's condition gives the tables. -/
theorem glob_of {w : World} (h : laidMetH Tryd.prog Door.laid2 w) : Glob w := by
  have h' : laidMet Tryd.prog Door.laid2 w := h
  obtain ⟨ps, ⟨g1, t1, cs1, fuel1, p1, q1, a1, b1, c1, d1, ⟨g2, t2, cs2, fuel2, p2, q2, a2, b2, c2, d2, hq2, rfl⟩, rfl⟩, _, hall⟩ := h'
  have e1 : g1 = 1 := Option.some.inj (a1.symm.trans Door.gRounds)
  have e2 : g2 = 0 := Option.some.inj (a2.symm.trans Door.gStart)
  have r1 := table (n := 64) (e := 69) (ws := K.map U) Door.gRounds gType1 Tryd.underlying85 Tryd.underlying69 (by kernel_rfl) (by kernel_rfl) (by omega) rounds_data a1 b1 c1 d1 (fun off ho => by
    subst e1
    exact List.mem_append_left _ (List.mem_append_left _ (row_mem _ _ off ho))) (fun b off hb => (hall b off hb).1)
  have r2 := table (n := 8) (e := 69) (ws := [H0.a, H0.b, H0.c, H0.d, H0.e, H0.f, H0.g, H0.k].map U) Door.gStart gType0 Tryd.underlying70 Tryd.underlying69 (by kernel_rfl) (by kernel_rfl) (by omega) start_data a2 b2 c2 d2 (fun off ho => by
    subst e2
    exact List.mem_append_right _ (List.mem_append_left _ (List.mem_append_left _ (row_mem _ _ off ho)))) (fun b off hb => (hall b off hb).1)
  refine ⟨?_, ?_⟩
  · obtain ⟨t, ht⟩ := r1
    exact ⟨t, by rw [ht, List.map_map]; rfl⟩
  · obtain ⟨t, ht⟩ := r2
    exact ⟨t, ht⟩
end Go.Proofs.YtglhbbijoeeclaaDoor.Sha
