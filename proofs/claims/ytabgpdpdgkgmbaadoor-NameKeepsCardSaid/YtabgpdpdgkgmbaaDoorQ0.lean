/- By a program of this session's: a plain Lean function for a Go function, and its contract. -/
import Derived.Test.YtabgpdpdgkgmbaaDoorProg
import Derived.Below
import Derived.Deep.Draws
import Derived.Deep.AppendLies
import Derived.Maps.AppendAt
import Derived.OwnWalk
import Derived.Laws.BytesArg
import Derived.Laws.MakeOwn
import Derived.Laws.OwnMore
import Derived.Deep.OwnRows
import Derived.Tactics
import Derived.Lib.ConvBytes
import Derived.Laws.Slices
import Derived.WalkKit
import Derived.KernelRfl
import Derived.RowKit3
import Derived.Deep.LoopGhost
import Derived.Deep.QuietTactic
import Derived.BigQuiet
import Derived.WideLaws
import Derived.Deep.DeepCutAuto
import Derived.Deep.CutBlock
import Derived.Deep.RegionHeld3
import Derived.Laws.Rows
import Derived.Lib.AppendStr
import Derived.ArgAppend
import Derived.Laws.IdiomCopy
import Derived.OrdersHeld
import Derived.Laws.BitsLemmas
import Derived.RowKit
import Derived.Test.YtabgpdpdgkgmbaaDoorOrd
import Derived.Test.YtabgpdpdgkgmbaaDoorWordsMore
import Derived.Test.YtabgpdpdgkgmbaaDoorWWords
import Derived.Test.YtabgpdpdgkgmbaaDoorWLast
import Derived.Test.YtabgpdpdgkgmbaaDoorWTab
import Derived.Test.YtabgpdpdgkgmbaaDoorWFour
import Derived.Test.YtabgpdpdgkgmbaaDoorWQPut
import Derived.Test.YtabgpdpdgkgmbaaDoorWApart
import Derived.Test.YtabgpdpdgkgmbaaDoorWArr
import Derived.Test.YtabgpdpdgkgmbaaDoorWZeros
import Derived.Test.YtabgpdpdgkgmbaaDoorWFoot
import Derived.Test.YtabgpdpdgkgmbaaDoorWKept
import Derived.Test.YtabgpdpdgkgmbaaDoorWShare
import Derived.Test.YtabgpdpdgkgmbaaDoorWN
import Derived.Test.YtabgpdpdgkgmbaaDoorWFootNe
import Derived.Test.YtabgpdpdgkgmbaaDoorWAt
import Derived.Test.YtabgpdpdgkgmbaaDoorWEqStruct
import Derived.Test.YtabgpdpdgkgmbaaDoorWRepsOne
import Derived.Test.YtabgpdpdgkgmbaaDoorWInv
import Derived.Test.YtabgpdpdgkgmbaaDoorWInvWords
import Derived.Test.YtabgpdpdgkgmbaaDoorWGuard
import Derived.Test.YtabgpdpdgkgmbaaDoorWNEv
import Derived.Test.YtabgpdpdgkgmbaaDoorWMore
namespace Go.Proofs.YtabgpdpdgkgmbaaDoor.Q
open Go.RowKit Go.Proofs.YtabgpdpdgkgmbaaDoorW.PrintWords Go.Proofs.YtabgpdpdgkgmbaaDoorW.PrintLast Go.Proofs.YtabgpdpdgkgmbaaDoorW.PrintMore
attribute [local go_sem] max2_int min2_int max_two min_two max_three min_three max_four min_four Go.Proofs.YtabgpdpdgkgmbaaDoor.Ord.str_leq Go.Proofs.YtabgpdpdgkgmbaaDoor.Ord.str_gtr Go.Proofs.YtabgpdpdgkgmbaaDoor.Ord.str_geq   -- for this text's walks alone
set_option linter.unusedVariables false
set_option linter.unusedSimpArgs false



def errW : Option Int → Value
  | none => .nilIface
  | some c => .iface 0 (.int .i64 c)
theorem errW_none : errW none = .nilIface := rfl
theorem errW_some (c : Int) : errW (some c) = .iface 0 (.int .i64 c) := rfl

theorem info9 : (Tryd.prog.info? 9).map (fun i => (i.zero, i.size, i.bytes)) = some (some (.string ⟨#[]⟩), 1, 16) := by kernel_rfl
-- the values' own types
def rd_L1 (xs : List (List ByteArray)) (i : Int) : (List ByteArray) := xs.getD i.toNat ([] : List ByteArray)
theorem at_L1 {w : World} {A : Option Addr} {n : Nat} {xs : List (List ByteArray)} (h : Kd.C (Kd.slice 9 Kd.string) w A n xs) (i : Int) (h0 : 0 ≤ i) (h1 : i < n) : ∃ ad A0 c0, A = some ad ∧ w.cell? (ad.add i.toNat) = some (.slice A0 (rd_L1 xs i).length c0) ∧ (rd_L1 xs i).length ≤ c0 ∧ Kd.string.C w A0 (rd_L1 xs i).length (rd_L1 xs i) := by
  obtain ⟨ad, c, e, _, hK, hc0⟩ := Kd.C_get h ([] : List ByteArray) i h0 h1
  have hc : ∀ j u, c[j]? = some u → w.cell? (ad.add (i.toNat * 1 + j)) = some u := hc0
  obtain ⟨A0, c0, rfl, l0, g0⟩ := hK
  exact ⟨ad, A0, c0, e, by have hq := hc 0 _ rfl; rwa [Nat.mul_one, Nat.add_zero] at hq, l0, g0⟩

/-! #### struct type 26 -/
structure S26 where
  f0 : Int
  f1 : Int
def z26 : S26 := ⟨(0 : Int), (0 : Int)⟩
def k26 : Kd S26 := Kd.iso (Kd.pair (Kd.int .i64) (Kd.int .i64)) (fun x : S26 => (x.f0, x.f1))
theorem k26_open {w : World} {x : S26} {cs : List Value} (h : k26.K w x cs) : cs = [.int .i64 x.f0, .int .i64 x.f1] := by
  obtain ⟨_, _, rfl, rfl, rfl⟩ := h
  exact rfl
theorem k26_openM {w : World} {base : Nat} {ok : Nat → Prop} {x : S26} {cs : List Value} (h : k26.M w base ok x cs) : cs = [.int .i64 x.f0, .int .i64 x.f1] := by
  obtain ⟨_, _, rfl, rfl, rfl⟩ := h
  exact rfl
theorem k26_mk (w : World) (x : S26)  : k26.K w x [.int .i64 x.f0, .int .i64 x.f1] := ⟨[.int .i64 x.f0], [.int .i64 x.f1], rfl, rfl, rfl⟩
theorem k26_mkM (w : World) (base : Nat) (ok : Nat → Prop) (x : S26)  : k26.M w base ok x [.int .i64 x.f0, .int .i64 x.f1] := ⟨[.int .i64 x.f0], [.int .i64 x.f1], rfl, rfl, rfl⟩
def rd_T26 (xs : List S26) (i : Int) : S26 := xs.getD i.toNat z26
theorem at_T26 {w : World} {A : Option Addr} {n : Nat} {xs : List S26} (h : Kd.C k26 w A n xs) (i : Int) (h0 : 0 ≤ i) (h1 : i < n) : ∃ ad , A = some ad ∧ w.cell? (ad.add (i.toNat * 2)) = some (.int .i64 (rd_T26 xs i).f0) ∧ w.cell? ⟨(ad.add (i.toNat * 2)).block, (ad.add (i.toNat * 2)).off + 1, none⟩ = some (.int .i64 (rd_T26 xs i).f1) := by
  obtain ⟨ad, c, e, _, hK, hc0⟩ := Kd.C_get h z26 i h0 h1
  have hc : ∀ j u, c[j]? = some u → w.cell? (ad.add (i.toNat * 2 + j)) = some u := hc0
  obtain rfl := k26_open hK
  exact ⟨ad, e, hc 0 _ rfl, by rw [← add_field _ _ 1 (by omega)]; exact hc 1 _ rfl⟩

end Go.Proofs.YtabgpdpdgkgmbaaDoor.Q
