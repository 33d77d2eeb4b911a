/- wire.Text: its bytes are the document's. -/
import Derived.Test.YtnilogameaaooaaExtRefText
import Derived.Test.YtnilogameaaooaaExtRepeat
namespace Go.Proofs.Ytnilogameaaooaa.Q
open Go.RowKit Go.Proofs.YtnilogameaaooaaW.PrintWords Go.Proofs.YtnilogameaaooaaW.PrintLast Go.Proofs.YtnilogameaaooaaW.PrintMore Go.Proofs.Ytnilogameaaooaa.Bytes Go.Proofs.Ytnilogameaaooaa.Tail
set_option linter.unusedVariables false
set_option linter.unusedSimpArgs false

theorem u64_nat (n : Nat) (h : n < 18446744073709551616) : IntKind.u64.wrap (n : Int) = (n : Int) := by
  have : IntKind.u64.wrap (n : Int) = (n : Int) % 18446744073709551616 := rfl
  omega
theorem bs_strOfNums (l : List Int) : bs (strOfNums l) = l.map fun n => UInt8.ofNat n.toNat := by simp [bs, strOfNums]
theorem bs_numsOf (s : ByteArray) : (numsOf s).map (fun n => UInt8.ofNat n.toNat) = bs s := by
  simp [numsOf, bs, Function.comp_def]
theorem text_size (s : ByteArray) : (strOfNums (frame8 s)).size = 8 + (s.size + padOf s.size) := by
  rw [size_bs, bs_strOfNums, List.length_map, frame8, List.length_append, List.length_append, numsOf_len, List.length_replicate]
  rfl
theorem mk_size (l : List UInt8) : (⟨l.toArray⟩ : ByteArray).size = l.length := rfl
theorem repeatL_one (x : UInt8) : ∀ c, Lib.repeatL [x] c = List.replicate c x
  | 0 => rfl
  | c + 1 => by simp [Lib.repeatL, repeatL_one x c, List.replicate_succ]
def wire_Text.f (a0 : ByteArray) : Option (ByteArray) := if a0.size ≤ 140737488351232 then some (strOfNums (frame8 a0)) else none
set_option maxHeartbeats 1000000 in
set_option maxRecDepth 100000 in
theorem wire_Text.calls (a0 : ByteArray) (r : ByteArray) (w : World) (h : wire_Text.f a0 = some r) :
    Calls Try.prog 15 #[.string a0] w fun e w' => e = .returned (.string r) ∧ Below w.heap.size w w' := by
  unfold wire_Text.f at h
  by_cases hsz : a0.size ≤ 140737488351232
  case neg => rw [if_neg hsz] at h; exact absurd h (by simp)
  rw [if_pos hsz] at h
  have HR := Aside0.mk (Option.some.inj h)
  clear h
  have hp : padOf a0.size < 8 := by unfold padOf; omega
  have he : -((a0.size : Int) % 8) % 8 = ((padOf a0.size : Nat) : Int) := by unfold padOf; omega
  have s8 : (strOfNums (le8 (a0.size : Int))).size = 8 := rfl
  have h1 : (⟨#[0]⟩ : ByteArray).size = 1 := rfl
  have HF : strOfNums (frame8 a0) = strOfNums (le8 (a0.size : Int)) ++ a0 ++ (⟨(Lib.repeatL [0] (padOf a0.size)).toArray⟩ : ByteArray) := by
    apply bs_inj
    rw [bs_append, bs_append, bs_strOfNums, bs_strOfNums, frame8, List.map_append, List.map_append, bs_numsOf, List.append_assoc, repeatL_one]
    congr 2
    rw [bs_mk]
    simp
  have sZ : (⟨(Lib.repeatL [0] (padOf a0.size)).toArray⟩ : ByteArray).size = padOf a0.size := by rw [mk_size, repeatL_one, List.length_replicate]
  have HI := Aside0.mk (show wire_Int.f (a0.size : Int) = some (strOfNums (le8 (a0.size : Int))) from rfl)
  have HP := Aside0.mk (show strings_Repeat.f (⟨#[0]⟩ : ByteArray) (-((a0.size : Int) % 8) % 8) = some ⟨(Lib.repeatL [0] (padOf a0.size)).toArray⟩ by
    unfold strings_Repeat.f
    rw [he, if_pos ⟨by omega, by omega, by rw [h1]; omega⟩, Int.toNat_natCast])
  generalize strOfNums (le8 (a0.size : Int)) = X at s8 HF HI
  generalize (⟨(Lib.repeatL [0] (padOf a0.size)).toArray⟩ : ByteArray) = Z at sZ HF HP
  rw [HF] at HR
  have c1 : X.size + a0.size ≤ 9223372036854775807 := by omega
  have c2 : (X ++ a0).size + Z.size ≤ 9223372036854775807 := by rw [ByteArray.size_append]; omega
  have c1b := eq_true c1
  have c1d : decide (X.size + a0.size ≤ 9223372036854775807) = true := decide_eq_true c1
  have c2b := eq_true c2
  have c2d : decide ((X ++ a0).size + Z.size ≤ 9223372036854775807) = true := decide_eq_true c2
  clear he HF s8 sZ h1 hp
  go_enter Try.func15, Try.ntmps15
  go_wp2_with (first | (go_at_call 13; refine (wire_Int.calls _ _ _ HI.out).mono ?_; rintro e w1 ⟨rfl, hb1⟩) | (go_at_call 33; refine (strings_Repeat.calls _ _ _ _ HP.out).mono ?_; rintro e w2 ⟨rfl, hb2⟩))
  go_ret
  exact ⟨by rw [← HR.out]; rfl, below_step hb1 hb2⟩
end Go.Proofs.Ytnilogameaaooaa.Q
