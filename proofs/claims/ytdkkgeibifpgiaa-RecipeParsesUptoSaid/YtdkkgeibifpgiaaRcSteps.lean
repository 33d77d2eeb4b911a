/- The recipe's reader: the list of steps. -/
import Derived.Test.YtdkkgeibifpgiaaRcStep2
import Derived.Test.YtdkkgeibifpgiaaRcCatch
namespace Go.Proofs.Ytdkkgeibifpgiaa.Rc
open Go.RowKit Go.Lib Go.Proofs.YtdkkgeibifpgiaaW.PrintWords Go.Proofs.YtdkkgeibifpgiaaW.PrintLast Go.Proofs.YtdkkgeibifpgiaaW.PrintMore Go.Proofs.Ytdkkgeibifpgiaa.Bytes Go.Proofs.Ytdkkgeibifpgiaa.Q
set_option linter.unusedVariables false
set_option linter.unusedSimpArgs false

theorem AfterL.also {α : Type} {n0 rb m : Nat} {Iv : World → Prop} {T : ByteArray} {St : α → World → Prop} {W W' : World} {r : Res α} {e : Ending} (h : AfterL n0 rb Iv T St W r e W') (hm : m ≤ W.heap.size) : AfterL n0 rb Iv T (fun x W2 => St x W2 ∧ m ≤ W2.heap.size) W r e W' := by
  cases r with
  | ok x rest => obtain ⟨h1, h2, h3, h4, h5, h6⟩ := h; exact ⟨h1, ⟨h2, Nat.le_trans hm h6.size⟩, h3, h4, h5, h6⟩
  | bad l => exact h
/-- The steps between [ and ]. -/
def stepsL (s : List UInt8) : Res (List S47) := (wordL [91] s).bind fun _ r => listL stepB 93 true r
theorem steps_calls (b0 rb bx bg be : Nat) (ob : Obj) (T : ByteArray) (hT : T.size ≤ 1099511627776) (nm : ByteArray) (dv : Value) (deps : List ByteArray) (a : Nat) (w : World) (hm1 : rb < w.heap.size) (hm2 : bx < w.heap.size) (hm3 : bg < w.heap.size) (hb0 : bg < b0) (hmb : rb < b0) (hne : bx ≠ bg) (hxr : bx ≠ rb) (hnr : bg ≠ rb) (hbe1 : be ≠ rb) (hbe2 : be < w.heap.size) (hbe3 : be ≠ bg)
    (hS : GotP w.heap.size b0 rb bx bg be ob nm dv deps [] w) (hR : RdAt w rb T a) (ha : a ≤ T.size) :
    Calls Try.prog 20 #[.pointer (some ⟨rb, 0, none⟩), .string (⟨#[91]⟩ : ByteArray), .string (⟨#[93]⟩ : ByteArray), .int .i64 0, .func (.func 21) #[] #[.pointer (some ⟨bx, 0, none⟩), .pointer (some ⟨bg, 0, none⟩)]] w fun e w' =>
      AfterL bg rb (IvP bg be ob) T (fun xs W => GotP w.heap.size b0 rb bx bg be ob nm dv deps xs W ∧ w.heap.size ≤ W.heap.size) w (stepsL ((bs T).drop a)) e w' :=
  haveI : KeepsRf rb (IvP bg be ob) := IvP.keeps hnr hbe1
  listP_calls stepB stepB_prog (fun xs W => GotP w.heap.size b0 rb bx bg be ob nm dv deps xs W ∧ w.heap.size ≤ W.heap.size) bg rb (IvP bg be ob) T (by omega) (.pointer (some ⟨bx, 0, none⟩), .pointer (some ⟨bg, 0, none⟩))
    (fun acc A B h k => ⟨h.1.keep k hxr hnr hm1 hmb hbe1, Nat.le_trans h.2 k.size⟩)
    (fun acc p W hS hR2 hp hap hn => (step_calls bg w.heap.size b0 rb bx bg be ob hbe1 hbe2 hbe3 T hT nm dv deps (Nat.le_refl _) hm1 hm2 hm3 hb0 hmb hne hxr hnr acc p W hS.1 hR2 hp hap hn hS.2).mono (fun _ _ h => h.also hS.2))
    91 93 0 (by omega) a w hR ha ⟨hS, Nat.le_refl _⟩ (Nat.le_of_lt hm3)
end Go.Proofs.Ytdkkgeibifpgiaa.Rc
