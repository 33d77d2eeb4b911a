/- Rounds: small steps of 'from some number of rounds on'. -/
import Derived.Test.YtdjhhljijpadoaaDoorBytes
import Derived.Test.YtdjhhljijpadoaaDoorWMore
set_option linter.unusedVariables false
set_option linter.unusedSimpArgs false
namespace Go.Proofs.YtdjhhljijpadoaaDoor.Evs
open Go.RowKit Go.Proofs.YtdjhhljijpadoaaDoorW.PrintWords Go.Proofs.YtdjhhljijpadoaaDoorW.PrintLast Go.Proofs.YtdjhhljijpadoaaDoorW.PrintMore Go.Proofs.YtdjhhljijpadoaaDoor.Bytes

variable {α β : Type}
theorem pos {c : Prop} [Decidable c] {g f : Nat → Option α} {r : α} (h : c) (k : Ev g r) : Ev (fun n => if c then g n else f n) r := by
  obtain ⟨K, k⟩ := k
  exact ⟨K, fun n hn => by simp only [if_pos h]; exact k n hn⟩
theorem neg {c : Prop} [Decidable c] {g f : Nat → Option α} {r : α} (h : ¬ c) (k : Ev f r) : Ev (fun n => if c then g n else f n) r := by
  obtain ⟨K, k⟩ := k
  exact ⟨K, fun n hn => by simp only [if_neg h]; exact k n hn⟩
/-- A callee without rounds. -/
theorem call {x : Option β} {y : β} {f : Nat → β → Option α} {r : α} (h : x = some y) (k : Ev (fun n => f n y) r) : Ev (fun n => x.bind (f n)) r := by
  subst h
  exact k
theorem succ {g : Nat → Option α} {r : α} (k : Ev (fun n => g (n + 1)) r) : Ev g r := Ev.step (fun _ => rfl) k
theorem same {g : Nat → Option α} {r r' : α} (h : r = r') (k : Ev g r') : Ev g r := by rw [h]; exact k
theorem now {x : Option α} {r : α} (h : x = some r) : Ev (fun _ => x) r := ⟨0, fun _ _ => h⟩
theorem getD_of (l : List UInt8) (i : Nat) (h : i < l.length) : l.getD i 0 = l[i] := by rw [List.getD_eq_getElem?_getD, List.getElem?_eq_getElem h]; rfl
theorem bt_lt (s : ByteArray) (i : Nat) (h : i < (bs s).length) : bt s (i : Int) = (((bs s)[i]).toNat : Int) := by rw [bt_bs, Int.toNat_natCast, getD_of _ _ h]
theorem wr (i : Nat) (h : i < 9223372036854775807) : wrap64 ((i : Int) + 1) = ((i + 1 : Nat) : Int) := by rw [w64 (by omega) (by omega)]; omega
theorem wl (i : Nat) (h1 : 1 ≤ i) (h : i ≤ 9223372036854775807) : wrap64 ((i : Int) - 1) = ((i - 1 : Nat) : Int) := by rw [w64 (by omega) (by omega)]; omega
theorem rd_nat (xs : List ByteArray) (i : Nat) : rdOf ByteArray.empty xs (i : Int) = xs.getD i ByteArray.empty := by simp [rdOf]
theorem byte_is {c : UInt8} {n : Nat} (h : n < 256) : ((c.toNat : Int) = (n : Int)) ↔ c = UInt8.ofNat n := by
  rw [← UInt8.toNat_inj, UInt8.toNat_ofNat', Nat.mod_eq_of_lt h]
  omega
theorem back (c : UInt8) : ((c.toNat : Int)).toNat.toUInt8 = c := by simp
theorem ba_ext {a b : ByteArray} (h : bs a = bs b) : a = b := bs_inj h
end Go.Proofs.YtdjhhljijpadoaaDoor.Evs
