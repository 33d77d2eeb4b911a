/- The recipe's reader: list, over the closures that take one thing. -/
import Derived.Test.YtdkkgeibifpgiaaRcReader
namespace Go.Proofs.Ytdkkgeibifpgiaa.Rc
open Go.RowKit Go.Proofs.YtdkkgeibifpgiaaW.PrintWords Go.Proofs.YtdkkgeibifpgiaaW.PrintLast Go.Proofs.YtdkkgeibifpgiaaW.PrintMore Go.Proofs.Ytdkkgeibifpgiaa.Bytes
set_option linter.unusedVariables false
set_option linter.unusedSimpArgs false

/-- What lay below n0, but the reader, lies as it lay. -/
structure Rz (n0 rb : Nat) (Iv : World → Prop) (W W' : World) : Prop where
  os : W'.os = W.os
  tape : W'.tape = W.tape
  output : W'.output = W.output
  size : W.heap.size ≤ W'.heap.size
  block : ∀ k, k < n0 → k ≠ rb → W'.heap[k]? = W.heap[k]?
  inv : Iv W → Iv W'
/-- What a call of the reader's keeps besides. -/
class KeepsRf (rb : Nat) (Iv : World → Prop) : Prop where
  keep : ∀ A B, Rf rb A B → Iv A → Iv B
instance (rb : Nat) : KeepsRf rb (fun _ => True) := ⟨fun _ _ _ _ => trivial⟩
theorem Rz.refl (n0 rb : Nat) (Iv : World → Prop) (W : World) : Rz n0 rb Iv W W := ⟨rfl, rfl, rfl, Nat.le_refl _, fun _ _ _ => rfl, id⟩
theorem Rz.trans {n0 rb : Nat} {Iv : World → Prop} {A B C : World} (h : Rz n0 rb Iv A B) (k : Rz n0 rb Iv B C) : Rz n0 rb Iv A C :=
  ⟨k.os.trans h.os, k.tape.trans h.tape, k.output.trans h.output, Nat.le_trans h.size k.size, fun i hi hn => (k.block i hi hn).trans (h.block i hi hn), fun hi => k.inv (h.inv hi)⟩
theorem Rf.z {n0 rb : Nat} {Iv : World → Prop} [KeepsRf rb Iv] {A B : World} (h : Rf rb A B) (hn : n0 ≤ A.heap.size) : Rz n0 rb Iv A B := ⟨h.os, h.tape, h.output, h.size, fun k hk hne => h.block k (by omega) hne, KeepsRf.keep (rb := rb) A B h⟩
/-- It has panicked; what lay below n0 lies as it lay. -/
def BrokeZ (n0 rb : Nat) (Iv : World → Prop) (W : World) (p : Nat) (e : Ending) (W' : World) : Prop :=
  ∃ g, e = .panicked [{ v := .iface 51 (.pointer (some ⟨g, 0, none⟩)), recovered := false }] ∧ n0 ≤ g ∧ W'.heap[g]? = some (.cells #[.int .i64 210, .int .i64 (p : Int)] 40 (0, 0)) ∧ Rz n0 rb Iv W W'
theorem Broke.z {n0 rb p : Nat} {Iv : World → Prop} [KeepsRf rb Iv] {W W' : World} {e : Ending} (h : Broke rb W p e W') (hn : n0 ≤ W.heap.size) : BrokeZ n0 rb Iv W p e W' := by
  obtain ⟨g, h1, h2, h3, h4⟩ := h
  exact ⟨g, h1, Nat.le_trans hn h2, h3, h4.z (Iv := Iv) hn⟩
theorem BrokeZ.after {n0 rb p : Nat} {Iv : World → Prop} {A B W' : World} {e : Ending} (h : BrokeZ n0 rb Iv B p e W') (k : Rz n0 rb Iv A B) : BrokeZ n0 rb Iv A p e W' := by
  obtain ⟨g, h1, h2, h3, h4⟩ := h
  exact ⟨g, h1, h2, h3, k.trans h4⟩
/-- What a call leaves that gathers things (St: what has been gathered, in memory). -/
def AfterL {α : Type} (n0 rb : Nat) (Iv : World → Prop) (T : ByteArray) (St : α → World → Prop) (W : World) (r : Res α) (e : Ending) (W' : World) : Prop :=
  match r with
  | .ok x rest => e = .returned (.tuple #[]) ∧ St x W' ∧ RdAt W' rb T (T.size - rest.length) ∧ rest.length ≤ T.size ∧ (bs T).drop (T.size - rest.length) = rest ∧ Rz n0 rb Iv W W'
  | .bad l => BrokeZ n0 rb Iv W (T.size - l) e W'
theorem AfterL.after {α : Type} {n0 rb : Nat} {Iv : World → Prop} {T : ByteArray} {St : α → World → Prop} {A B W' : World} {r : Res α} {e : Ending} (h : AfterL n0 rb Iv T St B r e W') (k : Rz n0 rb Iv A B) : AfterL n0 rb Iv T St A r e W' := by
  cases r with
  | ok x rest => obtain ⟨h1, h2, h3, h4, h5, h6⟩ := h; exact ⟨h1, h2, h3, h4, h5, k.trans h6⟩
  | bad l => exact BrokeZ.after h k
theorem drop_len (T : ByteArray) (p : Nat) : ((bs T).drop p).length = T.size - p := by rw [List.length_drop, ← size_bs]
theorem head_byte (T : ByteArray) (p : Nat) (e : UInt8) (hp : p ≤ T.size) : (byteAt T p = (e.toNat : Int)) ↔ ((bs T).drop p).head? = some e := by
  by_cases h : p < T.size
  · rw [drop_cons T p h, byteAt_lt T p h, byte_eq_iff]
    simp
  · obtain rfl : p = T.size := by omega
    rw [byteAt_end, List.drop_of_length_le (by rw [← size_bs]; exact Nat.le_refl _)]
    constructor
    · intro e1; omega
    · intro e1; cases e1

set_option maxRecDepth 100000 in
set_option maxHeartbeats 4000000 in
theorem listS_calls {α : Type} (one : List UInt8 → Res α) (hone : ∀ s x r, one s = .ok x r → r.length < s.length) (St : List α → World → Prop) (n0 rb : Nat) (Iv : World → Prop) [KeepsRf rb Iv] (T : ByteArray) (hT : T.size ≤ 140737488351232) (cap : Value × Value)
    (hk : ∀ acc A B, St acc A → Rf rb A B → St acc B)
    (hcall : ∀ (acc : List α) (p : Nat) (W : World), St acc W → RdAt W rb T p → p ≤ T.size → acc.length ≤ p → n0 ≤ W.heap.size → Calls Try.prog 38 #[cap.1, cap.2] W fun e W' => AfterL n0 rb Iv T (fun x W2 => St (acc ++ [x]) W2) W (one ((bs T).drop p)) e W')
    (o c : UInt8) (least : Nat) (hle : least ≤ 1) (a : Nat) (w : World) (hR : RdAt w rb T a) (ha : a ≤ T.size) (hS : St [] w) (hn : n0 ≤ w.heap.size) :
    Calls Try.prog 20 #[.pointer (some ⟨rb, 0, none⟩), .string (⟨#[o]⟩ : ByteArray), .string (⟨#[c]⟩ : ByteArray), .int .i64 (least : Int), .func (.func 38) #[] #[cap.1, cap.2]] w fun e w' =>
      AfterL n0 rb Iv T St w ((wordL [o] ((bs T).drop a)).bind fun _ r => listL one c (decide (least = 0)) r) e w' := by
  have hmx : Try.prog.follows .mixedOrders = true := by kernel_rfl
  have hT2 : T.size ≤ 140737488355328 := by omega
  have hbo : bs (⟨#[o]⟩ : ByteArray) = [o] := rfl
  have hbc : bs (⟨#[c]⟩ : ByteArray) = [c] := rfl
  have hbm : bs (⟨#[44]⟩ : ByteArray) = [44] := rfl
  obtain ⟨cap1, cap2⟩ := cap
  simp only at hcall ⊢
  cases hwd : wordL [o] ((bs T).drop a) with
  | bad l =>
    go_enter Try.func20, Try.ntmps20
    go_wp2_with (go_at_call 17; refine (want_calls rb T (⟨#[o]⟩ : ByteArray) a _ hR ha hT2 (by show (1 : Nat) ≤ 1000; omega)).mono ?_; intro e w1 hA1; rw [hbo, hwd] at hA1; have HB := Aside0.mk (Broke.z (Iv := Iv) (n0 := n0) hA1 hn); obtain ⟨g, rfl, hA2⟩ := hA1)
    exact ⟨rfl, HB.out⟩
  | ok u r0 =>
    have HC := Aside0.mk hcall
    have HK := Aside0.mk hk
    have HN := Aside0.mk hone
    clear hcall hk hone
    go_enter Try.func20, Try.ntmps20
    go_wp2_with (go_at_call 17; refine (want_calls rb T (⟨#[o]⟩ : ByteArray) a _ hR ha hT2 (by show (1 : Nat) ≤ 1000; omega)).mono ?_; intro e w1 hA1; rw [hbo, hwd] at hA1; obtain ⟨rfl, hR1, hl1, hd1, hF1⟩ := hA1)
    obtain ⟨p0, hp0⟩ : ∃ p0, T.size - r0.length = p0 := ⟨_, rfl⟩
    rw [hp0] at hR1 hd1
    have HR0 := Aside0.mk hR1
    have HS0 := Aside0.mk (HK.out _ _ _ hS hF1)
    have HZ0 := Aside0.mk (hF1.z (Iv := Iv) hn)
    have hst := hF1.size
    clear hR1 hS hF1
    go_loopg [10] (T.size + 1) (fun g v10 wx => ∃ (p : Nat) (acc : List α), T.size < p + g ∧ p ≤ T.size ∧ acc.length ≤ p ∧ v10 = .int .i64 ((acc.length : Nat) : Int) ∧ Aside0 (RdAt wx rb T p) ∧ Aside0 (St acc wx) ∧ Aside0 (Rz n0 rb Iv w wx) ∧
      Aside0 ((acc = [] ∧ p = p0) ∨ acc ≠ [] ∧ ∃ fuel, ((bs T).drop p).length < fuel ∧ listL one c (decide (least = 0)) r0 = (moreL one c fuel ((bs T).drop p)).map (acc ++ ·)))
    case atStart => exact ⟨p0, [], by omega, by omega, by simp, rfl, HR0, HS0, HZ0, ⟨.inl ⟨rfl, rfl⟩⟩⟩
    case round =>
      obtain ⟨p, acc, hpg, hp, hap, rfl, HR, HS, HZ, HM⟩ := hrel
      cases gk with
      | zero => omega
      | succ k1 =>
        clear HR0 HS0 HZ0
        have hns : n0 ≤ wr.heap.size := Nat.le_trans hn HZ.out.size
        have hidx : (0 < (⟨#[c]⟩ : ByteArray).size) := by show 0 < 1; decide
        have FB := Aside0.mk (show ∀ l e W, listL one c (decide (least = 0)) r0 = .bad l → BrokeZ n0 rb Iv w (T.size - l) e W → AfterL n0 rb Iv T St w ((Res.ok u r0).bind fun _ r => listL one c (decide (least = 0)) r) e W from fun l e W h1 h2 => by
          show AfterL n0 rb Iv T St w (listL one c (decide (least = 0)) r0) e W
          rw [h1]
          exact h2)
        by_cases hL : acc.length < least
        · have hac : acc = [] := List.eq_nil_of_length_eq_zero (by omega)
          have hl1 : least = 1 := by omega
          have d1 : decide (((acc.length : Nat) : Int) < (least : Int)) = true := decide_eq_true (by omega)
          have hpp : p = p0 := by
            rcases HM.out with ⟨_, h⟩ | ⟨h, _⟩
            · exact h
            · exact absurd hac h
          have hRA : listL one c (decide (least = 0)) r0 = (one ((bs T).drop p)).bind fun x r => (moreL one c (r.length + 1) r).map (x :: ·) := by
            rw [hpp, hd1]
            unfold listL
            rw [if_neg (by rw [hl1]; simp)]
          subst hac
          clear hl1 hpp
          have d2 : decide (0 < least) = true := decide_eq_true (by simpa using hL)
          have d9 : 0 < least := by simpa using hL
          have d3 : decide ((0 : Int) < (least : Int)) = true := decide_eq_true (by omega)
          clear d9
          clear hL
          cases h1 : one ((bs T).drop (p)) with
          | bad l =>
            go_wp2
            go_quiet (fail)
            have HD := Aside0.mk (Rf.of_below (rb := rb) (pw_below_drewN (Below.refl wr.heap.size wr) nq))
            have HR2 := Aside0.mk (HR.out.drewN nq)
            have HS2 := Aside0.mk (HK.out _ _ _ HS.out HD.out)
            have HZ2 := Aside0.mk (HZ.out.trans (HD.out.z (Iv := Iv) hns))
            have hn2 : n0 ≤ (wr.drewN nq).heap.size := Nat.le_trans hns HD.out.size
            go_wp2_with (go_at_call 38; refine (HC.out [] (p) _ HS2.out HR2.out hp (Nat.zero_le _) hn2).mono ?_; intro e w6 hA6; rw [h1] at hA6; have HB := Aside0.mk (BrokeZ.after hA6 HZ2.out); obtain ⟨g, rfl, _⟩ := hA6)
            exact ⟨rfl, FB.out l _ _ (by rw [hRA, h1]; rfl) HB.out⟩
          | ok x rest =>
            have hpr := HN.out _ _ _ h1
            rw [drop_len] at hpr
            go_wp2
            go_quiet (fail)
            have HD := Aside0.mk (Rf.of_below (rb := rb) (pw_below_drewN (Below.refl wr.heap.size wr) nq))
            have HR2 := Aside0.mk (HR.out.drewN nq)
            have HS2 := Aside0.mk (HK.out _ _ _ HS.out HD.out)
            have HZ2 := Aside0.mk (HZ.out.trans (HD.out.z (Iv := Iv) hns))
            have hn2 : n0 ≤ (wr.drewN nq).heap.size := Nat.le_trans hns HD.out.size
            go_wp2_with (go_at_call 38; refine (HC.out [] (p) _ HS2.out HR2.out hp (Nat.zero_le _) hn2).mono ?_; intro e w6 hA6; rw [h1] at hA6; obtain ⟨rfl, hS6, hR6, hl6, hd6, hZ6⟩ := hA6)
            go_roundg k1
            case measure => omega
            case rel =>
              refine ⟨T.size - rest.length, ([] : List α) ++ [x], by omega, by omega, by first | (simp; omega) | (rw [List.length_append, HML.out]; simp; omega), by first | (simp; done) | (rw [List.length_append, HML.out]; simp; done), ⟨hR6⟩, ⟨hS6⟩, ⟨HZ2.out.trans hZ6⟩, ⟨.inr ⟨by simp, ?_⟩⟩⟩
              refine ⟨rest.length + 1, by rw [hd6]; omega, ?_⟩
              rw [hRA, h1, hd6]
              show Res.map _ _ = _
              rfl
        · have d1 : decide (((acc.length : Nat) : Int) < (least : Int)) = false := decide_eq_false (by omega)
          by_cases hh : ((bs T).drop p).head? = some c
          · have hbyte := (head_byte T p c hp).2 hh
            have hRE : listL one c (decide (least = 0)) r0 = .ok acc ((bs T).drop (p + 1)) := by
              have e1 : ((bs T).drop p).drop 1 = (bs T).drop (p + 1) := by rw [List.drop_drop]
              rcases HM.out with ⟨h, hpp⟩ | ⟨h, fuel, hf, hm⟩
              · subst h
                have hl0 : least = 0 := by simp at hL; omega
                rw [← hd1, ← hpp]
                unfold listL
                rw [if_pos ⟨by simp [hl0], hh⟩, e1]
              · obtain ⟨f, rfl⟩ : ∃ f, fuel = f + 1 := ⟨fuel - 1, by omega⟩
                rw [hm, moreL, if_pos hh, e1]
                show Res.ok (acc ++ []) _ = _
                rw [List.append_nil]
            have hlt : p < T.size := by
              rcases Nat.lt_or_ge p T.size with h | h
              · exact h
              · rw [List.drop_of_length_le (by rw [← size_bs]; exact h)] at hh; cases hh
            have hwe : wordL [c] ((bs T).drop p) = .ok () ((bs T).drop (p + 1)) := by
              have edt := drop_cons T p hlt
              rw [edt] at hh ⊢
              have ex : T[p]'hlt = c := by simpa using hh
              rw [wordL, if_pos ex, wordL]
            have dne : (byteAt T p != wrap64 (c.toNat : Int)) = false := by rw [w64 (by omega) (by have := c.toNat_lt; omega), hbyte]; simp
            have dne2 : (byteAt T p != (c.toNat : Int)) = false := by have h := dne; rwa [w64 (by omega) (by have := c.toNat_lt; omega)] at h
            have dne3 : (byteAt T p != wrap64 ((((⟨#[c]⟩ : ByteArray)[0]'hidx).toNat : Nat) : Int)) = false := dne
            clear hbyte
            go_wp2
            go_quiet ((go_at_call 34; refine (next_calls rb T p _ (HR.out.drewN _) hp hT2).mono ?_; rintro e w2 ⟨rfl, ⟨nd, rfl⟩⟩; first | exact ⟨rfl, _, World.drewN_drewN _ _ _⟩ | exact ⟨rfl, _, Eq.trans (World.drewN_drewN _ _ _) (congrArg (World.drewN _) (Nat.add_assoc _ _ _))⟩))
            have HD := Aside0.mk (Rf.of_below (rb := rb) (pw_below_drewN (Below.refl wr.heap.size wr) nq))
            have HR2 := Aside0.mk (HR.out.drewN nq)
            have HS2 := Aside0.mk (HK.out _ _ _ HS.out HD.out)
            have HZ2 := Aside0.mk (HZ.out.trans (HD.out.z (Iv := Iv) hns))
            have hn2 : n0 ≤ (wr.drewN nq).heap.size := Nat.le_trans hns HD.out.size
            go_wp2_with (go_at_call 17; refine (want_calls rb T (⟨#[c]⟩ : ByteArray) p _ HR2.out hp hT2 (by show (1 : Nat) ≤ 1000; omega)).mono ?_; intro e w5 hA5; rw [hbc, hwe] at hA5; obtain ⟨rfl, hR5, hl5, hd5, hF5⟩ := hA5)
            go_end0
            show AfterL n0 rb Iv T St w (listL one c (decide (least = 0)) r0) _ _
            rw [hRE]
            exact ⟨rfl, HK.out _ _ _ HS2.out hF5, hR5, hl5, hd5, HZ2.out.trans (hF5.z (Iv := Iv) hn2)⟩
          · have hbyte : byteAt T p ≠ (c.toNat : Int) := fun e => hh ((head_byte T p c hp).1 e)
            by_cases hac : acc = []
            · have hpp : p = p0 := by
                rcases HM.out with ⟨_, h⟩ | ⟨h, _⟩
                · exact h
                · exact absurd hac h
              have hl0 : least = 0 := by subst hac; simp at hL; omega
              have hRA : listL one c (decide (least = 0)) r0 = (one ((bs T).drop p)).bind fun x r => (moreL one c (r.length + 1) r).map (x :: ·) := by
                rw [hpp] at hh ⊢
                rw [hd1] at hh ⊢
                unfold listL
                rw [if_neg (fun h => hh h.2)]
              subst hac
              clear hl0 hpp
              have d2 : decide (0 < least) = false := decide_eq_false (by simpa using hL)
              have d9 : ¬ 0 < least := by simpa using hL
              have d3 : decide ((0 : Int) < (least : Int)) = false := decide_eq_false (by omega)
              clear d9
              clear hL
              cases h1 : one ((bs T).drop (p)) with
              | bad l =>
                have dne : (byteAt T p != wrap64 (c.toNat : Int)) = true := by rw [w64 (by omega) (by have := c.toNat_lt; omega), bne_iff_ne]; exact hbyte
                have dne2 : (byteAt T p != (c.toNat : Int)) = true := by have h := dne; rwa [w64 (by omega) (by have := c.toNat_lt; omega)] at h
                have dne3 : (byteAt T p != wrap64 ((((⟨#[c]⟩ : ByteArray)[0]'hidx).toNat : Nat) : Int)) = true := dne
                go_wp2
                go_quiet ((go_at_call 34; refine (next_calls rb T p _ (HR.out.drewN _) hp hT2).mono ?_; rintro e w2 ⟨rfl, ⟨nd, rfl⟩⟩; first | exact ⟨rfl, _, World.drewN_drewN _ _ _⟩ | exact ⟨rfl, _, Eq.trans (World.drewN_drewN _ _ _) (congrArg (World.drewN _) (Nat.add_assoc _ _ _))⟩))
                have HD := Aside0.mk (Rf.of_below (rb := rb) (pw_below_drewN (Below.refl wr.heap.size wr) nq))
                have HR2 := Aside0.mk (HR.out.drewN nq)
                have HS2 := Aside0.mk (HK.out _ _ _ HS.out HD.out)
                have HZ2 := Aside0.mk (HZ.out.trans (HD.out.z (Iv := Iv) hns))
                have hn2 : n0 ≤ (wr.drewN nq).heap.size := Nat.le_trans hns HD.out.size
                go_wp2_with (go_at_call 38; refine (HC.out [] (p) _ HS2.out HR2.out hp (Nat.zero_le _) hn2).mono ?_; intro e w6 hA6; rw [h1] at hA6; have HB := Aside0.mk (BrokeZ.after hA6 HZ2.out); obtain ⟨g, rfl, _⟩ := hA6)
                exact ⟨rfl, FB.out l _ _ (by rw [hRA, h1]; rfl) HB.out⟩
              | ok x rest =>
                have hpr := HN.out _ _ _ h1
                rw [drop_len] at hpr
                have dne : (byteAt T p != wrap64 (c.toNat : Int)) = true := by rw [w64 (by omega) (by have := c.toNat_lt; omega), bne_iff_ne]; exact hbyte
                have dne2 : (byteAt T p != (c.toNat : Int)) = true := by have h := dne; rwa [w64 (by omega) (by have := c.toNat_lt; omega)] at h
                have dne3 : (byteAt T p != wrap64 ((((⟨#[c]⟩ : ByteArray)[0]'hidx).toNat : Nat) : Int)) = true := dne
                go_wp2
                go_quiet ((go_at_call 34; refine (next_calls rb T p _ (HR.out.drewN _) hp hT2).mono ?_; rintro e w2 ⟨rfl, ⟨nd, rfl⟩⟩; first | exact ⟨rfl, _, World.drewN_drewN _ _ _⟩ | exact ⟨rfl, _, Eq.trans (World.drewN_drewN _ _ _) (congrArg (World.drewN _) (Nat.add_assoc _ _ _))⟩))
                have HD := Aside0.mk (Rf.of_below (rb := rb) (pw_below_drewN (Below.refl wr.heap.size wr) nq))
                have HR2 := Aside0.mk (HR.out.drewN nq)
                have HS2 := Aside0.mk (HK.out _ _ _ HS.out HD.out)
                have HZ2 := Aside0.mk (HZ.out.trans (HD.out.z (Iv := Iv) hns))
                have hn2 : n0 ≤ (wr.drewN nq).heap.size := Nat.le_trans hns HD.out.size
                go_wp2_with (go_at_call 38; refine (HC.out [] (p) _ HS2.out HR2.out hp (Nat.zero_le _) hn2).mono ?_; intro e w6 hA6; rw [h1] at hA6; obtain ⟨rfl, hS6, hR6, hl6, hd6, hZ6⟩ := hA6)
                go_roundg k1
                case measure => omega
                case rel =>
                  refine ⟨T.size - rest.length, ([] : List α) ++ [x], by omega, by omega, by first | (simp; omega) | (rw [List.length_append, HML.out]; simp; omega), by first | (simp; done) | (rw [List.length_append, HML.out]; simp; done), ⟨hR6⟩, ⟨hS6⟩, ⟨HZ2.out.trans hZ6⟩, ⟨.inr ⟨by simp, ?_⟩⟩⟩
                  refine ⟨rest.length + 1, by rw [hd6]; omega, ?_⟩
                  rw [hRA, h1, hd6]
                  show Res.map _ _ = _
                  rfl
            · obtain ⟨fuel, hf, hm⟩ : ∃ fuel, ((bs T).drop p).length < fuel ∧ listL one c (decide (least = 0)) r0 = (moreL one c fuel ((bs T).drop p)).map (acc ++ ·) := by
                rcases HM.out with ⟨h, _⟩ | ⟨_, h⟩
                · exact absurd h hac
                · exact h
              obtain ⟨f, rfl⟩ : ∃ f, fuel = f + 1 := ⟨fuel - 1, by omega⟩
              rw [moreL, if_neg hh] at hm
              obtain ⟨m, hml⟩ : ∃ m, acc.length = m := ⟨_, rfl⟩
              have hm0 : 0 < m := by have := List.length_pos_iff.2 hac; omega
              have hpos : decide ((m : Int) > 0) = true := decide_eq_true (by omega)
              have hpos2 : decide (0 < (m : Int)) = true := decide_eq_true (by omega)
              have hpos3 : decide (0 < m) = true := decide_eq_true hm0
              rw [hml] at d1 ⊢
              have d1b : decide (m < least) = false := decide_eq_false (by have := of_decide_eq_false d1; omega)
              have d1c : (m < least) = False := eq_false (of_decide_eq_false d1b)
              have HML := Aside0.mk hml
              have hapm : m ≤ p := by omega
              clear hml hL hm0
              cases hw4 : wordL [44] ((bs T).drop p) with
              | bad l =>
                rw [hw4] at hm
                have dne : (byteAt T p != wrap64 (c.toNat : Int)) = true := by rw [w64 (by omega) (by have := c.toNat_lt; omega), bne_iff_ne]; exact hbyte
                have dne2 : (byteAt T p != (c.toNat : Int)) = true := by have h := dne; rwa [w64 (by omega) (by have := c.toNat_lt; omega)] at h
                have dne3 : (byteAt T p != wrap64 ((((⟨#[c]⟩ : ByteArray)[0]'hidx).toNat : Nat) : Int)) = true := dne
                go_wp2
                go_quiet ((go_at_call 34; refine (next_calls rb T p _ (HR.out.drewN _) hp hT2).mono ?_; rintro e w2 ⟨rfl, ⟨nd, rfl⟩⟩; first | exact ⟨rfl, _, World.drewN_drewN _ _ _⟩ | exact ⟨rfl, _, Eq.trans (World.drewN_drewN _ _ _) (congrArg (World.drewN _) (Nat.add_assoc _ _ _))⟩))
                have HD := Aside0.mk (Rf.of_below (rb := rb) (pw_below_drewN (Below.refl wr.heap.size wr) nq))
                have HR2 := Aside0.mk (HR.out.drewN nq)
                have HS2 := Aside0.mk (HK.out _ _ _ HS.out HD.out)
                have HZ2 := Aside0.mk (HZ.out.trans (HD.out.z (Iv := Iv) hns))
                have hn2 : n0 ≤ (wr.drewN nq).heap.size := Nat.le_trans hns HD.out.size
                go_wp2_with (go_at_call 17; refine (want_calls rb T (⟨#[44]⟩ : ByteArray) p _ HR2.out hp hT2 (by show (1 : Nat) ≤ 1000; omega)).mono ?_; intro e w5 hA5; rw [hbm, hw4] at hA5; have HB := Aside0.mk (BrokeZ.after (Broke.z (Iv := Iv) (n0 := n0) hA5 hn2) HZ2.out); obtain ⟨g, rfl, _⟩ := hA5)
                exact ⟨rfl, FB.out l _ _ (by rw [hm]; rfl) HB.out⟩
              | ok u4 r4 =>
                rw [hw4] at hm
                have hs4 := wordL_len _ _ _ hw4
                have hl4 : r4.length + 1 = T.size - p := by have := congrArg List.length hs4; rw [drop_len] at this; simp at this; omega
                have hd4 : (bs T).drop (T.size - r4.length) = r4 := by rw [show T.size - r4.length = p + 1 by omega, ← List.drop_drop (i := 1) (j := p), hs4]; rfl
                cases h1 : one ((bs T).drop (T.size - r4.length)) with
                | bad l =>
                  have dne : (byteAt T p != wrap64 (c.toNat : Int)) = true := by rw [w64 (by omega) (by have := c.toNat_lt; omega), bne_iff_ne]; exact hbyte
                  have dne2 : (byteAt T p != (c.toNat : Int)) = true := by have h := dne; rwa [w64 (by omega) (by have := c.toNat_lt; omega)] at h
                  have dne3 : (byteAt T p != wrap64 ((((⟨#[c]⟩ : ByteArray)[0]'hidx).toNat : Nat) : Int)) = true := dne
                  go_wp2
                  go_quiet ((go_at_call 34; refine (next_calls rb T p _ (HR.out.drewN _) hp hT2).mono ?_; rintro e w2 ⟨rfl, ⟨nd, rfl⟩⟩; first | exact ⟨rfl, _, World.drewN_drewN _ _ _⟩ | exact ⟨rfl, _, Eq.trans (World.drewN_drewN _ _ _) (congrArg (World.drewN _) (Nat.add_assoc _ _ _))⟩))
                  have HD := Aside0.mk (Rf.of_below (rb := rb) (pw_below_drewN (Below.refl wr.heap.size wr) nq))
                  have HR2 := Aside0.mk (HR.out.drewN nq)
                  have HS2 := Aside0.mk (HK.out _ _ _ HS.out HD.out)
                  have HZ2 := Aside0.mk (HZ.out.trans (HD.out.z (Iv := Iv) hns))
                  have hn2 : n0 ≤ (wr.drewN nq).heap.size := Nat.le_trans hns HD.out.size
                  go_wp2_with (first | (go_at_call 17; refine (want_calls rb T (⟨#[44]⟩ : ByteArray) p _ HR2.out hp hT2 (by show (1 : Nat) ≤ 1000; omega)).mono ?_; intro e w5 hA5; rw [hbm, hw4] at hA5; obtain ⟨rfl, hR5, hl5, hd5, hF5⟩ := hA5; have HR5 := Aside0.mk hR5; have HS5 := Aside0.mk (HK.out _ _ _ HS2.out hF5); have HZ5 := Aside0.mk (HZ2.out.trans (hF5.z (Iv := Iv) hn2)); have hn5 := Nat.le_trans hn2 hF5.size; clear hR5 hF5) | (go_at_call 38; refine (HC.out acc (T.size - r4.length) _ HS5.out HR5.out (by omega) (by rw [HML.out]; omega) hn5).mono ?_; intro e w6 hA6; rw [h1] at hA6; have HB := Aside0.mk (BrokeZ.after hA6 HZ5.out); obtain ⟨g, rfl, _⟩ := hA6))
                  exact ⟨rfl, FB.out l _ _ (by rw [hm, show ((Res.ok u4 r4).bind fun _ r => (one r).bind fun x r2 => (moreL one c f r2).map (x :: ·)) = (one r4).bind fun x r2 => (moreL one c f r2).map (x :: ·) from rfl, ← hd4, h1]; rfl) HB.out⟩
                | ok x rest =>
                  have hpr := HN.out _ _ _ h1
                  rw [drop_len] at hpr
                  have dne : (byteAt T p != wrap64 (c.toNat : Int)) = true := by rw [w64 (by omega) (by have := c.toNat_lt; omega), bne_iff_ne]; exact hbyte
                  have dne2 : (byteAt T p != (c.toNat : Int)) = true := by have h := dne; rwa [w64 (by omega) (by have := c.toNat_lt; omega)] at h
                  have dne3 : (byteAt T p != wrap64 ((((⟨#[c]⟩ : ByteArray)[0]'hidx).toNat : Nat) : Int)) = true := dne
                  go_wp2
                  go_quiet ((go_at_call 34; refine (next_calls rb T p _ (HR.out.drewN _) hp hT2).mono ?_; rintro e w2 ⟨rfl, ⟨nd, rfl⟩⟩; first | exact ⟨rfl, _, World.drewN_drewN _ _ _⟩ | exact ⟨rfl, _, Eq.trans (World.drewN_drewN _ _ _) (congrArg (World.drewN _) (Nat.add_assoc _ _ _))⟩))
                  have HD := Aside0.mk (Rf.of_below (rb := rb) (pw_below_drewN (Below.refl wr.heap.size wr) nq))
                  have HR2 := Aside0.mk (HR.out.drewN nq)
                  have HS2 := Aside0.mk (HK.out _ _ _ HS.out HD.out)
                  have HZ2 := Aside0.mk (HZ.out.trans (HD.out.z (Iv := Iv) hns))
                  have hn2 : n0 ≤ (wr.drewN nq).heap.size := Nat.le_trans hns HD.out.size
                  go_wp2_with (first | (go_at_call 17; refine (want_calls rb T (⟨#[44]⟩ : ByteArray) p _ HR2.out hp hT2 (by show (1 : Nat) ≤ 1000; omega)).mono ?_; intro e w5 hA5; rw [hbm, hw4] at hA5; obtain ⟨rfl, hR5, hl5, hd5, hF5⟩ := hA5; have HR5 := Aside0.mk hR5; have HS5 := Aside0.mk (HK.out _ _ _ HS2.out hF5); have HZ5 := Aside0.mk (HZ2.out.trans (hF5.z (Iv := Iv) hn2)); have hn5 := Nat.le_trans hn2 hF5.size; clear hR5 hF5) | (go_at_call 38; refine (HC.out acc (T.size - r4.length) _ HS5.out HR5.out (by omega) (by rw [HML.out]; omega) hn5).mono ?_; intro e w6 hA6; rw [h1] at hA6; obtain ⟨rfl, hS6, hR6, hl6, hd6, hZ6⟩ := hA6))
                  go_roundg k1
                  case measure => omega
                  case rel =>
                    refine ⟨T.size - rest.length, acc ++ [x], by omega, by omega, by first | (simp; omega) | (rw [List.length_append, HML.out]; simp; omega), by first | (simp; done) | (rw [List.length_append, HML.out]; simp; done), ⟨hR6⟩, ⟨hS6⟩, ⟨HZ5.out.trans hZ6⟩, ⟨.inr ⟨by simp, ?_⟩⟩⟩
                    refine ⟨f, by rw [hd6]; rw [drop_len] at hf; omega, ?_⟩
                    rw [hm]
                    show Res.map (acc ++ ·) ((one r4).bind fun x r2 => (moreL one c f r2).map (x :: ·)) = _
                    rw [← hd4, h1, hd6]
                    show Res.map (acc ++ ·) ((moreL one c f rest).map (x :: ·)) = _
                    cases moreL one c f rest with
                    | ok y r => show Res.ok (acc ++ (x :: y)) r = Res.ok (acc ++ [x] ++ y) r; rw [List.append_assoc]; rfl
                    | bad l => rfl

set_option maxRecDepth 100000 in
set_option maxHeartbeats 4000000 in
theorem listP_calls {α : Type} (one : List UInt8 → Res α) (hone : ∀ s x r, one s = .ok x r → r.length < s.length) (St : List α → World → Prop) (n0 rb : Nat) (Iv : World → Prop) [KeepsRf rb Iv] (T : ByteArray) (hT : T.size ≤ 140737488351232) (cap : Value × Value)
    (hk : ∀ acc A B, St acc A → Rf rb A B → St acc B)
    (hcall : ∀ (acc : List α) (p : Nat) (W : World), St acc W → RdAt W rb T p → p ≤ T.size → acc.length ≤ p → n0 ≤ W.heap.size → Calls Try.prog 21 #[cap.1, cap.2] W fun e W' => AfterL n0 rb Iv T (fun x W2 => St (acc ++ [x]) W2) W (one ((bs T).drop p)) e W')
    (o c : UInt8) (least : Nat) (hle : least ≤ 1) (a : Nat) (w : World) (hR : RdAt w rb T a) (ha : a ≤ T.size) (hS : St [] w) (hn : n0 ≤ w.heap.size) :
    Calls Try.prog 20 #[.pointer (some ⟨rb, 0, none⟩), .string (⟨#[o]⟩ : ByteArray), .string (⟨#[c]⟩ : ByteArray), .int .i64 (least : Int), .func (.func 21) #[] #[cap.1, cap.2]] w fun e w' =>
      AfterL n0 rb Iv T St w ((wordL [o] ((bs T).drop a)).bind fun _ r => listL one c (decide (least = 0)) r) e w' := by
  have hmx : Try.prog.follows .mixedOrders = true := by kernel_rfl
  have hT2 : T.size ≤ 140737488355328 := by omega
  have hbo : bs (⟨#[o]⟩ : ByteArray) = [o] := rfl
  have hbc : bs (⟨#[c]⟩ : ByteArray) = [c] := rfl
  have hbm : bs (⟨#[44]⟩ : ByteArray) = [44] := rfl
  obtain ⟨cap1, cap2⟩ := cap
  simp only at hcall ⊢
  cases hwd : wordL [o] ((bs T).drop a) with
  | bad l =>
    go_enter Try.func20, Try.ntmps20
    go_wp2_with (go_at_call 17; refine (want_calls rb T (⟨#[o]⟩ : ByteArray) a _ hR ha hT2 (by show (1 : Nat) ≤ 1000; omega)).mono ?_; intro e w1 hA1; rw [hbo, hwd] at hA1; have HB := Aside0.mk (Broke.z (Iv := Iv) (n0 := n0) hA1 hn); obtain ⟨g, rfl, hA2⟩ := hA1)
    exact ⟨rfl, HB.out⟩
  | ok u r0 =>
    have HC := Aside0.mk hcall
    have HK := Aside0.mk hk
    have HN := Aside0.mk hone
    clear hcall hk hone
    go_enter Try.func20, Try.ntmps20
    go_wp2_with (go_at_call 17; refine (want_calls rb T (⟨#[o]⟩ : ByteArray) a _ hR ha hT2 (by show (1 : Nat) ≤ 1000; omega)).mono ?_; intro e w1 hA1; rw [hbo, hwd] at hA1; obtain ⟨rfl, hR1, hl1, hd1, hF1⟩ := hA1)
    obtain ⟨p0, hp0⟩ : ∃ p0, T.size - r0.length = p0 := ⟨_, rfl⟩
    rw [hp0] at hR1 hd1
    have HR0 := Aside0.mk hR1
    have HS0 := Aside0.mk (HK.out _ _ _ hS hF1)
    have HZ0 := Aside0.mk (hF1.z (Iv := Iv) hn)
    have hst := hF1.size
    clear hR1 hS hF1
    go_loopg [10] (T.size + 1) (fun g v10 wx => ∃ (p : Nat) (acc : List α), T.size < p + g ∧ p ≤ T.size ∧ acc.length ≤ p ∧ v10 = .int .i64 ((acc.length : Nat) : Int) ∧ Aside0 (RdAt wx rb T p) ∧ Aside0 (St acc wx) ∧ Aside0 (Rz n0 rb Iv w wx) ∧
      Aside0 ((acc = [] ∧ p = p0) ∨ acc ≠ [] ∧ ∃ fuel, ((bs T).drop p).length < fuel ∧ listL one c (decide (least = 0)) r0 = (moreL one c fuel ((bs T).drop p)).map (acc ++ ·)))
    case atStart => exact ⟨p0, [], by omega, by omega, by simp, rfl, HR0, HS0, HZ0, ⟨.inl ⟨rfl, rfl⟩⟩⟩
    case round =>
      obtain ⟨p, acc, hpg, hp, hap, rfl, HR, HS, HZ, HM⟩ := hrel
      cases gk with
      | zero => omega
      | succ k1 =>
        clear HR0 HS0 HZ0
        have hns : n0 ≤ wr.heap.size := Nat.le_trans hn HZ.out.size
        have hidx : (0 < (⟨#[c]⟩ : ByteArray).size) := by show 0 < 1; decide
        have FB := Aside0.mk (show ∀ l e W, listL one c (decide (least = 0)) r0 = .bad l → BrokeZ n0 rb Iv w (T.size - l) e W → AfterL n0 rb Iv T St w ((Res.ok u r0).bind fun _ r => listL one c (decide (least = 0)) r) e W from fun l e W h1 h2 => by
          show AfterL n0 rb Iv T St w (listL one c (decide (least = 0)) r0) e W
          rw [h1]
          exact h2)
        by_cases hL : acc.length < least
        · have hac : acc = [] := List.eq_nil_of_length_eq_zero (by omega)
          have hl1 : least = 1 := by omega
          have d1 : decide (((acc.length : Nat) : Int) < (least : Int)) = true := decide_eq_true (by omega)
          have hpp : p = p0 := by
            rcases HM.out with ⟨_, h⟩ | ⟨h, _⟩
            · exact h
            · exact absurd hac h
          have hRA : listL one c (decide (least = 0)) r0 = (one ((bs T).drop p)).bind fun x r => (moreL one c (r.length + 1) r).map (x :: ·) := by
            rw [hpp, hd1]
            unfold listL
            rw [if_neg (by rw [hl1]; simp)]
          subst hac
          clear hl1 hpp
          have d2 : decide (0 < least) = true := decide_eq_true (by simpa using hL)
          have d9 : 0 < least := by simpa using hL
          have d3 : decide ((0 : Int) < (least : Int)) = true := decide_eq_true (by omega)
          clear d9
          clear hL
          cases h1 : one ((bs T).drop (p)) with
          | bad l =>
            go_wp2
            go_quiet (fail)
            have HD := Aside0.mk (Rf.of_below (rb := rb) (pw_below_drewN (Below.refl wr.heap.size wr) nq))
            have HR2 := Aside0.mk (HR.out.drewN nq)
            have HS2 := Aside0.mk (HK.out _ _ _ HS.out HD.out)
            have HZ2 := Aside0.mk (HZ.out.trans (HD.out.z (Iv := Iv) hns))
            have hn2 : n0 ≤ (wr.drewN nq).heap.size := Nat.le_trans hns HD.out.size
            go_wp2_with (go_at_call 21; refine (HC.out [] (p) _ HS2.out HR2.out hp (Nat.zero_le _) hn2).mono ?_; intro e w6 hA6; rw [h1] at hA6; have HB := Aside0.mk (BrokeZ.after hA6 HZ2.out); obtain ⟨g, rfl, _⟩ := hA6)
            exact ⟨rfl, FB.out l _ _ (by rw [hRA, h1]; rfl) HB.out⟩
          | ok x rest =>
            have hpr := HN.out _ _ _ h1
            rw [drop_len] at hpr
            go_wp2
            go_quiet (fail)
            have HD := Aside0.mk (Rf.of_below (rb := rb) (pw_below_drewN (Below.refl wr.heap.size wr) nq))
            have HR2 := Aside0.mk (HR.out.drewN nq)
            have HS2 := Aside0.mk (HK.out _ _ _ HS.out HD.out)
            have HZ2 := Aside0.mk (HZ.out.trans (HD.out.z (Iv := Iv) hns))
            have hn2 : n0 ≤ (wr.drewN nq).heap.size := Nat.le_trans hns HD.out.size
            go_wp2_with (go_at_call 21; refine (HC.out [] (p) _ HS2.out HR2.out hp (Nat.zero_le _) hn2).mono ?_; intro e w6 hA6; rw [h1] at hA6; obtain ⟨rfl, hS6, hR6, hl6, hd6, hZ6⟩ := hA6)
            go_roundg k1
            case measure => omega
            case rel =>
              refine ⟨T.size - rest.length, ([] : List α) ++ [x], by omega, by omega, by first | (simp; omega) | (rw [List.length_append, HML.out]; simp; omega), by first | (simp; done) | (rw [List.length_append, HML.out]; simp; done), ⟨hR6⟩, ⟨hS6⟩, ⟨HZ2.out.trans hZ6⟩, ⟨.inr ⟨by simp, ?_⟩⟩⟩
              refine ⟨rest.length + 1, by rw [hd6]; omega, ?_⟩
              rw [hRA, h1, hd6]
              show Res.map _ _ = _
              rfl
        · have d1 : decide (((acc.length : Nat) : Int) < (least : Int)) = false := decide_eq_false (by omega)
          by_cases hh : ((bs T).drop p).head? = some c
          · have hbyte := (head_byte T p c hp).2 hh
            have hRE : listL one c (decide (least = 0)) r0 = .ok acc ((bs T).drop (p + 1)) := by
              have e1 : ((bs T).drop p).drop 1 = (bs T).drop (p + 1) := by rw [List.drop_drop]
              rcases HM.out with ⟨h, hpp⟩ | ⟨h, fuel, hf, hm⟩
              · subst h
                have hl0 : least = 0 := by simp at hL; omega
                rw [← hd1, ← hpp]
                unfold listL
                rw [if_pos ⟨by simp [hl0], hh⟩, e1]
              · obtain ⟨f, rfl⟩ : ∃ f, fuel = f + 1 := ⟨fuel - 1, by omega⟩
                rw [hm, moreL, if_pos hh, e1]
                show Res.ok (acc ++ []) _ = _
                rw [List.append_nil]
            have hlt : p < T.size := by
              rcases Nat.lt_or_ge p T.size with h | h
              · exact h
              · rw [List.drop_of_length_le (by rw [← size_bs]; exact h)] at hh; cases hh
            have hwe : wordL [c] ((bs T).drop p) = .ok () ((bs T).drop (p + 1)) := by
              have edt := drop_cons T p hlt
              rw [edt] at hh ⊢
              have ex : T[p]'hlt = c := by simpa using hh
              rw [wordL, if_pos ex, wordL]
            have dne : (byteAt T p != wrap64 (c.toNat : Int)) = false := by rw [w64 (by omega) (by have := c.toNat_lt; omega), hbyte]; simp
            have dne2 : (byteAt T p != (c.toNat : Int)) = false := by have h := dne; rwa [w64 (by omega) (by have := c.toNat_lt; omega)] at h
            have dne3 : (byteAt T p != wrap64 ((((⟨#[c]⟩ : ByteArray)[0]'hidx).toNat : Nat) : Int)) = false := dne
            clear hbyte
            go_wp2
            go_quiet ((go_at_call 34; refine (next_calls rb T p _ (HR.out.drewN _) hp hT2).mono ?_; rintro e w2 ⟨rfl, ⟨nd, rfl⟩⟩; first | exact ⟨rfl, _, World.drewN_drewN _ _ _⟩ | exact ⟨rfl, _, Eq.trans (World.drewN_drewN _ _ _) (congrArg (World.drewN _) (Nat.add_assoc _ _ _))⟩))
            have HD := Aside0.mk (Rf.of_below (rb := rb) (pw_below_drewN (Below.refl wr.heap.size wr) nq))
            have HR2 := Aside0.mk (HR.out.drewN nq)
            have HS2 := Aside0.mk (HK.out _ _ _ HS.out HD.out)
            have HZ2 := Aside0.mk (HZ.out.trans (HD.out.z (Iv := Iv) hns))
            have hn2 : n0 ≤ (wr.drewN nq).heap.size := Nat.le_trans hns HD.out.size
            go_wp2_with (go_at_call 17; refine (want_calls rb T (⟨#[c]⟩ : ByteArray) p _ HR2.out hp hT2 (by show (1 : Nat) ≤ 1000; omega)).mono ?_; intro e w5 hA5; rw [hbc, hwe] at hA5; obtain ⟨rfl, hR5, hl5, hd5, hF5⟩ := hA5)
            go_end0
            show AfterL n0 rb Iv T St w (listL one c (decide (least = 0)) r0) _ _
            rw [hRE]
            exact ⟨rfl, HK.out _ _ _ HS2.out hF5, hR5, hl5, hd5, HZ2.out.trans (hF5.z (Iv := Iv) hn2)⟩
          · have hbyte : byteAt T p ≠ (c.toNat : Int) := fun e => hh ((head_byte T p c hp).1 e)
            by_cases hac : acc = []
            · have hpp : p = p0 := by
                rcases HM.out with ⟨_, h⟩ | ⟨h, _⟩
                · exact h
                · exact absurd hac h
              have hl0 : least = 0 := by subst hac; simp at hL; omega
              have hRA : listL one c (decide (least = 0)) r0 = (one ((bs T).drop p)).bind fun x r => (moreL one c (r.length + 1) r).map (x :: ·) := by
                rw [hpp] at hh ⊢
                rw [hd1] at hh ⊢
                unfold listL
                rw [if_neg (fun h => hh h.2)]
              subst hac
              clear hl0 hpp
              have d2 : decide (0 < least) = false := decide_eq_false (by simpa using hL)
              have d9 : ¬ 0 < least := by simpa using hL
              have d3 : decide ((0 : Int) < (least : Int)) = false := decide_eq_false (by omega)
              clear d9
              clear hL
              cases h1 : one ((bs T).drop (p)) with
              | bad l =>
                have dne : (byteAt T p != wrap64 (c.toNat : Int)) = true := by rw [w64 (by omega) (by have := c.toNat_lt; omega), bne_iff_ne]; exact hbyte
                have dne2 : (byteAt T p != (c.toNat : Int)) = true := by have h := dne; rwa [w64 (by omega) (by have := c.toNat_lt; omega)] at h
                have dne3 : (byteAt T p != wrap64 ((((⟨#[c]⟩ : ByteArray)[0]'hidx).toNat : Nat) : Int)) = true := dne
                go_wp2
                go_quiet ((go_at_call 34; refine (next_calls rb T p _ (HR.out.drewN _) hp hT2).mono ?_; rintro e w2 ⟨rfl, ⟨nd, rfl⟩⟩; first | exact ⟨rfl, _, World.drewN_drewN _ _ _⟩ | exact ⟨rfl, _, Eq.trans (World.drewN_drewN _ _ _) (congrArg (World.drewN _) (Nat.add_assoc _ _ _))⟩))
                have HD := Aside0.mk (Rf.of_below (rb := rb) (pw_below_drewN (Below.refl wr.heap.size wr) nq))
                have HR2 := Aside0.mk (HR.out.drewN nq)
                have HS2 := Aside0.mk (HK.out _ _ _ HS.out HD.out)
                have HZ2 := Aside0.mk (HZ.out.trans (HD.out.z (Iv := Iv) hns))
                have hn2 : n0 ≤ (wr.drewN nq).heap.size := Nat.le_trans hns HD.out.size
                go_wp2_with (go_at_call 21; refine (HC.out [] (p) _ HS2.out HR2.out hp (Nat.zero_le _) hn2).mono ?_; intro e w6 hA6; rw [h1] at hA6; have HB := Aside0.mk (BrokeZ.after hA6 HZ2.out); obtain ⟨g, rfl, _⟩ := hA6)
                exact ⟨rfl, FB.out l _ _ (by rw [hRA, h1]; rfl) HB.out⟩
              | ok x rest =>
                have hpr := HN.out _ _ _ h1
                rw [drop_len] at hpr
                have dne : (byteAt T p != wrap64 (c.toNat : Int)) = true := by rw [w64 (by omega) (by have := c.toNat_lt; omega), bne_iff_ne]; exact hbyte
                have dne2 : (byteAt T p != (c.toNat : Int)) = true := by have h := dne; rwa [w64 (by omega) (by have := c.toNat_lt; omega)] at h
                have dne3 : (byteAt T p != wrap64 ((((⟨#[c]⟩ : ByteArray)[0]'hidx).toNat : Nat) : Int)) = true := dne
                go_wp2
                go_quiet ((go_at_call 34; refine (next_calls rb T p _ (HR.out.drewN _) hp hT2).mono ?_; rintro e w2 ⟨rfl, ⟨nd, rfl⟩⟩; first | exact ⟨rfl, _, World.drewN_drewN _ _ _⟩ | exact ⟨rfl, _, Eq.trans (World.drewN_drewN _ _ _) (congrArg (World.drewN _) (Nat.add_assoc _ _ _))⟩))
                have HD := Aside0.mk (Rf.of_below (rb := rb) (pw_below_drewN (Below.refl wr.heap.size wr) nq))
                have HR2 := Aside0.mk (HR.out.drewN nq)
                have HS2 := Aside0.mk (HK.out _ _ _ HS.out HD.out)
                have HZ2 := Aside0.mk (HZ.out.trans (HD.out.z (Iv := Iv) hns))
                have hn2 : n0 ≤ (wr.drewN nq).heap.size := Nat.le_trans hns HD.out.size
                go_wp2_with (go_at_call 21; refine (HC.out [] (p) _ HS2.out HR2.out hp (Nat.zero_le _) hn2).mono ?_; intro e w6 hA6; rw [h1] at hA6; obtain ⟨rfl, hS6, hR6, hl6, hd6, hZ6⟩ := hA6)
                go_roundg k1
                case measure => omega
                case rel =>
                  refine ⟨T.size - rest.length, ([] : List α) ++ [x], by omega, by omega, by first | (simp; omega) | (rw [List.length_append, HML.out]; simp; omega), by first | (simp; done) | (rw [List.length_append, HML.out]; simp; done), ⟨hR6⟩, ⟨hS6⟩, ⟨HZ2.out.trans hZ6⟩, ⟨.inr ⟨by simp, ?_⟩⟩⟩
                  refine ⟨rest.length + 1, by rw [hd6]; omega, ?_⟩
                  rw [hRA, h1, hd6]
                  show Res.map _ _ = _
                  rfl
            · obtain ⟨fuel, hf, hm⟩ : ∃ fuel, ((bs T).drop p).length < fuel ∧ listL one c (decide (least = 0)) r0 = (moreL one c fuel ((bs T).drop p)).map (acc ++ ·) := by
                rcases HM.out with ⟨h, _⟩ | ⟨_, h⟩
                · exact absurd h hac
                · exact h
              obtain ⟨f, rfl⟩ : ∃ f, fuel = f + 1 := ⟨fuel - 1, by omega⟩
              rw [moreL, if_neg hh] at hm
              obtain ⟨m, hml⟩ : ∃ m, acc.length = m := ⟨_, rfl⟩
              have hm0 : 0 < m := by have := List.length_pos_iff.2 hac; omega
              have hpos : decide ((m : Int) > 0) = true := decide_eq_true (by omega)
              have hpos2 : decide (0 < (m : Int)) = true := decide_eq_true (by omega)
              have hpos3 : decide (0 < m) = true := decide_eq_true hm0
              rw [hml] at d1 ⊢
              have d1b : decide (m < least) = false := decide_eq_false (by have := of_decide_eq_false d1; omega)
              have d1c : (m < least) = False := eq_false (of_decide_eq_false d1b)
              have HML := Aside0.mk hml
              have hapm : m ≤ p := by omega
              clear hml hL hm0
              cases hw4 : wordL [44] ((bs T).drop p) with
              | bad l =>
                rw [hw4] at hm
                have dne : (byteAt T p != wrap64 (c.toNat : Int)) = true := by rw [w64 (by omega) (by have := c.toNat_lt; omega), bne_iff_ne]; exact hbyte
                have dne2 : (byteAt T p != (c.toNat : Int)) = true := by have h := dne; rwa [w64 (by omega) (by have := c.toNat_lt; omega)] at h
                have dne3 : (byteAt T p != wrap64 ((((⟨#[c]⟩ : ByteArray)[0]'hidx).toNat : Nat) : Int)) = true := dne
                go_wp2
                go_quiet ((go_at_call 34; refine (next_calls rb T p _ (HR.out.drewN _) hp hT2).mono ?_; rintro e w2 ⟨rfl, ⟨nd, rfl⟩⟩; first | exact ⟨rfl, _, World.drewN_drewN _ _ _⟩ | exact ⟨rfl, _, Eq.trans (World.drewN_drewN _ _ _) (congrArg (World.drewN _) (Nat.add_assoc _ _ _))⟩))
                have HD := Aside0.mk (Rf.of_below (rb := rb) (pw_below_drewN (Below.refl wr.heap.size wr) nq))
                have HR2 := Aside0.mk (HR.out.drewN nq)
                have HS2 := Aside0.mk (HK.out _ _ _ HS.out HD.out)
                have HZ2 := Aside0.mk (HZ.out.trans (HD.out.z (Iv := Iv) hns))
                have hn2 : n0 ≤ (wr.drewN nq).heap.size := Nat.le_trans hns HD.out.size
                go_wp2_with (go_at_call 17; refine (want_calls rb T (⟨#[44]⟩ : ByteArray) p _ HR2.out hp hT2 (by show (1 : Nat) ≤ 1000; omega)).mono ?_; intro e w5 hA5; rw [hbm, hw4] at hA5; have HB := Aside0.mk (BrokeZ.after (Broke.z (Iv := Iv) (n0 := n0) hA5 hn2) HZ2.out); obtain ⟨g, rfl, _⟩ := hA5)
                exact ⟨rfl, FB.out l _ _ (by rw [hm]; rfl) HB.out⟩
              | ok u4 r4 =>
                rw [hw4] at hm
                have hs4 := wordL_len _ _ _ hw4
                have hl4 : r4.length + 1 = T.size - p := by have := congrArg List.length hs4; rw [drop_len] at this; simp at this; omega
                have hd4 : (bs T).drop (T.size - r4.length) = r4 := by rw [show T.size - r4.length = p + 1 by omega, ← List.drop_drop (i := 1) (j := p), hs4]; rfl
                cases h1 : one ((bs T).drop (T.size - r4.length)) with
                | bad l =>
                  have dne : (byteAt T p != wrap64 (c.toNat : Int)) = true := by rw [w64 (by omega) (by have := c.toNat_lt; omega), bne_iff_ne]; exact hbyte
                  have dne2 : (byteAt T p != (c.toNat : Int)) = true := by have h := dne; rwa [w64 (by omega) (by have := c.toNat_lt; omega)] at h
                  have dne3 : (byteAt T p != wrap64 ((((⟨#[c]⟩ : ByteArray)[0]'hidx).toNat : Nat) : Int)) = true := dne
                  go_wp2
                  go_quiet ((go_at_call 34; refine (next_calls rb T p _ (HR.out.drewN _) hp hT2).mono ?_; rintro e w2 ⟨rfl, ⟨nd, rfl⟩⟩; first | exact ⟨rfl, _, World.drewN_drewN _ _ _⟩ | exact ⟨rfl, _, Eq.trans (World.drewN_drewN _ _ _) (congrArg (World.drewN _) (Nat.add_assoc _ _ _))⟩))
                  have HD := Aside0.mk (Rf.of_below (rb := rb) (pw_below_drewN (Below.refl wr.heap.size wr) nq))
                  have HR2 := Aside0.mk (HR.out.drewN nq)
                  have HS2 := Aside0.mk (HK.out _ _ _ HS.out HD.out)
                  have HZ2 := Aside0.mk (HZ.out.trans (HD.out.z (Iv := Iv) hns))
                  have hn2 : n0 ≤ (wr.drewN nq).heap.size := Nat.le_trans hns HD.out.size
                  go_wp2_with (first | (go_at_call 17; refine (want_calls rb T (⟨#[44]⟩ : ByteArray) p _ HR2.out hp hT2 (by show (1 : Nat) ≤ 1000; omega)).mono ?_; intro e w5 hA5; rw [hbm, hw4] at hA5; obtain ⟨rfl, hR5, hl5, hd5, hF5⟩ := hA5; have HR5 := Aside0.mk hR5; have HS5 := Aside0.mk (HK.out _ _ _ HS2.out hF5); have HZ5 := Aside0.mk (HZ2.out.trans (hF5.z (Iv := Iv) hn2)); have hn5 := Nat.le_trans hn2 hF5.size; clear hR5 hF5) | (go_at_call 21; refine (HC.out acc (T.size - r4.length) _ HS5.out HR5.out (by omega) (by rw [HML.out]; omega) hn5).mono ?_; intro e w6 hA6; rw [h1] at hA6; have HB := Aside0.mk (BrokeZ.after hA6 HZ5.out); obtain ⟨g, rfl, _⟩ := hA6))
                  exact ⟨rfl, FB.out l _ _ (by rw [hm, show ((Res.ok u4 r4).bind fun _ r => (one r).bind fun x r2 => (moreL one c f r2).map (x :: ·)) = (one r4).bind fun x r2 => (moreL one c f r2).map (x :: ·) from rfl, ← hd4, h1]; rfl) HB.out⟩
                | ok x rest =>
                  have hpr := HN.out _ _ _ h1
                  rw [drop_len] at hpr
                  have dne : (byteAt T p != wrap64 (c.toNat : Int)) = true := by rw [w64 (by omega) (by have := c.toNat_lt; omega), bne_iff_ne]; exact hbyte
                  have dne2 : (byteAt T p != (c.toNat : Int)) = true := by have h := dne; rwa [w64 (by omega) (by have := c.toNat_lt; omega)] at h
                  have dne3 : (byteAt T p != wrap64 ((((⟨#[c]⟩ : ByteArray)[0]'hidx).toNat : Nat) : Int)) = true := dne
                  go_wp2
                  go_quiet ((go_at_call 34; refine (next_calls rb T p _ (HR.out.drewN _) hp hT2).mono ?_; rintro e w2 ⟨rfl, ⟨nd, rfl⟩⟩; first | exact ⟨rfl, _, World.drewN_drewN _ _ _⟩ | exact ⟨rfl, _, Eq.trans (World.drewN_drewN _ _ _) (congrArg (World.drewN _) (Nat.add_assoc _ _ _))⟩))
                  have HD := Aside0.mk (Rf.of_below (rb := rb) (pw_below_drewN (Below.refl wr.heap.size wr) nq))
                  have HR2 := Aside0.mk (HR.out.drewN nq)
                  have HS2 := Aside0.mk (HK.out _ _ _ HS.out HD.out)
                  have HZ2 := Aside0.mk (HZ.out.trans (HD.out.z (Iv := Iv) hns))
                  have hn2 : n0 ≤ (wr.drewN nq).heap.size := Nat.le_trans hns HD.out.size
                  go_wp2_with (first | (go_at_call 17; refine (want_calls rb T (⟨#[44]⟩ : ByteArray) p _ HR2.out hp hT2 (by show (1 : Nat) ≤ 1000; omega)).mono ?_; intro e w5 hA5; rw [hbm, hw4] at hA5; obtain ⟨rfl, hR5, hl5, hd5, hF5⟩ := hA5; have HR5 := Aside0.mk hR5; have HS5 := Aside0.mk (HK.out _ _ _ HS2.out hF5); have HZ5 := Aside0.mk (HZ2.out.trans (hF5.z (Iv := Iv) hn2)); have hn5 := Nat.le_trans hn2 hF5.size; clear hR5 hF5) | (go_at_call 21; refine (HC.out acc (T.size - r4.length) _ HS5.out HR5.out (by omega) (by rw [HML.out]; omega) hn5).mono ?_; intro e w6 hA6; rw [h1] at hA6; obtain ⟨rfl, hS6, hR6, hl6, hd6, hZ6⟩ := hA6))
                  go_roundg k1
                  case measure => omega
                  case rel =>
                    refine ⟨T.size - rest.length, acc ++ [x], by omega, by omega, by first | (simp; omega) | (rw [List.length_append, HML.out]; simp; omega), by first | (simp; done) | (rw [List.length_append, HML.out]; simp; done), ⟨hR6⟩, ⟨hS6⟩, ⟨HZ5.out.trans hZ6⟩, ⟨.inr ⟨by simp, ?_⟩⟩⟩
                    refine ⟨f, by rw [hd6]; rw [drop_len] at hf; omega, ?_⟩
                    rw [hm]
                    show Res.map (acc ++ ·) ((one r4).bind fun x r2 => (moreL one c f r2).map (x :: ·)) = _
                    rw [← hd4, h1, hd6]
                    show Res.map (acc ++ ·) ((moreL one c f rest).map (x :: ·)) = _
                    cases moreL one c f rest with
                    | ok y r => show Res.ok (acc ++ (x :: y)) r = Res.ok (acc ++ [x] ++ y) r; rw [List.append_assoc]; rfl
                    | bad l => rfl
end Go.Proofs.Ytdkkgeibifpgiaa.Rc
