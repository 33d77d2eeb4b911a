/- The recipe's reader: str, a text between quotes. -/
import Derived.Test.YtdkkgeibifpgiaaRcReader
import Derived.Test.YtdkkgeibifpgiaaLays
import Derived.Lib.IndexLaws
namespace Go.Proofs.Ytdkkgeibifpgiaa.Rc
open Go.RowKit Go.Lib Go.Proofs.YtdkkgeibifpgiaaW.PrintWords Go.Proofs.YtdkkgeibifpgiaaW.PrintLast Go.Proofs.YtdkkgeibifpgiaaW.PrintMore Go.Proofs.Ytdkkgeibifpgiaa.Bytes
set_option linter.unusedVariables false
set_option linter.unusedSimpArgs false

theorem bld_move {T e : TypeId} {B b : Nat} {bs : List Value} {w w' : World} (h : IsBuilderF T e B b bs w) (hm : ∀ k, B ≤ k → w'.heap[k]? = w.heap[k]?) : IsBuilderF T e B b bs w' := by
  have mv : ∀ p, BuilderAtF T e B b p bs w → BuilderAtF T e B b p bs w' := by
    rintro p ⟨hB, v, hb, ⟨hl, ho⟩, hne⟩
    refine ⟨hB, v, (hm b hB).trans hb, ⟨hl, ?_⟩, hne⟩
    rcases ho with ho | ⟨g, cap, cur, fz, rfl, hg, hgg, r⟩
    · exact .inl ho
    · exact .inr ⟨g, cap, cur, fz, rfl, hg, (hm g hg).trans hgg, r⟩
  exact h.elim (fun x => .inl (mv _ x)) (fun x => .inr (mv _ x))
theorem bld_draw {T e : TypeId} {B b : Nat} {bs : List Value} {w w' : World} (h : IsBuilderF T e B b bs w) (hd : Drawn0 w w') : IsBuilderF T e B b bs w' := by
  obtain ⟨n, rfl⟩ := hd
  exact bld_move h (fun k _ => by simp)
theorem bld_lt {T e : TypeId} {B b : Nat} {bs : List Value} {w : World} (h : IsBuilderF T e B b bs w) : b < w.heap.size := h.elim (fun x => x.lt) (fun x => x.lt)
theorem rd_inc {w w' : World} {rb a : Nat} {T : ByteArray} (h : RdAt w rb T a) (hw : w.setCell ⟨rb, 1, none⟩ (.int .i64 ((a : Int) + 1)) = w') : RdAt w' rb T (a + 1) := by
  rw [← hw]
  exact h.set (a + 1)
theorem rf_inc {w w' : World} {rb : Nat} {v : Value} (hw : w.setCell ⟨rb, 1, none⟩ v = w') : Rf rb w w' := by
  rw [← hw]
  exact (Rf.refl rb w).set 1 v
theorem bld_inc {Ty e : TypeId} {B b rb : Nat} {bs : List Value} {w w' : World} {v : Value} (h : IsBuilderF Ty e B b bs w) (hw : w.setCell ⟨rb, 1, none⟩ v = w') (hr : rb < B) : IsBuilderF Ty e B b bs w' := by
  rw [← hw]
  exact bld_move h (fun k hk => Below.heap_setCell _ _ _ k (by show k ≠ rb; omega))
theorem rd_blow {w w' : World} {rb a B : Nat} {T : ByteArray} (h : RdAt w rb T a) (hb : Below B w w') (hr : rb < B) : RdAt w' rb T a := (hb.block rb hr).trans h
/-- What lay when the call began lies below the builder. -/
theorem rf_blow {v w w' : World} {rb B : Nat} (hb : Below B w w') (hB : v.heap.size ≤ B) (h : Rf rb v w) : Rf rb v w' :=
  ⟨hb.os.trans h.os, hb.tape.trans h.tape, hb.output.trans h.output, Nat.le_trans h.size hb.size, fun k hk hn => (hb.block k (by omega)).trans (h.block k hk hn)⟩
theorem bld_byte {T e : TypeId} {B b : Nat} {acc : List UInt8} {x : UInt8} {w : World} (h : BuilderAtF T e B b (.pointer (some ⟨b, 0, none⟩)) (byteCells acc ++ [.int .u8 (x.toNat : Int)]) w) : IsBuilderF T e B b (byteCells (acc ++ [x])) w := by
  rw [byteCells_append]
  exact .inr h
theorem strBody_cons (x : UInt8) (s : List UInt8) : strBody (x :: s) = if x = 34 then .ok [] s else if x = 10 ∨ x = 9 then .bad (s.length + 1) else if x = 92 then (match s with | [] => .bad 0 | y :: s' => match esc y with | none => .bad (s'.length + 1) | some c => (strBody s').map (c :: ·)) else (strBody s).map (x :: ·) := by
  cases s with
  | nil =>
    have e : strBody [x] = if x = 34 then .ok [] [] else if x = 10 ∨ x = 9 then .bad 1 else .bad 0 := by rw [strBody]
    rw [e]
    by_cases h1 : x = 34
    · rw [if_pos h1, if_pos h1]
    · rw [if_neg h1, if_neg h1]
      by_cases h2 : x = 10 ∨ x = 9
      · rw [if_pos h2, if_pos h2]; rfl
      · rw [if_neg h2, if_neg h2]
        split <;> rfl
  | cons y s => rw [strBody]; rfl
theorem Res.map_map {α β γ : Type} (f : α → β) (g : β → γ) (r : Res α) : (r.map f).map g = r.map (g ∘ f) := by cases r <;> rfl
/-- What a call of the reader's that answers a text leaves. -/
def AfterS (rb : Nat) (T : ByteArray) (W : World) (r : Res (List UInt8)) (e : Ending) (W' : World) : Prop :=
  match r with
  | .ok l rest => e = .returned (.string ⟨l.toArray⟩) ∧ RdAt W' rb T (T.size - rest.length) ∧ rest.length ≤ T.size ∧ (bs T).drop (T.size - rest.length) = rest ∧ Rf rb W W'
  | .bad l => Broke rb W (T.size - l) e W'
def escT : ByteArray := ⟨#[34, 92, 110, 116]⟩
theorem esc_none (y : UInt8) (h : esc y = none) : Lib.indexByte [34, 92, 110, 116] y = -1 := by
  unfold esc at h
  split at h
  · cases h
  · split at h
    · cases h
    · split at h
      · cases h
      · split at h
        · cases h
        · rename_i h1 h2 h3 h4
          simp [Lib.indexByte, Ne.symm h1, Ne.symm h2, Ne.symm h3, Ne.symm h4, h1, h2, h3, h4]
theorem esc_some (y c : UInt8) (h : esc y = some c) : ∃ i : Nat, i < 4 ∧ Lib.indexByte [34, 92, 110, 116] y = (i : Int) ∧ ([34, 92, 10, 9] : List UInt8)[i]? = some c := by
  unfold esc at h
  split at h
  · rename_i h1; cases h; subst h1; exact ⟨0, by decide, by decide, rfl⟩
  · split at h
    · rename_i h1; cases h; subst h1; exact ⟨1, by decide, by decide, rfl⟩
    · split at h
      · rename_i h1; cases h; subst h1; exact ⟨2, by decide, by decide, rfl⟩
      · split at h
        · rename_i h1; cases h; subst h1; exact ⟨3, by decide, by decide, rfl⟩
        · cases h
theorem idx_calls (y : UInt8) (w : World) : Calls Try.prog 36 #[.string (⟨#[34, 92, 110, 116]⟩ : ByteArray), .int .u8 (y.toNat : Int)] w fun e w' => e = .returned (.int .i64 (Lib.indexByte [34, 92, 110, 116] y)) ∧ w' = w := by
  have h := Try.strings_IndexByte (⟨#[34, 92, 110, 116]⟩ : ByteArray) (y.toNat : Int) w
  have e : ((y.toNat : Int).toNat.toUInt8) = y := by
    rw [Int.toNat_natCast]
    exact UInt8.ofNat_toNat
  rw [e] at h
  exact h
set_option maxRecDepth 100000 in
set_option maxHeartbeats 4000000 in
theorem str_calls (rb : Nat) (T : ByteArray) (a : Nat) (w : World) (hR : RdAt w rb T a) (ha : a ≤ T.size) (hT : T.size ≤ 140737488351232) :
    Calls Try.prog 18 #[.pointer (some ⟨rb, 0, none⟩)] w fun e w' => AfterS rb T w (strL ((bs T).drop a)) e w' := by
  have hmx : Try.prog.follows .mixedOrders = true := by kernel_rfl
  have hT2 : T.size ≤ 140737488355328 := by omega
  unfold strL
  cases hwd : wordL [34] ((bs T).drop a) with
  | bad l =>
    go_enter Try.func18, Try.ntmps18
    go_wp2_with (go_at_call 17; refine (want_calls rb T (⟨#[34]⟩ : ByteArray) a _ hR ha hT2 (by decide)).mono ?_; intro e w1 hA1; rw [show bs (⟨#[34]⟩ : ByteArray) = [34] from rfl, hwd] at hA1; obtain ⟨g, rfl, hA2⟩ := hA1)
    exact ⟨rfl, g, rfl, hA2⟩
  | ok u r0 =>
    go_enter Try.func18, Try.ntmps18
    go_wp2_with (go_at_call 17; refine (want_calls rb T (⟨#[34]⟩ : ByteArray) a _ hR ha hT2 (by decide)).mono ?_; intro e w1 hA1; rw [show bs (⟨#[34]⟩ : ByteArray) = [34] from rfl, hwd] at hA1; obtain ⟨rfl, hR1, hl1, hd1, hF1⟩ := hA1)
    obtain ⟨B, hB⟩ : ∃ B, w1.heap.size = B := ⟨_, rfl⟩
    obtain ⟨w2, hw2⟩ : ∃ w2, w1.alloc (.cells #[.pointer none, .slice none 0 0] 76) = w2 := ⟨_, rfl⟩
    have hI0 : IsBuilderF 76 5 B B (byteCells []) w2 := by
      rw [← hw2, ← hB]
      exact IsBuilderF.of (fresh_isBuilder 76 5 w1)
    have hb2 : Below w1.heap.size w1 w2 := by rw [← hw2]; exact (Below.refl _ _).alloc (Nat.le_refl _) _
    have hrB : rb < B := by rw [← hB]; exact hR1.lt
    have hwB : w.heap.size ≤ B := by rw [← hB]; exact hF1.size
    have HR0 := Aside0.mk (hR1.below hb2)
    have HF0 := Aside0.mk (hF1.trans (Rf.of_below hb2))
    have HI0 := Aside0.mk hI0
    have HD0 := Aside0.mk hd1
    rw [hw2]
    simp only [hB]
    clear hR1 hF1 hI0 hb2 hw2 hd1 hB
    obtain ⟨p0, hp0⟩ : ∃ p0, T.size - r0.length = p0 := ⟨_, rfl⟩
    rw [hp0] at HR0 HD0
    go_loopg [4] (T.size + 1) (fun g v4 wx => ∃ (p : Nat) (acc : List UInt8), T.size < p + g ∧ p ≤ T.size ∧ acc.length ≤ p ∧ Aside0 (RdAt wx rb T p) ∧ Aside0 (Rf rb w wx) ∧ Aside0 (IsBuilderF 76 5 B B (byteCells acc) wx) ∧ Aside0 (strBody r0 = (strBody ((bs T).drop p)).map (acc ++ ·)))
    case atStart => exact ⟨p0, [], by omega, by omega, by simp, HR0, HF0, HI0, ⟨by rw [HD0.out]; cases strBody r0 <;> rfl⟩⟩
    case round =>
      obtain ⟨p, acc, hpg, hp, hap, HR, HF, HI, HM⟩ := hrel
      cases gk with
      | zero => omega
      | succ k1 =>
        clear HR0 HF0 HI0 HD0
        have hBs : B ≤ wr.heap.size := by
          rcases HI.out with h | h
          · have := h.lt; omega
          · have := h.lt; omega
        by_cases hlt : p < T.size
        · have edt := drop_cons T p hlt
          obtain ⟨x, hx⟩ : ∃ x, T[p]'hlt = x := ⟨_, rfl⟩
          have hbx := byteAt_lt T p hlt
          rw [hx] at edt hbx
          have hxl := x.toNat_lt
          have hm := HM.out
          rw [edt, strBody_cons] at hm
          have b1 : (byteAt T p == -1) = false := by rw [hbx, beq_eq_false_iff_ne]; omega
          by_cases h34 : x = 34
          · have f10 : (byteAt T p == 10) = false := by rw [hbx, h34]; decide
            have f9 : (byteAt T p == 9) = false := by rw [hbx, h34]; decide
            have f34 : (byteAt T p == 34) = true := by rw [hbx, h34]; decide
            rw [if_pos h34] at hm
            go_wp2_with (first | (go_at_call 34; refine (next_calls rb T (p) _ HR.out hp hT2).mono ?_; rintro e w3 ⟨rfl, hd3⟩; have HR3 := Aside0.mk (HR.out.below hd3.below); have HF3 := Aside0.mk (HF.out.trans (Rf.of_below hd3.below)); have HI3 := Aside0.mk (bld_draw HI.out hd3); clear hd3; have r1 := HR3.out.c1; have r2 := HR3.out.fro 1) | (go_at_call 35; generalize hW4 : World.setCell w3 _ _ = w4; have HR4 := Aside0.mk (rd_inc HR3.out hW4); have HF4 := Aside0.mk (HF3.out.trans (rf_inc hW4)); have HI4 := Aside0.mk (bld_inc HI3.out hW4 hrB); clear hW4; have hs4 : B ≤ w4.heap.size := Nat.le_of_lt (Nat.lt_of_le_of_lt (Nat.le_refl _) (bld_lt HI4.out)); refine (Try.Builder_String_any_k B B acc w4 HI4.out hs4).mono ?_; rintro e w5 ⟨rfl, _, hb5, _⟩; have HR5 := Aside0.mk (rd_blow HR4.out hb5 hrB); have HF5 := Aside0.mk (rf_blow hb5 hwB HF4.out); clear hb5))
            go_ret
            have hm2 : strBody r0 = .ok acc ((bs T).drop (p + 1)) := by
              rw [hm]
              show Res.ok (acc ++ []) _ = _
              rw [List.append_nil]
            show AfterS rb T w (strBody r0) _ _
            rw [hm2]
            have e1 : ((bs T).drop (p + 1)).length = T.size - (p + 1) := by rw [List.length_drop, ← size_bs]
            have e2 : T.size - ((bs T).drop (p + 1)).length = p + 1 := by omega
            exact ⟨rfl, by rw [e2]; exact HR5.out, by omega, by rw [e2], HF5.out⟩
          · have f34 : (byteAt T p == 34) = false := by rw [hbx, beq_eq_false_iff_ne]; exact fun e => h34 ((byte_eq_iff x 34).1 e)
            rw [if_neg h34] at hm
            have hac : acc.length + 1 ≤ 140737488355328 := by omega
            by_cases h109 : x = 10 ∨ x = 9
            · have f109 : (byteAt T p == 10) = true ∨ (byteAt T p == 10) = false ∧ (byteAt T p == 9) = true := by
                rw [hbx]
                rcases h109 with e | e
                · left; rw [e]; decide
                · right; rw [e]; decide
              rw [if_pos h109] at hm
              have el : T.size - (((bs T).drop (p + 1)).length + 1) = p := by rw [List.length_drop, ← size_bs]; omega
              have done : ∀ e W, Broke rb w p e W → AfterS rb T w (strBody r0) e W := fun e W h => by
                rw [hm]
                show Broke rb w _ e W
                rw [el]
                exact h
              rcases f109 with f10 | ⟨f10, f9⟩
              · go_wp2_with (first | (go_at_call 34; refine (next_calls rb T (p) _ HR.out hp hT2).mono ?_; rintro e w3 ⟨rfl, hd3⟩; have HR3 := Aside0.mk (HR.out.below hd3.below); have HF3 := Aside0.mk (HF.out.trans (Rf.of_below hd3.below)); have HI3 := Aside0.mk (bld_draw HI.out hd3); clear hd3; have r1 := HR3.out.c1; have r2 := HR3.out.fro 1) | (go_at_call 22; refine (bad_calls rb T (p) _ HR3.out).mono ?_; intro e w4 hb4; have HB4 := Aside0.mk (hb4.after HF3.out); obtain ⟨g, rfl, _⟩ := hb4))
                exact ⟨rfl, done _ _ HB4.out⟩
              · go_wp2_with (first | (go_at_call 34; refine (next_calls rb T (p) _ HR.out hp hT2).mono ?_; rintro e w3 ⟨rfl, hd3⟩; have HR3 := Aside0.mk (HR.out.below hd3.below); have HF3 := Aside0.mk (HF.out.trans (Rf.of_below hd3.below)); have HI3 := Aside0.mk (bld_draw HI.out hd3); clear hd3; have r1 := HR3.out.c1; have r2 := HR3.out.fro 1) | (go_at_call 22; refine (bad_calls rb T (p) _ HR3.out).mono ?_; intro e w4 hb4; have HB4 := Aside0.mk (hb4.after HF3.out); obtain ⟨g, rfl, _⟩ := hb4))
                exact ⟨rfl, done _ _ HB4.out⟩
            · have f10 : (byteAt T p == 10) = false := by rw [hbx, beq_eq_false_iff_ne]; exact fun e => h109 (.inl ((byte_eq_iff x 10).1 e))
              have f9 : (byteAt T p == 9) = false := by rw [hbx, beq_eq_false_iff_ne]; exact fun e => h109 (.inr ((byte_eq_iff x 9).1 e))
              rw [if_neg h109] at hm
              by_cases h92 : x = 92
              · have f92 : (byteAt T p == 92) = true := by rw [hbx, h92]; decide
                rw [if_pos h92] at hm
                have hy : ∃ y : UInt8, max (byteAt T (p + 1)) 0 % 256 = (y.toNat : Int) ∧ ((∃ s', (bs T).drop (p + 1) = y :: s') ∨ (bs T).drop (p + 1) = [] ∧ esc y = none) := by
                  by_cases hl2 : p + 1 < T.size
                  · refine ⟨T[p + 1]'hl2, ?_, .inl ⟨_, drop_cons T (p + 1) hl2⟩⟩
                    rw [byteAt_lt T _ hl2]
                    have := (T[p + 1]'hl2).toNat_lt
                    omega
                  · refine ⟨0, ?_, .inr ⟨List.drop_of_length_le (by rw [← size_bs]; omega), by decide⟩⟩
                    rw [show p + 1 = T.size by omega, byteAt_end]
                    decide
                obtain ⟨y, hIX, hys⟩ := hy
                have hlen1 : ((bs T).drop (p + 1)).length = T.size - (p + 1) := by rw [List.length_drop, ← size_bs]
                cases hesc : esc y with
                | none =>
                  have hidx := esc_none y hesc
                  have done : ∀ e W, Broke rb w (p + 1) e W → AfterS rb T w (strBody r0) e W := fun e W h => by
                    rw [hm]
                    rcases hys with ⟨s', hs'⟩ | ⟨hs', _⟩
                    · rw [hs'] at hlen1 ⊢
                      simp only [hesc]
                      show Broke rb w (T.size - (s'.length + 1)) e W
                      rw [List.length_cons] at hlen1
                      rw [hlen1, show T.size - (T.size - (p + 1)) = p + 1 by omega]
                      exact h
                    · rw [hs'] at hlen1 ⊢
                      show Broke rb w (T.size - 0) e W
                      rw [List.length_nil] at hlen1
                      rw [show T.size - 0 = p + 1 by omega]
                      exact h
                  have DONE := Aside0.mk done
                  clear done hm hys hlen1
                  go_wp2_with (first | (go_at_call 34; generalize hW4 : World.setCell w3 _ _ = w4; have HR4 := Aside0.mk (rd_inc HR3.out hW4); have HF4 := Aside0.mk (HF3.out.trans (rf_inc hW4)); have HI4 := Aside0.mk (bld_inc HI3.out hW4 hrB); clear hW4; refine (next_calls rb T (p + 1) w4 HR4.out (by omega) hT2).mono ?_; rintro e w5 ⟨rfl, hd5⟩; have HR5 := Aside0.mk (HR4.out.below hd5.below); have HF5 := Aside0.mk (HF4.out.trans (Rf.of_below hd5.below)); have HI5 := Aside0.mk (bld_draw HI4.out hd5); clear hd5; have r5 := HR5.out.c1; have r6 := HR5.out.fro 1) | (go_at_call 34; refine (next_calls rb T (p) _ HR.out hp hT2).mono ?_; rintro e w3 ⟨rfl, hd3⟩; have HR3 := Aside0.mk (HR.out.below hd3.below); have HF3 := Aside0.mk (HF.out.trans (Rf.of_below hd3.below)); have HI3 := Aside0.mk (bld_draw HI.out hd3); clear hd3; have r1 := HR3.out.c1; have r2 := HR3.out.fro 1) | (go_at_call 36; rw [hIX]; refine (idx_calls y _).mono ?_; rintro e w6 ⟨rfl, he6⟩; subst he6; rw [hidx]) | (go_at_call 22; refine (bad_calls rb T (p + 1) _ HR5.out).mono ?_; intro e w7 hb7; have HB4 := Aside0.mk (hb7.after HF5.out); obtain ⟨g, rfl, _⟩ := hb7))
                  exact ⟨rfl, DONE.out _ _ HB4.out⟩
                | some c =>
                  obtain ⟨s', hs'⟩ : ∃ s', (bs T).drop (p + 1) = y :: s' := by
                    rcases hys with h | ⟨_, h⟩
                    · exact h
                    · rw [hesc] at h; cases h
                  have hm2 : strBody r0 = (strBody ((bs T).drop (p + 2))).map ((acc ++ [c]) ++ ·) := by
                    have e2 : (bs T).drop (p + 2) = s' := by rw [← List.drop_drop (i := 1) (j := p + 1), hs']; rfl
                    rw [hm, hs', e2]
                    simp only [hesc]
                    rw [Res.map_map]
                    congr 1
                    funext l
                    simp
                  have hl2 : p + 2 ≤ T.size := by rw [hs', List.length_cons] at hlen1; omega
                  clear hm hys
                  obtain ⟨i, hi4, hidx, hic⟩ := esc_some y c hesc
                  have hcc : (i = 0 ∧ c = 34) ∨ (i = 1 ∧ c = 92) ∨ (i = 2 ∧ c = 10) ∨ (i = 3 ∧ c = 9) := by
                    match i, hi4, hic with
                    | 0, _, h => left; exact ⟨rfl, by simpa using h.symm⟩
                    | 1, _, h => right; left; exact ⟨rfl, by simpa using h.symm⟩
                    | 2, _, h => right; right; left; exact ⟨rfl, by simpa using h.symm⟩
                    | 3, _, h => right; right; right; exact ⟨rfl, by simpa using h.symm⟩
                  have fin : ∀ W, RdAt W rb T (p + 1) → Rf rb w W → IsBuilderF 76 5 B B (byteCells (acc ++ [c])) W → ∃ (p' : Nat) (acc' : List UInt8), T.size < p' + k1 ∧ p' ≤ T.size ∧ acc'.length ≤ p' ∧ Aside0 (RdAt (W.setCell ⟨rb, 1, none⟩ (.int .i64 (((p + 1 : Nat) : Int) + 1))) rb T p') ∧ Aside0 (Rf rb w (W.setCell ⟨rb, 1, none⟩ (.int .i64 (((p + 1 : Nat) : Int) + 1)))) ∧ Aside0 (IsBuilderF 76 5 B B (byteCells acc') (W.setCell ⟨rb, 1, none⟩ (.int .i64 (((p + 1 : Nat) : Int) + 1)))) ∧ Aside0 (strBody r0 = (strBody ((bs T).drop p')).map (acc' ++ ·)) :=
                    fun W h1 h2 h3 => ⟨p + 2, acc ++ [c], by omega, hl2, by simp; omega, ⟨rd_inc h1 rfl⟩, ⟨h2.trans (rf_inc rfl)⟩, ⟨bld_inc h3 rfl hrB⟩, ⟨hm2⟩⟩
                  have FIN := Aside0.mk fin
                  clear fin hm2 hs' hlen1
                  rcases hcc with ⟨rfl, rfl⟩ | ⟨rfl, rfl⟩ | ⟨rfl, rfl⟩ | ⟨rfl, rfl⟩
                  · go_wp2_with (first | (go_at_call 34; generalize hW4 : World.setCell w3 _ _ = w4; have HR4 := Aside0.mk (rd_inc HR3.out hW4); have HF4 := Aside0.mk (HF3.out.trans (rf_inc hW4)); have HI4 := Aside0.mk (bld_inc HI3.out hW4 hrB); clear hW4; refine (next_calls rb T (p + 1) w4 HR4.out (by omega) hT2).mono ?_; rintro e w5 ⟨rfl, hd5⟩; have HR5 := Aside0.mk (HR4.out.below hd5.below); have HF5 := Aside0.mk (HF4.out.trans (Rf.of_below hd5.below)); have HI5 := Aside0.mk (bld_draw HI4.out hd5); clear hd5; have r5 := HR5.out.c1; have r6 := HR5.out.fro 1) | (go_at_call 34; refine (next_calls rb T (p) _ HR.out hp hT2).mono ?_; rintro e w3 ⟨rfl, hd3⟩; have HR3 := Aside0.mk (HR.out.below hd3.below); have HF3 := Aside0.mk (HF.out.trans (Rf.of_below hd3.below)); have HI3 := Aside0.mk (bld_draw HI.out hd3); clear hd3; have r1 := HR3.out.c1; have r2 := HR3.out.fro 1) | (go_at_call 36; rw [hIX]; refine (idx_calls y _).mono ?_; rintro e w6 ⟨rfl, he6⟩; subst he6; rw [hidx]) | (go_at_call 37; rw [show (wrap64 (((⟨#[34, 92, 10, 9]⟩ : ByteArray)[0]'(by decide)).toNat : Int) % 256) = ((34 : UInt8).toNat : Int) from by rw [w64 (by decide) (by decide)]; decide]; refine (Try.WriteByte_k B B (byteCells acc) ((34 : UInt8).toNat) _ HI5.out (by rw [byteCells_length]; exact hac) (Nat.le_of_lt (bld_lt HI5.out))).mono ?_; rintro e w7 ⟨rfl, hI7, hb7, _⟩; have HI7 := Aside0.mk (bld_byte hI7); have HR7 := Aside0.mk (rd_blow HR5.out hb7 hrB); have HF7 := Aside0.mk (rf_blow hb7 hwB HF5.out); have r3 := HR7.out.c1; have r4 := HR7.out.fro 1; clear hI7 hb7))
                    go_roundg k1
                    case measure => omega
                    case rel =>
                      obtain ⟨p', acc', q1, q2, q3, q4⟩ := FIN.out _ HR7.out HF7.out HI7.out
                      exact ⟨p', acc', q1, q2, q3, q4⟩
                  · go_wp2_with (first | (go_at_call 34; generalize hW4 : World.setCell w3 _ _ = w4; have HR4 := Aside0.mk (rd_inc HR3.out hW4); have HF4 := Aside0.mk (HF3.out.trans (rf_inc hW4)); have HI4 := Aside0.mk (bld_inc HI3.out hW4 hrB); clear hW4; refine (next_calls rb T (p + 1) w4 HR4.out (by omega) hT2).mono ?_; rintro e w5 ⟨rfl, hd5⟩; have HR5 := Aside0.mk (HR4.out.below hd5.below); have HF5 := Aside0.mk (HF4.out.trans (Rf.of_below hd5.below)); have HI5 := Aside0.mk (bld_draw HI4.out hd5); clear hd5; have r5 := HR5.out.c1; have r6 := HR5.out.fro 1) | (go_at_call 34; refine (next_calls rb T (p) _ HR.out hp hT2).mono ?_; rintro e w3 ⟨rfl, hd3⟩; have HR3 := Aside0.mk (HR.out.below hd3.below); have HF3 := Aside0.mk (HF.out.trans (Rf.of_below hd3.below)); have HI3 := Aside0.mk (bld_draw HI.out hd3); clear hd3; have r1 := HR3.out.c1; have r2 := HR3.out.fro 1) | (go_at_call 36; rw [hIX]; refine (idx_calls y _).mono ?_; rintro e w6 ⟨rfl, he6⟩; subst he6; rw [hidx]) | (go_at_call 37; rw [show (wrap64 (((⟨#[34, 92, 10, 9]⟩ : ByteArray)[1]'(by decide)).toNat : Int) % 256) = ((92 : UInt8).toNat : Int) from by rw [w64 (by decide) (by decide)]; decide]; refine (Try.WriteByte_k B B (byteCells acc) ((92 : UInt8).toNat) _ HI5.out (by rw [byteCells_length]; exact hac) (Nat.le_of_lt (bld_lt HI5.out))).mono ?_; rintro e w7 ⟨rfl, hI7, hb7, _⟩; have HI7 := Aside0.mk (bld_byte hI7); have HR7 := Aside0.mk (rd_blow HR5.out hb7 hrB); have HF7 := Aside0.mk (rf_blow hb7 hwB HF5.out); have r3 := HR7.out.c1; have r4 := HR7.out.fro 1; clear hI7 hb7))
                    go_roundg k1
                    case measure => omega
                    case rel =>
                      obtain ⟨p', acc', q1, q2, q3, q4⟩ := FIN.out _ HR7.out HF7.out HI7.out
                      exact ⟨p', acc', q1, q2, q3, q4⟩
                  · go_wp2_with (first | (go_at_call 34; generalize hW4 : World.setCell w3 _ _ = w4; have HR4 := Aside0.mk (rd_inc HR3.out hW4); have HF4 := Aside0.mk (HF3.out.trans (rf_inc hW4)); have HI4 := Aside0.mk (bld_inc HI3.out hW4 hrB); clear hW4; refine (next_calls rb T (p + 1) w4 HR4.out (by omega) hT2).mono ?_; rintro e w5 ⟨rfl, hd5⟩; have HR5 := Aside0.mk (HR4.out.below hd5.below); have HF5 := Aside0.mk (HF4.out.trans (Rf.of_below hd5.below)); have HI5 := Aside0.mk (bld_draw HI4.out hd5); clear hd5; have r5 := HR5.out.c1; have r6 := HR5.out.fro 1) | (go_at_call 34; refine (next_calls rb T (p) _ HR.out hp hT2).mono ?_; rintro e w3 ⟨rfl, hd3⟩; have HR3 := Aside0.mk (HR.out.below hd3.below); have HF3 := Aside0.mk (HF.out.trans (Rf.of_below hd3.below)); have HI3 := Aside0.mk (bld_draw HI.out hd3); clear hd3; have r1 := HR3.out.c1; have r2 := HR3.out.fro 1) | (go_at_call 36; rw [hIX]; refine (idx_calls y _).mono ?_; rintro e w6 ⟨rfl, he6⟩; subst he6; rw [hidx]) | (go_at_call 37; rw [show (wrap64 (((⟨#[34, 92, 10, 9]⟩ : ByteArray)[2]'(by decide)).toNat : Int) % 256) = ((10 : UInt8).toNat : Int) from by rw [w64 (by decide) (by decide)]; decide]; refine (Try.WriteByte_k B B (byteCells acc) ((10 : UInt8).toNat) _ HI5.out (by rw [byteCells_length]; exact hac) (Nat.le_of_lt (bld_lt HI5.out))).mono ?_; rintro e w7 ⟨rfl, hI7, hb7, _⟩; have HI7 := Aside0.mk (bld_byte hI7); have HR7 := Aside0.mk (rd_blow HR5.out hb7 hrB); have HF7 := Aside0.mk (rf_blow hb7 hwB HF5.out); have r3 := HR7.out.c1; have r4 := HR7.out.fro 1; clear hI7 hb7))
                    go_roundg k1
                    case measure => omega
                    case rel =>
                      obtain ⟨p', acc', q1, q2, q3, q4⟩ := FIN.out _ HR7.out HF7.out HI7.out
                      exact ⟨p', acc', q1, q2, q3, q4⟩
                  · go_wp2_with (first | (go_at_call 34; generalize hW4 : World.setCell w3 _ _ = w4; have HR4 := Aside0.mk (rd_inc HR3.out hW4); have HF4 := Aside0.mk (HF3.out.trans (rf_inc hW4)); have HI4 := Aside0.mk (bld_inc HI3.out hW4 hrB); clear hW4; refine (next_calls rb T (p + 1) w4 HR4.out (by omega) hT2).mono ?_; rintro e w5 ⟨rfl, hd5⟩; have HR5 := Aside0.mk (HR4.out.below hd5.below); have HF5 := Aside0.mk (HF4.out.trans (Rf.of_below hd5.below)); have HI5 := Aside0.mk (bld_draw HI4.out hd5); clear hd5; have r5 := HR5.out.c1; have r6 := HR5.out.fro 1) | (go_at_call 34; refine (next_calls rb T (p) _ HR.out hp hT2).mono ?_; rintro e w3 ⟨rfl, hd3⟩; have HR3 := Aside0.mk (HR.out.below hd3.below); have HF3 := Aside0.mk (HF.out.trans (Rf.of_below hd3.below)); have HI3 := Aside0.mk (bld_draw HI.out hd3); clear hd3; have r1 := HR3.out.c1; have r2 := HR3.out.fro 1) | (go_at_call 36; rw [hIX]; refine (idx_calls y _).mono ?_; rintro e w6 ⟨rfl, he6⟩; subst he6; rw [hidx]) | (go_at_call 37; rw [show (wrap64 (((⟨#[34, 92, 10, 9]⟩ : ByteArray)[3]'(by decide)).toNat : Int) % 256) = ((9 : UInt8).toNat : Int) from by rw [w64 (by decide) (by decide)]; decide]; refine (Try.WriteByte_k B B (byteCells acc) ((9 : UInt8).toNat) _ HI5.out (by rw [byteCells_length]; exact hac) (Nat.le_of_lt (bld_lt HI5.out))).mono ?_; rintro e w7 ⟨rfl, hI7, hb7, _⟩; have HI7 := Aside0.mk (bld_byte hI7); have HR7 := Aside0.mk (rd_blow HR5.out hb7 hrB); have HF7 := Aside0.mk (rf_blow hb7 hwB HF5.out); have r3 := HR7.out.c1; have r4 := HR7.out.fro 1; clear hI7 hb7))
                    go_roundg k1
                    case measure => omega
                    case rel =>
                      obtain ⟨p', acc', q1, q2, q3, q4⟩ := FIN.out _ HR7.out HF7.out HI7.out
                      exact ⟨p', acc', q1, q2, q3, q4⟩
              · have f92 : (byteAt T p == 92) = false := by rw [hbx, beq_eq_false_iff_ne]; exact fun e => h92 ((byte_eq_iff x 92).1 e)
                rw [if_neg h92] at hm
                go_wp2_with (first | (go_at_call 34; refine (next_calls rb T (p) _ HR.out hp hT2).mono ?_; rintro e w3 ⟨rfl, hd3⟩; have HR3 := Aside0.mk (HR.out.below hd3.below); have HF3 := Aside0.mk (HF.out.trans (Rf.of_below hd3.below)); have HI3 := Aside0.mk (bld_draw HI.out hd3); clear hd3; have r1 := HR3.out.c1; have r2 := HR3.out.fro 1) | (go_at_call 37; refine (Try.WriteByte_k B B (byteCells acc) (x.toNat) _ HI3.out (by rw [byteCells_length]; exact hac) (Nat.le_of_lt (bld_lt HI3.out))).mono ?_; rintro e w5 ⟨rfl, hI5, hb5, _⟩; have HI5 := Aside0.mk (bld_byte hI5); have HR5 := Aside0.mk (rd_blow HR3.out hb5 hrB); have HF5 := Aside0.mk (rf_blow hb5 hwB HF3.out); have r3 := HR5.out.c1; have r4 := HR5.out.fro 1; clear hI5 hb5))
                go_roundg k1
                case measure => omega
                case rel =>
                  refine ⟨p + 1, acc ++ [x], by omega, by omega, by simp; omega, ⟨?_⟩, ⟨HF5.out.trans (rf_inc rfl)⟩, ⟨bld_inc HI5.out rfl hrB⟩, ⟨?_⟩⟩
                  · exact rd_inc HR5.out rfl
                  · rw [hm, Res.map_map]
                    congr 1
                    funext l
                    simp
        · obtain rfl : p = T.size := by omega
          have hm := HM.out
          rw [List.drop_of_length_le (show (bs T).length ≤ T.size by rw [← size_bs]; exact Nat.le_refl _), strBody] at hm
          go_wp2_with (first | (go_at_call 34; refine (next_calls rb T (T.size) _ HR.out (Nat.le_refl _) hT2).mono ?_; rintro e w3 ⟨rfl, hd3⟩; have HR3 := Aside0.mk (HR.out.below hd3.below); have HF3 := Aside0.mk (HF.out.trans (Rf.of_below hd3.below)); have HI3 := Aside0.mk (bld_draw HI.out hd3); clear hd3; rw [byteAt_end]) | (go_at_call 22; refine (bad_calls rb T (T.size) _ HR3.out).mono ?_; intro e w4 hb4; have HB4 := Aside0.mk (hb4.after HF3.out); obtain ⟨g, rfl, _⟩ := hb4))
          refine ⟨rfl, ?_⟩
          show AfterS rb T w (strBody r0) _ _
          rw [hm]
          show Broke rb w (T.size - 0) _ _
          exact HB4.out
end Go.Proofs.Ytdkkgeibifpgiaa.Rc
