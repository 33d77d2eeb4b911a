/- The recipe's reader: one step, and the list of them. -/
import Derived.Test.YtdkkgeibifpgiaaRcStrings
namespace Go.Proofs.Ytdkkgeibifpgiaa.Rc
open Go.RowKit Go.Lib Go.Proofs.YtdkkgeibifpgiaaW.PrintWords Go.Proofs.YtdkkgeibifpgiaaW.PrintLast Go.Proofs.YtdkkgeibifpgiaaW.PrintMore Go.Proofs.Ytdkkgeibifpgiaa.Bytes Go.Proofs.Ytdkkgeibifpgiaa.Q
set_option linter.unusedVariables false
set_option linter.unusedSimpArgs false

/-- The rest of a row of strings behind its first: a slice into the row. -/
def tailK : Kd (List ByteArray) where
  sz := 1
  E := [9]
  K := (Kd.slice 9 Kd.string).K
  M := fun w base ok xs cs => ∃ g h cap, cs = [.slice (some ⟨g, if xs.length = 0 then 0 else 1, none⟩) xs.length xs.length] ∧ Kd.string.R 9 w base ok (.slice (some ⟨g, 0, none⟩) (xs.length + 1) cap) (h :: xs)
  K_len := (Kd.slice 9 Kd.string).K_len
  K_one := (Kd.slice 9 Kd.string).K_one
  K_below := (Kd.slice 9 Kd.string).K_below
  K_of_M := by
    rintro w base ok xs cs ⟨g, h, cap, rfl, hr⟩
    obtain ⟨_, _, hc⟩ := Kd.R_reads' hr
    refine ⟨_, _, rfl, Nat.le_refl _, ?_⟩
    have := Kd.C_drop (m := 1) (c := xs.length + 1) hc (by simp) (by simp)
    rw [List.drop_one, List.tail_cons] at this
    by_cases h0 : xs.length = 0
    · rw [if_pos (by omega)] at this
      rw [if_pos h0]
      exact this
    · rw [if_neg (by omega)] at this
      rw [if_neg h0]
      exact this
  M_mono := by
    rintro w base ok ok' x cs hok ⟨g, h, cap, rfl, hr⟩
    exact ⟨g, h, cap, rfl, Kd.R_mono hr hok⟩
  M_bound := by
    rintro w base ok x cs ⟨g, h, cap, rfl, hr⟩
    exact ⟨g, h, cap, rfl, Kd.R_bound hr⟩
  M_move := by
    rintro w w1 base ok x cs hm ⟨g, h, cap, rfl, hr⟩
    exact ⟨g, h, cap, rfl, Kd.R_move hr hm⟩
  M_lower := by
    rintro w base base' ok x cs hb ⟨g, h, cap, rfl, hr⟩
    exact ⟨g, h, cap, rfl, Kd.R_lower hr hb⟩
/-- A step whose arguments are the rest of a row. -/
def kSt : Kd S47 := Kd.iso (Kd.pair Kd.string tailK) (fun x : S47 => (x.f0, x.f1))

theorem moreL_prog {α : Type} (one : List UInt8 → Res α) (hone : ∀ s x r, one s = .ok x r → r.length < s.length) (e : UInt8) : ∀ (n : Nat) (s : List UInt8) (xs : List α) (r : List UInt8), moreL one e n s = .ok xs r → r.length < s.length
  | 0, s, xs, r, h => by cases h
  | n + 1, s, xs, r, h => by
    rw [moreL] at h
    split at h
    · rename_i h0
      cases h
      cases s with
      | nil => cases h0
      | cons y s => simp
    · cases hw : wordL [44] s with
      | bad l => rw [hw] at h; cases h
      | ok u r0 =>
        have hs := wordL_len _ _ _ hw
        rw [hw] at h
        cases ho : one r0 with
        | bad l => simp only [Res.bind, ho] at h; cases h
        | ok x r1 =>
          have h1 := hone _ _ _ ho
          simp only [Res.bind, ho] at h
          cases hm : moreL one e n r1 with
          | bad l => rw [hm] at h; cases h
          | ok ys r2 =>
            have h2 := moreL_prog one hone e n _ _ _ hm
            rw [hm] at h
            cases h
            rw [hs]
            simp
            omega
theorem listL_some {α : Type} (one : List UInt8 → Res α) (hone : ∀ s x r, one s = .ok x r → r.length < s.length) (e : UInt8) (s : List UInt8) (xs : List α) (r : List UInt8) (h : listL one e false s = .ok xs r) : r.length < s.length ∧ ∃ x ys, xs = x :: ys := by
  rw [listL, if_neg (by simp)] at h
  cases ho : one s with
  | bad l => rw [ho] at h; cases h
  | ok x r1 =>
    have h1 := hone _ _ _ ho
    simp only [Res.bind, ho] at h
    cases hm : moreL one e (r1.length + 1) r1 with
    | bad l => rw [hm] at h; cases h
    | ok ys r2 =>
      have h2 := moreL_prog one hone e _ _ _ _ hm
      rw [hm] at h
      cases h
      exact ⟨by omega, x, ys, rfl⟩
/-- The words of a step. -/
def wordsL (s : List UInt8) : Res (List ByteArray) := (wordL [40] s).bind fun _ r => listL strB 41 false r
def stepB (s : List UInt8) : Res S47 := (wordsL s).map (fun l => ⟨l.headD ⟨#[]⟩, l.tail⟩)
theorem wordsL_some (s : List UInt8) (xs : List ByteArray) (r : List UInt8) (h : wordsL s = .ok xs r) : r.length < s.length ∧ ∃ x ys, xs = x :: ys := by
  unfold wordsL at h
  cases hw : wordL [40] s with
  | bad l => rw [hw] at h; cases h
  | ok u r0 =>
    have hs := wordL_len _ _ _ hw
    rw [hw] at h
    obtain ⟨h1, h2⟩ := listL_some strB strB_prog 41 r0 xs r h
    exact ⟨by rw [hs]; simp; omega, h2⟩
theorem stepB_prog : ∀ s x r, stepB s = .ok x r → r.length < s.length := by
  intro s x r h
  unfold stepB at h
  cases hw : wordsL s with
  | bad l => rw [hw] at h; cases h
  | ok l r0 =>
    rw [hw] at h
    cases h
    exact (wordsL_some _ _ _ hw).1
/-- The closure's variables: the reader's own (bx), the recipe so far (bg); the steps' rows lie at m or behind, the other names' row below m. -/
structure GotP (m b0 rb bx bg be : Nat) (ob : Obj) (nm : ByteArray) (dv : Value) (deps : List ByteArray) (xs : List S47) (W : World) : Prop where
  r : Boxed W bx 48 (.pointer (some ⟨rb, 0, none⟩))
  got : ∃ sv, W.heap[bg]? = some (.cells #[.string nm, dv, sv] 26 (0, 0)) ∧ kSt.R 47 W m (fun _ => True) sv xs
  dep : Kd.string.R 9 W b0 (fun k => k < m) dv deps
  err : W.heap[be]? = some ob
theorem GotP.keep {m b0 rb bx bg be : Nat} {ob : Obj} {nm : ByteArray} {dv : Value} {deps : List ByteArray} {xs : List S47} {A B : World} (h : GotP m b0 rb bx bg be ob nm dv deps xs A) (k : Rf rb A B) (h1 : bx ≠ rb) (h2 : bg ≠ rb) (h3 : rb < m) (h4 : rb < b0) (h5 : be ≠ rb) : GotP m b0 rb bx bg be ob nm dv deps xs B := by
  obtain ⟨sv, hb, hr⟩ := h.got
  refine ⟨(k.block bx h.r.lt h1).trans h.r, ⟨sv, (k.block bg (Array.getElem?_eq_some_iff.1 hb).1 h2).trans hb, ?_⟩, ?_, ?_⟩
  · exact Kd.R_mono (Kd.R_move (Kd.R_bound hr) (fun q hq => k.block q hq.2.2.1 (by have := hq.2.1; omega))) (fun _ _ => trivial)
  · exact Kd.R_mono (Kd.R_move (Kd.R_bound h.dep) (fun q hq => k.block q hq.2.2.1 (by have := hq.2.1; omega))) (fun _ hq => hq.1)
  · exact (k.block be (Array.getElem?_eq_some_iff.1 h.err).1 h5).trans h.err
theorem setGot {W : World} {bg : Nat} {a b c d : Value} {t : TypeId} (h : W.heap[bg]? = some (.cells #[a, b, c] t (0, 0))) : (W.setCell ⟨bg, 2, none⟩ d).heap[bg]? = some (.cells #[a, b, d] t (0, 0)) := by
  simp [World.setCell, Array.getElem?_modify, h]
/-- What stands where Parse gives up: a recipe's three cells, the error's box. -/
def IvP (bg be : Nat) (ob : Obj) (W : World) : Prop := (∃ x0 x1 x2, W.heap[bg]? = some (.cells #[x0, x1, x2] 26 (0, 0))) ∧ W.heap[be]? = some ob
theorem IvP.keeps {rb bg be : Nat} {ob : Obj} (h1 : bg ≠ rb) (h2 : be ≠ rb) : KeepsRf rb (IvP bg be ob) := ⟨fun A B f h => by
  obtain ⟨⟨x0, x1, x2, hg⟩, he⟩ := h
  exact ⟨⟨x0, x1, x2, (f.block bg (Array.getElem?_eq_some_iff.1 hg).1 h1).trans hg⟩, (f.block be (Array.getElem?_eq_some_iff.1 he).1 h2).trans he⟩⟩
/-- Behind the append and the store. -/
theorem GotP.store {n0 m b0 rb bx bg be p : Nat} {ob : Obj} {T nm : ByteArray} {dv : Value} {deps : List ByteArray} {xs ys : List S47} {W2 W1 : World} {v1 : Value} (hS : GotP m b0 rb bx bg be ob nm dv deps xs W2) (hR : RdAt W2 rb T p) (hb : Below m W2 W1) (hr : kSt.R 47 W1 m (fun _ => True) v1 ys)
    (h0o : n0 ≤ bg) (hm1 : rb < m) (hm2 : bx < m) (hm3 : bg < m) (hb0 : bg < b0) (hne : bx ≠ bg) (hnr : bg ≠ rb) (hbe2 : be < m) (hbe3 : be ≠ bg) :
    GotP m b0 rb bx bg be ob nm dv deps ys (W1.setCell ⟨bg, 2, none⟩ v1) ∧ RdAt (W1.setCell ⟨bg, 2, none⟩ v1) rb T p ∧ Rz n0 rb (IvP bg be ob) W2 (W1.setCell ⟨bg, 2, none⟩ v1) := by
  obtain ⟨sv, hg, _⟩ := hS.got
  have hg1 : W1.heap[bg]? = some (.cells #[.string nm, dv, sv] 26 (0, 0)) := (hb.block bg hm3).trans hg
  refine ⟨⟨?_, ⟨v1, setGot hg1, ?_⟩, ?_, ?_⟩, ?_, ?_⟩
  · exact (Below.heap_setCell _ _ _ bx hne).trans ((hb.block bx hm2).trans hS.r)
  · exact Kd.R_mono (Kd.R_far (Kd.R_bound hr) (fun k hk => by have := hk.2.1; show k ≠ bg; omega) v1) (fun _ _ => trivial)
  · exact Kd.R_mono (Kd.R_far (Kd.R_move (Kd.R_bound hS.dep) (fun k hk => hb.block k hk.1)) (fun k hk => by have := hk.2.1; show k ≠ bg; omega) v1) (fun _ hk => hk.1)
  · exact (Below.heap_setCell _ _ _ be hbe3).trans ((hb.block be hbe2).trans hS.err)
  · exact (Below.heap_setCell _ _ _ rb (Ne.symm hnr)).trans ((hb.block rb hm1).trans hR)
  · exact ⟨hb.os, hb.tape, hb.output, Nat.le_trans hb.size (KeepsWalks.setCell W1 _ v1).size, fun k hk _ => (Below.heap_setCell _ _ _ k (by show k ≠ bg; omega)).trans (hb.block k (by omega)), fun _ => ⟨⟨_, _, _, setGot hg1⟩, (Below.heap_setCell _ _ _ be hbe3).trans ((hb.block be hbe2).trans hS.err)⟩⟩
end Go.Proofs.Ytdkkgeibifpgiaa.Rc
