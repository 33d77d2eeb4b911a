/- A range over a function whose iterator keeps a state of its own in cells: 'Ab' says what the iterator itself may do between two rounds. -/
import Derived.RangeFuncFrom
namespace Go.Proofs.YtabgpdpdgkgmbaaDoor.Loop
open Go.RowKit
set_option linter.unusedVariables false

/-- The iterator's contract: the caller's invariants abide what the iterator does (Ab); a round that goes on keeps what the iterator wants kept (Kp). -/
def SeqAb {α : Type} (F : Fence) (n : Nat) (P : Program) (g : Nat) (lb : Array Value) (encs : α → Array Value) (Ab Kp : World → World → Prop) (S Sp : List α → Prop) (w : World) : Prop :=
  ∀ (l : Nat) (J Jx : List α → World → Prop) (W : World), Below w.heap.size w W → (∀ s A B, J s A → Ab A B → J s B) → (∀ s A B, Jx s A → Ab A B → Jx s B) →
    (∀ pre x W1, J pre W1 → YieldAt F (n - 1) P l (encs x) W1 fun e W' =>
      (e = .returned (.bool true) ∧ J (pre ++ [x]) W' ∧ Kp W1 W') ∨ (e = .returned (.bool false) ∧ Jx (pre ++ [x]) W')) →
    J [] W →
    CallsIn F n P g (#[.func (.yield l) #[] #[]] ++ lb) W fun e W' => (∃ v, e = .returned v) ∧ ((∃ xs, S xs ∧ J xs W') ∨ (∃ pre, Sp pre ∧ Jx pre W'))

/-- What the law itself keeps: the loop's record, and the block for the rounds' deferred calls. -/
structure Book (D : Nat) (r : Loop) (W : World) : Prop where
  loop : W.heap[D + 1]? = some (.loop r)
  defs : W.heap[D]? = some (.deferred (some []))
theorem Book.lt {D : Nat} {r : Loop} {W : World} (h : Book D r W) : D + 1 < W.heap.size := (Array.getElem?_eq_some_iff.1 h.loop).1
theorem Book.put {D : Nat} {r : Loop} {W : World} (h : Book D r W) (r' : Loop) : Book D r' (W.putObj (D + 1) (.loop r')) :=
  ⟨World.putObj_heap_same h.lt, (World.putObj_heap_other (by omega)).trans h.defs⟩
theorem Book.keeps {D : Nat} {r : Loop} {W W' : World} (h : Book D r W) (hk : KeepsOthers W W') : Book D r W' := ⟨hk.same _ _ h.loop rfl, hk.same _ _ h.defs rfl⟩
theorem Book.same {D : Nat} {r : Loop} {W W' : World} (h : Book D r W) (hk : ∀ k, D ≤ k → W'.heap[k]? = W.heap[k]?) : Book D r W' := ⟨(hk _ (by omega)).trans h.loop, (hk _ (by omega)).trans h.defs⟩

section
variable {F : Fence} {n : Nat} {P : Program} {α : Type} {g : Operand} {ps : Array Tmp} {assign body : Code} {Q : Exit → Act → World → Prop} {a : Act} {w : World}
/-- The law for the caller. -/
theorem rangeFunc_ab (hro : F.round = none) (h1 : 1 ≤ n) {gf : Nat} {lb : Array Value} (hg : a.eval g = .func (.func gf) #[] lb) (hFg : F.fn gf) (eg : ∀ args w, (callFunc gf args).run P w = .ok (.enter gf args) w)
    {encs : α → Array Value} {Ab Kp : World → World → Prop} {S Sp : List α → Prop} (hseq : SeqAb F (n - 1) P gf lb encs Ab Kp S Sp w)
    (hAb : ∀ A B, Ab A B → ∀ k, w.heap.size ≤ k → B.heap[k]? = A.heap[k]?)
    (hKt : ∀ {A B C : World}, Kp A B → Kp B C → Kp A C) (hKb : ∀ (W : World) (l : Nat) (o : Obj), w.heap.size ≤ l → Kp W (W.putObj l o)) (hps : ∀ x, (encs x).size = ps.size)
    (I : List α → World → Prop) (Ix : Code → List α → World → Prop) (hI : OwnFrom w.heap.size I) (hIx : ∀ c, OwnFrom w.heap.size (Ix c)) (hIa : ∀ s A B, I s A → Ab A B → I s B) (hIxa : ∀ c s A B, Ix c s A → Ab A B → Ix c s B)
    (h0 : I [] w) (a₁ : α → Act)
    (hassign : ∀ (l : Nat) (x : α) (W : World) (K : Act → World → Prop), K (a₁ x) W →
      assign.wpIn (F.inRound l) (n - 1 - 1) P (Exit.then K (fun _ _ _ => False)) { tmps := (ps.zip (encs x)).foldl (fun t (p, v) => t.setIfInBounds p v) a.tmps, defers := [] } W)
    (hbody : ∀ (l : Nat) (pre : List α) (x : α) (W : World), I pre W → body.wpIn (F.inRound l) (n - 1 - 1) P (ownPostK Kp I Ix (pre ++ [x]) W) (a₁ x) W)
    (hdone : ∀ (D : Nat) (xs : List α) (W : World), w.heap.size ≤ D → S xs → I xs W → W.heap[D]? = some (.deferred (some [])) → Q .normal { a with defers := { target := .collected D, args := #[] } :: a.defers } W)
    (hstop : ∀ (D : Nat) (c : Code) (pre : List α) (W : World), w.heap.size ≤ D → Sp pre → Ix c pre W → W.heap[D]? = some (.deferred (some [])) → c.wpIn F n P Q { a with defers := { target := .collected D, args := #[] } :: a.defers } W) :
    (Code.rangeFunc g ps assign body).wpIn F n P Q a w := by
  refine wpIn_rangeFunc fun fn hfn => ?_
  rw [hro]
  generalize hD : w.heap.size = D at *
  let rec_ : LoopState → Option Code → Loop := fun st pe => { state := st, pending := pe, fn, tmps := a.tmps, params := ps, assign, body, defers := D }
  have hrun := run_enterLoop_outer (P := P) (w := w) fn a.tmps ps assign body
  rw [hD] at hrun
  have hI1 : I [] ((w.alloc (.deferred (some []))).alloc (.loop (rec_ .ready none))) := hI.alloc _ (hI.alloc _ h0)
  have hB1 : Book D (rec_ .ready none) ((w.alloc (.deferred (some []))).alloc (.loop (rec_ .ready none))) := by
    constructor
    · have := World.alloc_heap_new (w.alloc (.deferred (some []))) (.loop (rec_ .ready none))
      rwa [World.size_alloc, hD] at this
    · have := (Below.heap_alloc (w.alloc (.deferred (some []))) (.loop (rec_ .ready none)) w.heap.size (by simp)).trans (World.alloc_heap_new w _)
      rwa [hD] at this
  have hb1 : Below w.heap.size w ((w.alloc (.deferred (some []))).alloc (.loop (rec_ .ready none))) := ((Below.refl _ w).alloc (Nat.le_refl _) _).alloc (by simp) _
  obtain ⟨W0, hW0⟩ : ∃ W0, (w.alloc (.deferred (some []))).alloc (.loop (rec_ .ready none)) = W0 := ⟨_, rfl⟩
  have hrun2 : (Instr.enterLoop fn a.tmps ps assign body none).run P w = .ok (D + 1, [{ target := .collected D, args := #[] }]) W0 := by rw [← hW0]; exact hrun
  rw [hW0] at hI1 hB1 hb1
  refine ⟨D + 1, [{ target := .collected D, args := #[] }], W0, { target := .fn (.func gf) lb, args := #[.func (.yield (D + 1)) #[] #[]] }, W0, gf, #[.func (.yield (D + 1)) #[] #[]] ++ lb, W0, hrun2, ?_, ?_, ?_, fun _ => h1, ?_⟩
  · simp only [resolve, hg]
    simp [go_sem]
  · intro f' hf'
    simp [Target.leads] at hf'
    exact hf' ▸ hFg
  · simp [invoke, go_sem, eg]
  · clear hrun hrun2 hW0
    refine (hseq (D + 1) (fun pre W => I pre W ∧ Book D (rec_ .ready none) W) (fun pre W => ∃ c, Ix c pre W ∧ Book D (rec_ .done (some c)) W) W0 hb1
      (fun s A B hs hab => ⟨hIa s A B hs.1 hab, hs.2.same (hAb A B hab)⟩) (fun s A B hs hab => ⟨hs.choose, hIxa _ s A B hs.choose_spec.1 hab, hs.choose_spec.2.same (hAb A B hab)⟩) ?_ ⟨hI1, hB1⟩).mono ?_
    · rintro pre x W ⟨hi, hb⟩
      refine ⟨fn, _, assign, body, run_yield hb.loop (hps x), roundIn_of_wpIn hfn (hassign _ x W _ ⟨_, run_beginRound hb.loop rfl, ?_⟩)⟩
      have hb2 := hb.put (rec_ .busy none)
      have hk2 : Kp W (W.putObj (D + 1) (.loop (rec_ .busy none))) := hKb _ _ _ (by omega)
      refine wpIn_mono (hbody _ pre x _ (hI.putObj _ hi (by omega) hb.loop rfl)) fun e a3 W3 hp => ?_
      have out : ∀ jump : Option Code, KeepsOthers (W.putObj (D + 1) (.loop (rec_ .busy none))) W3 → Book D (rec_ .busy none) W3 ∧
          (Instr.endRound (D + 1) jump).run P W3 = .ok (.bool jump.isNone) (W3.putObj (D + 1) (.loop (rec_ (if jump.isNone then .ready else .done) jump))) :=
        fun jump hk => ⟨hb2.keeps hk, run_endRound jump (hb2.keeps hk).loop⟩
      match e, hp with
      | .normal, ⟨hk, hkp, hi3⟩ =>
        obtain ⟨hb3, hr⟩ := out none hk
        exact ⟨_, _, hr, .inl ⟨rfl, ⟨hI.putObj _ hi3 (by omega) hb3.loop rfl, hb3.put _⟩, hKt (hKt hk2 hkp) (hKb _ _ _ (by omega))⟩⟩
      | .ret, ⟨hk, hi3⟩ =>
        obtain ⟨hb3, hr⟩ := out (some .ret) hk
        exact ⟨_, _, hr, .inr ⟨rfl, .ret, (hIx _).putObj _ hi3 (by omega) hb3.loop rfl, hb3.put _⟩⟩
      | .exit id, ⟨hk, hi3⟩ =>
        obtain ⟨hb3, hr⟩ := out (some (.exit id)) hk
        exact ⟨_, _, hr, .inr ⟨rfl, .exit id, (hIx _).putObj _ hi3 (by omega) hb3.loop rfl, hb3.put _⟩⟩
      | .goto t, ⟨hk, hi3⟩ =>
        obtain ⟨hb3, hr⟩ := out (some (.goto t)) hk
        exact ⟨_, _, hr, .inr ⟨rfl, .goto t, (hIx _).putObj _ hi3 (by omega) hb3.loop rfl, hb3.put _⟩⟩
    · rintro e W2 ⟨⟨v, rfl⟩, ⟨xs, hS, hi, hb⟩ | ⟨pre, hSp, c, hi, hb⟩⟩
      · exact ⟨none, _, run_endLoop hb.loop (by simp [rec_]), hdone D xs _ (Nat.le_refl _) hS (hI.putObj _ hi (by omega) hb.loop rfl) ((World.putObj_heap_other (by omega)).trans hb.defs)⟩
      · exact ⟨some c, _, run_endLoop hb.loop (by simp [rec_]), hstop D c pre _ (Nat.le_refl _) hSp ((hIx c).putObj _ hi (by omega) hb.loop rfl) ((World.putObj_heap_other (by omega)).trans hb.defs)⟩
end
end Go.Proofs.YtabgpdpdgkgmbaaDoor.Loop
