/- Orders of a region: loads taken first where ONE operation, that waits for them, writes their cells. -/
import Derived.Deep.MidRow
namespace Go.Proofs.YtdjhhljijpadoaaDoor.OrdersBut
section
variable {P : Program} {ops : Array Oper} {Q : Exit → Act → World → Prop} {md : Region.Mode} {S T : World → Prop} {k : Nat}

/-- Whatever order is picked; S is shown behind every operation as long as number k has not come up. -/
def wpAnyB (P : Program) (md : Region.Mode) (ops : Array Oper) (Q : Exit → Act → World → Prop) (S : World → Prop) (k : Nat) : Nat → Array Bool → Act → World → Prop
  | 0, listed, a, w => Region.ready md ops listed = [] ∧ Q .normal a w
  | fuel + 1, listed, a, w =>
    (Region.ready md ops listed = [] → Q .normal a w) ∧
    ∀ i ∈ Region.ready md ops listed, wpOp P ops Q i (fun a' w' => ((listed.setIfInBounds i true).getD k true = false → S w') ∧ wpAnyB P md ops Q S k fuel (listed.setIfInBounds i true) a' w') a w
theorem wpAny_of_but : ∀ (fuel : Nat) (listed : Array Bool) (a : Act) (w : World), wpAnyB P md ops Q S k fuel listed a w → wpAny P md ops Q fuel listed a w
  | 0, _, _, _, h => h
  | fuel + 1, _, _, _, h => ⟨h.1, fun i hi => wpOp_mono (fun a' w' h' => wpAny_of_but fuel _ a' w' h'.2) (h.2 i hi)⟩
/-- Does number k wait for number i? -/
def waits (md : Region.Mode) (ops : Array Oper) (k i : Nat) : Bool := match ops[k]? with
  | none => false
  | some o => o.after.any fun e => Region.binds md e && e.on == i
theorem wpAnyB_first {i : Nat} {oi : Oper} {v : Value} (hi : ops[i]? = some oi) (hsel : ∀ (j : Nat) (o : Oper) cs b, ops[j]? = some o → o.op ≠ .select cs b)
    (hQ : ∀ c a w, Q (.panic c) (a.put oi.dst v) w → Q (.panic c) a w) (hik : i ≠ k) :
    ∀ (fuel : Nat) (listed : Array Bool) (a : Act) (w : World),
      (∀ j oj, ops[j]? = some oj → j ≠ i → listed.getD j true = false → (∀ e ∈ oj.after, Region.binds md e = true → e.on ≠ i) → oi.apart ops oj = true) →
      i ∈ Region.ready md ops listed → YieldsIf P ops T oi v a → T w → (listed.getD k true = false → S w) → ((∀ w, T w) ∨ listed.getD k true = false ∧ waits md ops k i = true ∧ ∀ w, S w → T w) →
      wpAnyB P md ops Q S k fuel (listed.setIfInBounds i true) (a.put oi.dst v) w → wpAnyB P md ops Q S k (fuel + 1) listed a w := by
  intro fuel
  induction fuel with
  | zero =>
    intro listed a w _ hr hy hT hS hTS H
    refine ⟨fun h => (by rw [h] at hr; cases hr), fun j hj => ?_⟩
    by_cases hji : j = i
    · subst hji; exact hy.wpOp hi hT ⟨fun h => hS (by rw [getD_set_ne true hik] at h; exact h), H⟩
    · have := ready_mono hj hji
      rw [H.1] at this
      cases this
  | succ fuel ih =>
    intro listed a w hfree hr hy hT hS hTS H
    refine ⟨fun h => (by rw [h] at hr; cases hr), fun j hj => ?_⟩
    by_cases hji : j = i
    · subst hji; exact hy.wpOp hi hT ⟨fun h => hS (by rw [getD_set_ne true hik] at h; exact h), H⟩
    · have h1 := H.2 j (ready_mono hj hji)
      obtain ⟨hjun, oj, hoj, hall⟩ := mem_ready.1 hj
      have hnot : ∀ e ∈ oj.after, Region.binds md e = true → e.on ≠ i := fun e he hb heq => by
        have h1 := hall e he hb
        have h0 := (mem_ready.1 hr).1
        rw [heq] at h1
        rcases Nat.lt_or_ge i listed.size with h' | h'
        · simp [h'] at h0 h1; rw [h0] at h1; cases h1
        · simp [Array.getElem?_eq_none h'] at h1
      have hjk : (∀ w, T w) ∨ (listed.setIfInBounds j true).getD k true = false ∧ waits md ops k i = true ∧ ∀ w, S w → T w := hTS.imp id fun ⟨hl, hw, hST⟩ => by
        have hjk : j ≠ k := fun e => by
          subst e
          unfold waits at hw
          rw [hoj] at hw
          simp only [Array.any_eq_true'] at hw
          obtain ⟨e, he, hb⟩ := hw
          simp only [Bool.and_eq_true, beq_iff_eq] at hb
          exact hnot e he hb.1 hb.2
        exact ⟨by rw [getD_set_ne true hjk]; exact hl, hw, hST⟩
      have h2 := wpOp_putIf hoj (hfree j oj hoj hji hjun hnot) (fun cs b => hsel i oi cs b hi) (fun cs b => hsel j oj cs b hoj) hQ hy h1
      have hfree' : ∀ k ok, ops[k]? = some ok → k ≠ i → (listed.setIfInBounds j true).getD k true = false →
          (∀ e ∈ ok.after, Region.binds md e = true → e.on ≠ i) → oi.apart ops ok = true := fun k ok hk hki hun hno => by
        refine hfree k ok hk hki ?_ hno
        by_cases hjk : j = k
        · subst hjk; exact hjun
        · rw [getD_set_ne true hjk] at hun; exact hun
      have hcm : (listed.setIfInBounds i true).setIfInBounds j true = (listed.setIfInBounds j true).setIfInBounds i true := Array.setIfInBounds_comm _ _ (Ne.symm hji)
      refine wpOp_mono (fun a' w' h3 => ?_) h2
      have hS' : (listed.setIfInBounds j true).getD k true = false → S w' := fun h => h3.2.1 (by rw [hcm, getD_set_ne true hik]; exact h)
      have hT' : T w' := hjk.elim (fun h => h w') fun ⟨h1, _, h2⟩ => h2 w' (hS' h1)
      refine ⟨hS', ih (listed.setIfInBounds j true) a' w' hfree' (ready_mono hr (Ne.symm hji)) h3.1 hT' hS' hjk ?_⟩
      rw [← hcm]
      exact h3.2.2
/-- Number i of a list, as Lean writes it out. -/
def opAt : List Oper → Nat → Option Oper
  | [], _ => none
  | o :: _, 0 => some o
  | _ :: l, i + 1 => opAt l i
theorem opAt_get : ∀ (l : List Oper) (i : Nat), opAt l i = l[i]?
  | [], _ => rfl
  | _ :: _, 0 => rfl
  | _ :: l, i + 1 => opAt_get l i
/-- Number i, which hangs on no world, is taken first. -/
theorem wpAnyB_take {l : List Oper} {i : Nat} {oi : Oper} {v : Value} {fuel : Nat} {listed : Array Bool} {a : Act} {w : World} (hi : opAt l i = some oi)
    (hs : Region.noSelect l.toArray = true) (hf : Region.free md l.toArray listed i = true) (hr : (Region.ready md l.toArray listed).contains i = true) (hik : i ≠ k)
    (hQ : ∀ c a w, Q (.panic c) (a.put oi.dst v) w → Q (.panic c) a w) (hy : YieldsIf P l.toArray (fun _ => True) oi v a) (hS : listed.getD k true = false → S w)
    (h : wpAnyB P md l.toArray Q S k fuel (listed.setIfInBounds i true) (a.put oi.dst v) w) : wpAnyB P md l.toArray Q S k (fuel + 1) listed a w := by
  have hi' : l.toArray[i]? = some oi := by rw [List.getElem?_toArray, ← opAt_get, hi]
  exact wpAnyB_first hi' (Region.noSelect_spec hs) hQ hik fuel listed a w (Region.free_spec hi' hf) (by simpa using hr) hy trivial hS (Or.inl fun _ => trivial) h
/-- Number i, a load, is taken first. -/
theorem wpAnyB_load {l : List Oper} {i : Nat} {oi : Oper} {v : Value} {fuel : Nat} {listed : Array Bool} {a : Act} {w : World} (hi : opAt l i = some oi)
    (hs : Region.noSelect l.toArray = true) (hf : Region.free md l.toArray listed i = true) (hr : (Region.ready md l.toArray listed).contains i = true) (hik : i ≠ k) (hw : waits md l.toArray k i = true) (hl : listed.getD k true = false)
    (hQ : ∀ c a w, Q (.panic c) (a.put oi.dst v) w → Q (.panic c) a w) (hy : YieldsIf P l.toArray S oi v a) (hS : S w)
    (h : wpAnyB P md l.toArray Q S k fuel (listed.setIfInBounds i true) (a.put oi.dst v) w) : wpAnyB P md l.toArray Q S k (fuel + 1) listed a w := by
  have hi' : l.toArray[i]? = some oi := by rw [List.getElem?_toArray, ← opAt_get, hi]
  exact wpAnyB_first hi' (Region.noSelect_spec hs) hQ hik fuel listed a w (Region.free_spec hi' hf) (by simpa using hr) hy hS (fun _ => hS) (Or.inr ⟨hl, hw, fun _ h => h⟩) h
/-- One alone may come up. -/
theorem wpAnyB_one {l : List Oper} {i : Nat} {oi : Oper} {fuel : Nat} {listed : Array Bool} {a : Act} {w : World} (hi : opAt l i = some oi) (hr : Region.ready md l.toArray listed = [i])
    (h : ∀ K : Act → World → Prop, (∀ a' w', ((listed.setIfInBounds i true).getD k true = false → S w') → wpAnyB P md l.toArray Q S k fuel (listed.setIfInBounds i true) a' w' → K a' w') → if Region.wanted oi (yielded l.toArray a.tmps) = true then oi.wp P a w K Q else K (a.put oi.dst undef) w) : wpAnyB P md l.toArray Q S k (fuel + 1) listed a w := by
  have hi' : l.toArray[i]? = some oi := by rw [List.getElem?_toArray, ← opAt_get, hi]
  refine ⟨fun h0 => (by rw [hr] at h0; cases h0), fun j hj => ?_⟩
  rw [hr] at hj
  obtain rfl : j = i := by simpa using hj
  have := h _ (fun a' w' h1 h2 => And.intro h1 h2)
  unfold wpOp
  simp only [hi']
  split
  · rename_i hw; rw [if_pos hw] at this; exact .inl this
  · rename_i hw; rw [if_neg hw] at this; exact this
theorem wpAnyB_done {listed : Array Bool} {a : Act} {w : World} (hr : Region.ready md ops listed = []) (h : Q .normal a w) :
    ∀ fuel, wpAnyB P md ops Q S k fuel listed a w
  | 0 => ⟨hr, h⟩
  | _ + 1 => ⟨fun _ => h, by rw [hr]; simp⟩
theorem wp_region_but {id : Nat} {a : Act} {w : World} (k : Nat) (S : World → Prop) (hm : P.follows .mixedOrders = true)
    (h : wpAnyB P .any ops Q S k ops.size (Array.replicate ops.size false) a w.drew) : (Code.region id ops true).wp P Q a w :=
  wp_region_any hm (wpAny_of_but _ _ _ _ h)
end
end Go.Proofs.YtdjhhljijpadoaaDoor.OrdersBut
