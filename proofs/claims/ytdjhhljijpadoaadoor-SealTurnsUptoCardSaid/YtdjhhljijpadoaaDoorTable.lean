/- table.Table at texts: New, Get, Put; seal.NewRing. -/
import Derived.Test.YtdjhhljijpadoaaDoorInsert
namespace Go.Proofs.YtdjhhljijpadoaaDoor.Table
open Go.Shelf Go.Proofs.YtdjhhljijpadoaaDoor.Lay2 Go.Proofs.YtdjhhljijpadoaaDoor.Sha Go.RowKit Go.Proofs.YtdjhhljijpadoaaDoor.Q Go.Proofs.YtdjhhljijpadoaaDoorW.PrintWords Go.Proofs.YtdjhhljijpadoaaDoorW.PrintLast Go.Proofs.YtdjhhljijpadoaaDoorW.PrintMore Go.Proofs.YtdjhhljijpadoaaDoor.Bytes
set_option linter.unusedVariables false
set_option linter.unusedSimpArgs false
/-- A table in memory. -/
structure Tb (W : World) (p : Nat) (vk vv : Value) (ks vs : List ByteArray) : Prop where
  lies : W.heap[p]? = some (.cells #[vk, vv] 77 (0, 0))
  rk : Row W vk ks
  rv : Row W vv vs
  pk : ¬ Of vk p
  pv : ¬ Of vv p
  kv : ∀ g, Of vk g → ¬ Of vv g
def placeOf (ks : List ByteArray) (x : ByteArray) : Nat := Lib.bsGo (fun t => Op.bytesLess (ks.getD t ⟨#[]⟩).toList x.toList) ks.length 0 ks.length
def hasIt (ks : List ByteArray) (x : ByteArray) : Bool := decide (placeOf ks x < ks.length ∧ ks.getD (placeOf ks x) ⟨#[]⟩ = x)
theorem placeOf_le (ks : List ByteArray) (x : ByteArray) : placeOf ks x ≤ ks.length := by
  unfold placeOf
  generalize (fun t => Op.bytesLess (ks.getD t ⟨#[]⟩).toList x.toList) = less
  have : ∀ f lo hi, lo ≤ hi → Lib.bsGo less f lo hi ≤ hi := by
    intro f
    induction f with
    | zero => intro lo hi h; simpa [Lib.bsGo] using h
    | succ f ih =>
      intro lo hi h
      unfold Lib.bsGo
      split
      · split
        · exact ih _ _ (by omega)
        · exact Nat.le_trans (ih _ _ (by omega)) (by omega)
      · exact h
  exact this _ _ _ (Nat.zero_le _)
theorem search_calls (w : World) (v : Value) (xs : List ByteArray) (x : ByteArray) (h : Row w v xs) (hl : xs.length < 4611686018427387904) :
    Calls Tryd.prog 37 #[v, .string x] w fun e w' => e = .returned (.tuple #[.int .i64 (placeOf xs x : Nat), .bool (hasIt xs x)]) ∧ Below w.heap.size w w' := by
  rcases h with ⟨rfl, rfl⟩ | ⟨g, cap, rfl, hq⟩
  · refine (Any2.slices_BinarySearch_string_empty lay26 none 0 x w).mono ?_
    rintro e w' ⟨rfl, rfl⟩
    exact ⟨rfl, Below.refl _ _⟩
  · refine (Any2.slices_BinarySearch_string lay26 g 0 xs.length cap (fun t => xs.getD t ⟨#[]⟩) x w hl (fun j hj => ?_)).mono ?_
    · rw [Nat.zero_add]
      exact hq.cell j _ (by rw [List.getD_eq_getElem?_getD, List.getElem?_eq_getElem hj]; rfl)
    · rintro e w' ⟨rfl, q, rfl⟩
      exact ⟨rfl, pw_below_drewN (Below.refl _ _) _⟩
def getV (ks vs : List ByteArray) (x : ByteArray) : ByteArray × Bool := if hasIt ks x = true then (vs.getD (placeOf ks x) ⟨#[]⟩, true) else (⟨#[]⟩, false)
set_option maxRecDepth 100000 in
set_option maxHeartbeats 4000000 in
theorem get_calls (w : World) (p : Nat) (vk vv : Value) (ks vs : List ByteArray) (x : ByteArray) (h : Tb w p vk vv ks vs) (hlen : vs.length = ks.length) (hl : ks.length < 4611686018427387904) :
    Calls Tryd.prog 27 #[.pointer (some ⟨p, 0, none⟩), .string x] w fun e w' => e = .returned (.tuple #[.string (getV ks vs x).1, .bool (getV ks vs x).2]) ∧ Below w.heap.size w w' := by
  have c0 : w.cell? ⟨p, 0, none⟩ = some vk := by simp [World.cell?, h.lies]
  have HT := Aside0.mk h
  have CS := Aside0.mk (search_calls w vk ks x h.rk hl)
  have hpl := placeOf_le ks x
  obtain ⟨R, hR⟩ : ∃ R, getV ks vs x = R := ⟨_, rfl⟩
  have HR : R = if hasIt ks x = true then (vs.getD (placeOf ks x) ⟨#[]⟩, true) else (⟨#[]⟩, false) := hR.symm
  rw [hR]
  cases hh : hasIt ks x with
  | false =>
    rw [hh, if_neg (by intro h; cases h)] at HR
    subst HR
    rw [hh] at CS
    clear hR hh h
    go_enter Tryd.func27, Tryd.ntmps27
    go_wp2_with (first
      | (go_at_call 37; ((with_reducible refine CS.out.mono ?_)); rintro e w2 ⟨rfl, hb⟩; have HB2 := Aside0.mk hb; clear hb))
    go_ret2
    exact ⟨rfl, HB2.out⟩
  | true =>
    rw [hh, if_pos rfl] at HR
    have hlt : placeOf ks x < ks.length := by
      unfold hasIt at hh
      exact (of_decide_eq_true hh).1
    subst HR
    rw [hh] at CS
    obtain ⟨q, hq⟩ : ∃ q, placeOf ks x = q := ⟨_, rfl⟩
    rw [hq] at CS hlt hpl ⊢
    clear hR hh hq
    rcases h.rv with ⟨rfl, rfl⟩ | ⟨g, cap, rfl, hs⟩
    · simp at hlen
      omega
    · obtain ⟨y, hy⟩ : ∃ y, vs.getD q ⟨#[]⟩ = y := ⟨_, rfl⟩
      have hcy : w.cell? ⟨g, q, none⟩ = some (.string y) := hs.cell q y (by rw [← hy, List.getD_eq_getElem?_getD, List.getElem?_eq_getElem (by omega)]; rfl)
      have c1 : w.cell? ⟨p, 1, none⟩ = some (.slice (some ⟨g, 0, none⟩) vs.length cap) := by simp [World.cell?, h.lies]
      have hpz : p < w.heap.size := (Array.getElem?_eq_some_iff.1 h.lies).1
      have hgz := hs.lt
      rw [hy]
      have p1 : (0 ≤ (q : Int)) = True := eq_true (by omega)
      have p2 : ((q : Int) < (vs.length : Int)) = True := eq_true (by omega)
      have p3 : (q < vs.length) = True := eq_true (by omega)
      have HC1 := Aside0.mk c1
      have HCY := Aside0.mk hcy
      clear h hs hcy c1 hy hl hpl
      go_enter Tryd.func27, Tryd.ntmps27
      go_wp2_with (first
        | (go_at_call 37; ((with_reducible refine CS.out.mono ?_)); rintro e w2 ⟨rfl, hb⟩; have HB2 := Aside0.mk hb; have d1 : w2.cell? ⟨p, 1, none⟩ = some (.slice (some ⟨g, 0, none⟩) vs.length cap) := (by unfold World.cell?; rw [hb.block p hpz]; exact HC1.out); have d2 : w2.cell? ⟨g, q, none⟩ = some (.string y) := (by unfold World.cell?; rw [hb.block g hgz]; exact HCY.out); clear hb))
      go_ret2
      exact ⟨rfl, HB2.out⟩
theorem new_calls (w : World) : Calls Tryd.prog 26 #[] w fun e w' => e = .returned (.pointer (some ⟨w.heap.size, 0, none⟩)) ∧ w' = w.alloc (.cells #[.slice none 0 0, .slice none 0 0] 77) := by
  go_enter Tryd.func26, Tryd.ntmps26
  go_wp2
  go_ret
  exact ⟨rfl, rfl⟩
/-- A ring in memory. -/
structure Rg (W : World) (r p : Nat) (vk vv : Value) (ks vs : List ByteArray) : Prop where
  lies : W.heap[r]? = some (.cells #[.pointer (some ⟨p, 0, none⟩)] 59 (0, 0))
  tb : Tb W p vk vv ks vs
  rp : r ≠ p
  kr : ¬ Of vk r
  vr : ¬ Of vv r
theorem newRing_calls (w : World) : Calls Tryd.prog 12 #[] w fun e w' => e = .returned (.pointer (some ⟨w.heap.size + 1, 0, none⟩)) ∧ Rg w' (w.heap.size + 1) w.heap.size (.slice none 0 0) (.slice none 0 0) [] [] ∧ Below w.heap.size w w' := by
  have CN := Aside0.mk (new_calls w)
  go_enter Tryd.func12, Tryd.ntmps12
  go_wp2_with (first
    | (go_at_call 26; ((with_reducible refine CN.out.mono ?_)); rintro e w2 ⟨rfl, rfl⟩))
  go_ret
  have e0 : (w.alloc (.cells #[.slice none 0 0, .slice none 0 0] 77)).heap.size = w.heap.size + 1 := by simp
  have hb1 : Below (w.heap.size + 1) (w.alloc (.cells #[.slice none 0 0, .slice none 0 0] 77)) ((w.alloc (.cells #[.slice none 0 0, .slice none 0 0] 77)).alloc (.cells #[.pointer (some ⟨w.heap.size, 0, none⟩)] 59)) := (Below.refl _ _).alloc (by rw [e0]; exact Nat.le_refl _) _
  have n0 : ∀ g, ¬ Of (.slice none 0 0) g := by rintro g ⟨n, c, e⟩; cases e
  refine ⟨by simp [e0], ⟨by rw [← e0]; exact World.alloc_heap_new _ _, ⟨(hb1.block _ (Nat.lt_succ_self _)).trans (World.alloc_heap_new w _), Or.inl ⟨rfl, rfl⟩, Or.inl ⟨rfl, rfl⟩, n0 _, n0 _, fun g hg _ => n0 g hg⟩, by omega, n0 _, n0 _⟩, ((Below.refl _ w).alloc (Nat.le_refl _) _).trans (hb1.mono (by omega))⟩
end Go.Proofs.YtdjhhljijpadoaaDoor.Table
