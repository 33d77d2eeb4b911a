/- table.Table at texts: Put. -/
import Derived.Test.YtdjhhljijpadoaaDoorTable
namespace Go.Proofs.YtdjhhljijpadoaaDoor.Table
open Go.Shelf Go.Proofs.YtdjhhljijpadoaaDoor.Lay2 Go.Proofs.YtdjhhljijpadoaaDoor.Sha Go.RowKit Go.Proofs.YtdjhhljijpadoaaDoor.Q Go.Proofs.YtdjhhljijpadoaaDoorW.PrintWords Go.Proofs.YtdjhhljijpadoaaDoorW.PrintLast Go.Proofs.YtdjhhljijpadoaaDoorW.PrintMore Go.Proofs.YtdjhhljijpadoaaDoor.Bytes
set_option linter.unusedVariables false
set_option linter.unusedSimpArgs false
/-- Only these blocks and new memory are written. -/
structure Fr (S : Nat → Prop) (w w' : World) : Prop where
  os : w'.os = w.os
  tape : w'.tape = w.tape
  output : w'.output = w.output
  size : w.heap.size ≤ w'.heap.size
  block : ∀ k, k < w.heap.size → ¬ S k → w'.heap[k]? = w.heap[k]?
theorem Fr.of_below {S : Nat → Prop} {w w' : World} (h : Below w.heap.size w w') : Fr S w w' := ⟨h.os, h.tape, h.output, h.size, fun k hk _ => h.block k hk⟩
theorem Fr.trans {S T : Nat → Prop} {a b c : World} (h : Fr S a b) (k : Fr T b c) (hT : ∀ g, T g → S g ∨ a.heap.size ≤ g) : Fr S a c :=
  ⟨k.os.trans h.os, k.tape.trans h.tape, k.output.trans h.output, Nat.le_trans h.size k.size, fun i hi hn => (k.block i (Nat.lt_of_lt_of_le hi h.size) (fun ht => (hT i ht).elim hn (by omega))).trans (h.block i hi hn)⟩
theorem But.fr {v : Value} {w w' : World} (h : But v w w') : Fr (Of v) w w' := ⟨h.os, h.tape, h.output, h.size, h.block⟩
theorem Fr.setRow {S : Nat → Prop} {w w' : World} (h : Fr S w w') (g : Nat) (hg : S g ∨ w.heap.size ≤ g) (cs : Array Value) : Fr S w (w'.setRow g cs) := by
  refine ⟨h.os, h.tape, h.output, by simpa [World.setRow] using h.size, fun k hk hn => ?_⟩
  have hne : k ≠ g := by
    rintro rfl
    rcases hg with hg | hg
    · exact hn hg
    · omega
  rw [setRow_other w' g k cs hne]
  exact h.block k hk hn
/-- The blocks of a table. -/
def Ow (p : Nat) (vk vv : Value) (k : Nat) : Prop := k = p ∨ Of vk k ∨ Of vv k
theorem Tb.below {w W : World} {p : Nat} {vk vv : Value} {ks vs : List ByteArray} (h : Tb w p vk vv ks vs) (hb : Below w.heap.size w W) : Tb W p vk vv ks vs :=
  ⟨(hb.block _ (Array.getElem?_eq_some_iff.1 h.lies).1).trans h.lies, h.rk.kept (fun g hg hl => hb.block g hl), h.rv.kept (fun g hg hl => hb.block g hl), h.pk, h.pv, h.kv⟩
theorem Tb.fr {S : Nat → Prop} {w W : World} {p : Nat} {vk vv : Value} {ks vs : List ByteArray} (h : Tb w p vk vv ks vs) (hb : Fr S w W) (hS : ∀ g, S g → ¬ Ow p vk vv g) : Tb W p vk vv ks vs :=
  ⟨(hb.block _ (Array.getElem?_eq_some_iff.1 h.lies).1 (fun s => hS _ s (Or.inl rfl))).trans h.lies, h.rk.kept (fun g hg hl => hb.block g hl (fun s => hS _ s (Or.inr (Or.inl hg)))), h.rv.kept (fun g hg hl => hb.block g hl (fun s => hS _ s (Or.inr (Or.inr hg)))), h.pk, h.pv, h.kv⟩
theorem half1 {w W : World} {p : Nat} {vk vv v' : Value} {ks vs ks' : List ByteArray} {o : Obj} (h : Tb w p vk vv ks vs) (hb : Below w.heap.size w W) {w3 : World} (hr : Row w3 v' ks') (hbut : But vk (W.alloc o) w3) (hor : ∀ g, Of v' g → Of vk g ∨ g = (W.alloc o).heap.size) :
    w3.heap[p]? = some (.cells #[vk, vv] 77 (0, 0)) ∧ Tb (w3.setRow p #[v', vv]) p v' vv ks' vs ∧ Fr (Ow p vk vv) w (w3.setRow p #[v', vv]) ∧ (∀ g, Of v' g → Of vk g ∨ w.heap.size ≤ g) := by
  have hp := (Array.getElem?_eq_some_iff.1 h.lies).1
  have hba : Below w.heap.size w (W.alloc o) := hb.alloc hb.size _
  have hor2 : ∀ g, Of v' g → Of vk g ∨ w.heap.size ≤ g := fun g hg => (hor g hg).imp id (fun e => by rw [e]; exact hba.size)
  have hl3 : w3.heap[p]? = some (.cells #[vk, vv] 77 (0, 0)) := ((hbut.block p (Nat.lt_of_lt_of_le hp hba.size) h.pk).trans (hba.block p hp)).trans h.lies
  have npv : ¬ Of v' p := fun hg => (hor2 p hg).elim h.pk (by omega)
  have fr3 : Fr (Ow p vk vv) w w3 := (Fr.of_below hba).trans hbut.fr (fun g hg => Or.inl (Or.inr (Or.inl hg)))
  refine ⟨hl3, ⟨setRow_heap _ _ _ _ _ _ hl3, ?_, ?_, npv, h.pv, ?_⟩, fr3.setRow p (Or.inl (Or.inl rfl)) _, hor2⟩
  · refine hr.kept (fun g hg hlt => setRow_other w3 p g _ (by rintro rfl; exact npv hg))
  · refine h.rv.kept (fun g hg hlt => ?_)
    rw [setRow_other w3 p g _ (by rintro rfl; exact h.pv hg)]
    exact (hbut.block g (Nat.lt_of_lt_of_le hlt hba.size) (fun hk => h.kv g hk hg)).trans (hba.block g hlt)
  · intro g hg hv
    rcases hor2 g hg with hk | hk
    · exact h.kv g hk hv
    · have := h.rv.lt g hv
      omega
theorem half2 {w W : World} {p : Nat} {vk vv v' : Value} {ks vs vs' : List ByteArray} {o : Obj} (h : Tb w p vk vv ks vs) (hb : Below w.heap.size w W) {w3 : World} (hr : Row w3 v' vs') (hbut : But vv (W.alloc o) w3) (hor : ∀ g, Of v' g → Of vv g ∨ g = (W.alloc o).heap.size) :
    w3.heap[p]? = some (.cells #[vk, vv] 77 (0, 0)) ∧ Tb (w3.setRow p #[vk, v']) p vk v' ks vs' ∧ Fr (Ow p vk vv) w (w3.setRow p #[vk, v']) ∧ (∀ g, Of v' g → Of vv g ∨ w.heap.size ≤ g) := by
  have hp := (Array.getElem?_eq_some_iff.1 h.lies).1
  have hba : Below w.heap.size w (W.alloc o) := hb.alloc hb.size _
  have hor2 : ∀ g, Of v' g → Of vv g ∨ w.heap.size ≤ g := fun g hg => (hor g hg).imp id (fun e => by rw [e]; exact hba.size)
  have hl3 : w3.heap[p]? = some (.cells #[vk, vv] 77 (0, 0)) := ((hbut.block p (Nat.lt_of_lt_of_le hp hba.size) h.pv).trans (hba.block p hp)).trans h.lies
  have npv : ¬ Of v' p := fun hg => (hor2 p hg).elim h.pv (by omega)
  have fr3 : Fr (Ow p vk vv) w w3 := (Fr.of_below hba).trans hbut.fr (fun g hg => Or.inl (Or.inr (Or.inr hg)))
  refine ⟨hl3, ⟨setRow_heap _ _ _ _ _ _ hl3, ?_, ?_, h.pk, npv, ?_⟩, fr3.setRow p (Or.inl (Or.inl rfl)) _, hor2⟩
  · refine h.rk.kept (fun g hg hlt => ?_)
    rw [setRow_other w3 p g _ (by rintro rfl; exact h.pk hg)]
    exact (hbut.block g (Nat.lt_of_lt_of_le hlt hba.size) (fun hk => h.kv g hg hk)).trans (hba.block g hlt)
  · refine hr.kept (fun g hg hlt => setRow_other w3 p g _ (by rintro rfl; exact npv hg))
  · intro g hk hg
    rcases hor2 g hg with hv | hv
    · exact h.kv g hk hv
    · have := h.rk.lt g hk
      omega
theorem row_slice {W : World} {v : Value} {xs : List ByteArray} (h : Row W v xs) : ∃ b n c, v = .slice b n c := by
  rcases h with ⟨rfl, _⟩ | ⟨g, cap, rfl, _⟩
  · exact ⟨_, _, _, rfl⟩
  · exact ⟨_, _, _, rfl⟩
def putK (ks : List ByteArray) (x : ByteArray) : List ByteArray := if hasIt ks x = true then ks else ks.take (placeOf ks x) ++ x :: ks.drop (placeOf ks x)
def putV (ks vs : List ByteArray) (x y : ByteArray) : List ByteArray := if hasIt ks x = true then vs.set (placeOf ks x) y else vs.take (placeOf ks x) ++ y :: vs.drop (placeOf ks x)
set_option maxRecDepth 100000 in
set_option maxHeartbeats 4000000 in
theorem put_calls (w : World) (p : Nat) (vk vv : Value) (ks vs : List ByteArray) (x y : ByteArray) (h : Tb w p vk vv ks vs) (hlen : vs.length = ks.length) (hl : (ks.length + 1) * 16 ≤ 140737488355328) :
    Calls Tryd.prog 28 #[.pointer (some ⟨p, 0, none⟩), .string x, .string y] w fun e w' => ∃ vk' vv', e = .returned (.bool (!hasIt ks x)) ∧ Tb w' p vk' vv' (putK ks x) (putV ks vs x y) ∧ Fr (Ow p vk vv) w w' ∧ (∀ g, Of vk' g → Of vk g ∨ w.heap.size ≤ g) ∧ (∀ g, Of vv' g → Of vv g ∨ w.heap.size ≤ g) := by
  have c0 : w.cell? ⟨p, 0, none⟩ = some vk := by simp [World.cell?, h.lies]
  have hpz : p < w.heap.size := (Array.getElem?_eq_some_iff.1 h.lies).1
  have HT := Aside0.mk h
  have CS := Aside0.mk (search_calls w vk ks x h.rk (by omega))
  have hpl := placeOf_le ks x
  have HK := Aside0.mk (show putK ks x = if hasIt ks x = true then ks else ks.take (placeOf ks x) ++ x :: ks.drop (placeOf ks x) from rfl)
  have HV := Aside0.mk (show putV ks vs x y = if hasIt ks x = true then vs.set (placeOf ks x) y else vs.take (placeOf ks x) ++ y :: vs.drop (placeOf ks x) from rfl)
  obtain ⟨K, hK⟩ : ∃ K, putK ks x = K := ⟨_, rfl⟩
  obtain ⟨V, hV⟩ : ∃ V, putV ks vs x y = V := ⟨_, rfl⟩
  rw [hK] at HK ⊢
  rw [hV] at HV ⊢
  cases hh : hasIt ks x with
  | true =>
    rw [hh, if_pos rfl] at HK HV
    have hlt : placeOf ks x < ks.length := by
      unfold hasIt at hh
      exact (of_decide_eq_true hh).1
    rw [hh] at CS
    obtain ⟨q, hq⟩ : ∃ q, placeOf ks x = q := ⟨_, rfl⟩
    rw [hq] at CS hlt hpl HV
    clear hK hV hh hq
    rcases h.rv with ⟨rfl, rfl⟩ | ⟨g, cap, rfl, hs⟩
    · simp at hlen
      omega
    · have hcy : w.cell? ⟨g, q, none⟩ = some (.string (vs.getD q ⟨#[]⟩)) := hs.cell q _ (by rw [List.getD_eq_getElem?_getD, List.getElem?_eq_getElem (by omega)]; rfl)
      have c1 : w.cell? ⟨p, 1, none⟩ = some (.slice (some ⟨g, 0, none⟩) vs.length cap) := by simp [World.cell?, h.lies]
      have hgz := hs.lt
      have p1 : (0 ≤ (q : Int)) = True := eq_true (by omega)
      have p2 : ((q : Int) < (vs.length : Int)) = True := eq_true (by omega)
      have p3 : (q < vs.length) = True := eq_true (by omega)
      have HC1 := Aside0.mk c1
      have HCY := Aside0.mk hcy
      have HSQ := Aside0.mk hs
      clear h hs hcy c1 hl hpl
      go_enter Tryd.func28, Tryd.ntmps28
      go_wp2_with (first
        | (go_at_call 37; ((with_reducible refine CS.out.mono ?_)); rintro e w2 ⟨rfl, hb⟩; have HB2 := Aside0.mk hb; have d1 : w2.cell? ⟨p, 1, none⟩ = some (.slice (some ⟨g, 0, none⟩) vs.length cap) := (by unfold World.cell?; rw [hb.block p hpz]; exact HC1.out); have d2 : w2.cell? ⟨g, q, none⟩ = some (.string (vs.getD q ⟨#[]⟩)) := (by unfold World.cell?; rw [hb.block g hgz]; exact HCY.out); have d3 : w2.frozen? ⟨g, q, none⟩ = false := (HSQ.out.below hb).fro q; clear hb))
      go_ret
      have hT2 := HT.out.below HB2.out
      have hS2 := HSQ.out.below HB2.out
      obtain ⟨L, hL, hLl, hLt⟩ := sq_row hS2 (W' := w)
      have hgp : g ≠ p := by rintro rfl; exact HT.out.pv ⟨_, _, rfl⟩
      have hset := hS2.set q y
      have eset := setCell_rowT w2 g q L (.string y) _ hL
      rw [HK.out, HV.out]
      refine ⟨vk, .slice (some ⟨g, 0, none⟩) vs.length cap, rfl, ?_, ?_, fun g' hg => Or.inl hg, fun g' hg => Or.inl hg⟩
      · rw [eset] at hset ⊢
        refine ⟨?_, hT2.rk.kept (fun g' hg' hlt' => setRow_other _ _ _ _ (by rintro rfl; exact hT2.kv _ hg' ⟨_, _, rfl⟩)), Or.inr ⟨g, cap, by rw [List.length_set], hset⟩, hT2.pk, hT2.pv, hT2.kv⟩
        rw [setRow_other _ _ _ _ (Ne.symm hgp)]
        exact hT2.lies
      · rw [eset]
        exact (Fr.of_below HB2.out).setRow g (Or.inl (Or.inr (Or.inr ⟨_, _, rfl⟩))) _
  | false =>
    rw [hh, if_neg (by intro h; cases h)] at HK HV
    rw [hh] at CS
    obtain ⟨q, hq⟩ : ∃ q, placeOf ks x = q := ⟨_, rfl⟩
    rw [hq] at CS hpl HV HK
    have HI := Aside0.mk (fun (W : World) (hb : Below w.heap.size w W) => insert_calls (W.alloc (.cells #[.string x] 9)) vk ks x q W.heap.size 1 (h.rk.kept (fun g hg hlt => (hb.alloc hb.size _).block g hlt)) hpl (World.alloc_heap_new W _) (fun hg => by have := h.rk.lt _ hg; have := hb.size; omega) hl)
    have HJ := Aside0.mk (fun (w4 : World) (v' : Value) (ks' : List ByteArray) (h4 : Tb w4 p v' vv ks' vs) => insert_calls (w4.alloc (.cells #[.string y] 9)) vv vs y q w4.heap.size 1 (h4.rv.kept (fun g hg hlt => ((Below.refl _ w4).alloc (Nat.le_refl _) _).block g hlt)) (by omega) (World.alloc_heap_new w4 _) (fun hg => by have := h4.rv.lt _ hg; omega) (by rw [hlen]; exact hl))
    clear hK hV hh hq hl h
    go_enter Tryd.func28, Tryd.ntmps28
    go_upto_region 6 with (first
      | (go_at_call 37; ((with_reducible refine CS.out.mono ?_)); rintro e w2 ⟨rfl, hb⟩; have HB2 := Aside0.mk hb; have d1 : w2.cell? ⟨p, 0, none⟩ = some vk := (by unfold World.cell?; rw [hb.block p hpz]; exact c0); clear hb)
      | (go_at_call 38; ((with_reducible refine (HI.out w2 HB2.out).mono ?_)); rintro e w3 ⟨v', rfl, hr, hbut, hor⟩; obtain ⟨vb, vn, vc, rfl⟩ := row_slice hr; obtain ⟨hl3, hT3, hF3, hO3⟩ := half1 HT.out HB2.out hr hbut hor; have d3 : w3.cell? ⟨p, 0, none⟩ = some vk := (by simp [World.cell?, hl3]); have d4 : w3.frozen? ⟨p, 0, none⟩ = false := (by simp [World.frozen?, hl3]); have HT3 := Aside0.mk hT3; have HF3 := Aside0.mk hF3; have HO3 := Aside0.mk hO3; have eW : w3.setCell ⟨p, 0, none⟩ (.slice vb vn vc) = w3.setRow p #[.slice vb vn vc, vv] := setCell_rowT w3 p 0 [vk, vv] (.slice vb vn vc) _ hl3; clear hT3 hF3 hO3 hr hbut hor hl3))
    clear eW d3 d4 HI CS
    generalize w3.setRow p #[.slice vb vn vc, vv] = w4 at HT3 HF3 ⊢
    have c5 : w4.cell? ⟨p, 1, none⟩ = some vv := by simp [World.cell?, HT3.out.lies]
    go_wp2_with (first
      | (go_at_call 38; ((with_reducible refine (HJ.out w4 _ _ HT3.out).mono ?_)); rintro e w5 ⟨v', rfl, hr, hbut, hor⟩; obtain ⟨ub, un, uc, rfl⟩ := row_slice hr; obtain ⟨hl5, hT5, hF5, hO5⟩ := half2 HT3.out (Below.refl _ _) hr hbut hor; have d3 : w5.cell? ⟨p, 1, none⟩ = some vv := (by simp [World.cell?, hl5]); have d4 : w5.frozen? ⟨p, 1, none⟩ = false := (by simp [World.frozen?, hl5]); have HT5 := Aside0.mk hT5; have HF5 := Aside0.mk hF5; have HO5 := Aside0.mk hO5; have HE5 : Aside0 (w5.setCell ⟨p, 1, none⟩ (.slice ub un uc) = w5.setRow p #[.slice vb vn vc, .slice ub un uc]) := ⟨setCell_rowT w5 p 1 [.slice vb vn vc, vv] (.slice ub un uc) _ hl5⟩; clear hT5 hF5 hO5 hr hbut hor hl5))
    go_ret
    rw [HE5.out, HK.out, HV.out]
    refine ⟨_, _, rfl, HT5.out, HF3.out.trans HF5.out (fun g hg => ?_), HO3.out, fun g hg => (HO5.out g hg).imp id (fun e => Nat.le_trans HF3.out.size e)⟩
    rcases hg with hg | hg | hg
    · exact Or.inl (Or.inl hg)
    · exact (HO3.out g hg).imp (fun e => Or.inr (Or.inl e)) id
    · exact Or.inl (Or.inr (Or.inr hg))
end Go.Proofs.YtdjhhljijpadoaaDoor.Table
