/- slices.Insert of one text into a row of texts: all four roads as one. -/
import Derived.Test.YtdjhhljijpadoaaDoorLay2
import Derived.Test.YtdjhhljijpadoaaDoorRowS
import Derived.Test.YtdjhhljijpadoaaDoorRSha3
namespace Go.Proofs.YtdjhhljijpadoaaDoor.Table
open Go.Shelf Go.Proofs.YtdjhhljijpadoaaDoor.Lay2 Go.Proofs.YtdjhhljijpadoaaDoor.Sha Go.RowKit Go.Proofs.YtdjhhljijpadoaaDoor.Q Go.Proofs.YtdjhhljijpadoaaDoorW.PrintWords Go.Proofs.YtdjhhljijpadoaaDoorW.PrintLast Go.Proofs.YtdjhhljijpadoaaDoorW.PrintMore Go.Proofs.YtdjhhljijpadoaaDoor.Bytes
set_option linter.unusedVariables false
set_option linter.unusedSimpArgs false
/-- A row of texts, or none. -/
def Row (W : World) (v : Value) (xs : List ByteArray) : Prop := (v = .slice none 0 0 ∧ xs = []) ∨ ∃ g cap, v = .slice (some ⟨g, 0, none⟩) xs.length cap ∧ SQ W g cap xs
/-- The row's block. -/
def Of (v : Value) (g : Nat) : Prop := ∃ n c, v = .slice (some ⟨g, 0, none⟩) n c
theorem Row.kept {W W' : World} {v : Value} {xs : List ByteArray} (h : Row W v xs) (e : ∀ g, Of v g → g < W.heap.size → W'.heap[g]? = W.heap[g]?) : Row W' v xs := by
  rcases h with h | ⟨g, cap, rfl, h⟩
  · exact Or.inl h
  · exact Or.inr ⟨g, cap, rfl, h.kept (e g ⟨_, _, rfl⟩ h.lt)⟩
theorem Row.lt {W : World} {v : Value} {xs : List ByteArray} (h : Row W v xs) (g : Nat) (hg : Of v g) : g < W.heap.size := by
  obtain ⟨n, c, rfl⟩ := hg
  rcases h with ⟨h, _⟩ | ⟨g', cap, e, h⟩
  · cases h
  · injection e with e1 e2 e3
    injection e1 with e1
    injection e1 with e1
    subst e1
    exact h.lt
/-- Only the row's own block and new memory are written. -/
structure But (v : Value) (w w' : World) : Prop where
  os : w'.os = w.os
  tape : w'.tape = w.tape
  output : w'.output = w.output
  size : w.heap.size ≤ w'.heap.size
  block : ∀ k, k < w.heap.size → ¬ Of v k → w'.heap[k]? = w.heap[k]?
theorem But.of_below {v : Value} {w w' : World} (h : Below w.heap.size w w') : But v w w' := ⟨h.os, h.tape, h.output, h.size, fun k hk _ => h.block k hk⟩
theorem splice_take {α : Type} (L vs : List α) (o : Nat) (h : o ≤ L.length) : (L.take o ++ vs ++ L.drop (o + vs.length)).take (o + vs.length) = L.take o ++ vs := by
  rw [List.take_append_of_le_length (by rw [List.length_append, List.length_take]; omega), List.take_of_length_le (by rw [List.length_append, List.length_take]; omega)]
theorem sq_row {W W' : World} {g cap : Nat} {xs : List ByteArray} (h : SQ W g cap xs) : ∃ L : List Value, W.heap[g]? = some (.cells L.toArray 9 (0, 0)) ∧ L.length = cap ∧ L.take xs.length = xs.map Value.string := by
  obtain ⟨cur, hg, hs, ht⟩ := h.row
  exact ⟨cur.toList, by simpa using hg, by simpa using hs, ht⟩
theorem zeros_len (n : Nat) : (Builtin.zeroCells (Value.string ⟨#[]⟩).cells n).size = n := by
  simp [size_zeroCells, Value.cells]
theorem ins_len (xs : List ByteArray) (x : ByteArray) (i : Nat) (hi : i ≤ xs.length) : (xs.take i ++ x :: xs.drop i).length = xs.length + 1 := by
  rw [List.length_append, List.length_cons, List.length_take, List.length_drop]
  omega
theorem but_setRow {v : Value} {w w' : World} {g : Nat} (h : But v w w') (hg : Of v g ∨ w.heap.size ≤ g) (cs : Array Value) : But v w (w'.setRow g cs) := by
  refine ⟨h.os, h.tape, h.output, by simpa [World.setRow] using h.size, fun k hk hn => ?_⟩
  have hne : k ≠ g := by
    rintro rfl
    rcases hg with hg | hg
    · exact hn hg
    · omega
  rw [setRow_other w' g k cs hne]
  exact h.block k hk hn
theorem but_drew {v : Value} {w w' : World} (h : But v w w') : But v w w'.drew := ⟨h.os, h.tape, h.output, h.size, h.block⟩
theorem insert_calls (w : World) (v : Value) (xs : List ByteArray) (x : ByteArray) (i vb vc : Nat) (h : Row w v xs) (hi : i ≤ xs.length) (hv : w.heap[vb]? = some (.cells #[.string x] 9 (0, 0))) (hvb : ¬ Of v vb) (hbig : (xs.length + 1) * 16 ≤ 140737488355328) :
    Calls Tryd.prog 38 #[v, .int .i64 i, .slice (some ⟨vb, 0, none⟩) 1 vc] w fun e w' => ∃ v', e = .returned v' ∧ Row w' v' (xs.take i ++ x :: xs.drop i) ∧ But v w w' ∧ (∀ g, Of v' g → Of v g ∨ g = w.heap.size) := by
  have hvs : ∀ j u, [Value.string x][j]? = some u → w.cell? ⟨vb, 0 + j, none⟩ = some u := fun j u hu => by
    match j, hu with
    | 0, hu => simp at hu; subst hu; simp [World.cell?, hv]
    | j + 1, hu => simp at hu
  have h1v : ∀ u ∈ [Value.string x], u.oneCell' = true := fun u hu => by rw [List.mem_singleton] at hu; subst hu; rfl
  have grown : ∀ (base : Option Addr) (c : Nat) (cs : List Value), cs.length = xs.length → cs = xs.map Value.string → xs.length ≤ c → c < xs.length + 1 → (base = none → xs.length = 0) → (∀ a, base = some a → ∀ j u, cs[j]? = some u → w.cell? (a.add j) = some u) → i = xs.length → v = .slice base xs.length c →
      Calls Tryd.prog 38 #[v, .int .i64 i, .slice (some ⟨vb, 0, none⟩) 1 vc] w fun e w' => ∃ v', e = .returned v' ∧ Row w' v' (xs.take i ++ x :: xs.drop i) ∧ But v w w' ∧ (∀ g, Of v' g → Of v g ∨ g = w.heap.size) := by
    intro base c cs hcl hcs hnc hroom hnil hcc hie hve
    subst hve
    subst hie
    refine (Any2.slices_Insert_string_end_grow lay22 base xs.length c vb 0 1 vc cs [.string x] w (by omega) hnc hroom hbig hcl rfl hnil hcc hvs h1v).mono ?_
    rintro e w' ⟨rfl, rfl⟩
    have hge := grownCap_ge w (xs.length + 1) c 9
    have hle := grownCap_le_maxLen w (xs.length + 1) c 9 (by unfold maxLen; omega)
    refine ⟨_, rfl, Or.inr ⟨w.heap.size, grownCap w (xs.length + 1) c 9, by rw [ins_len _ _ _ (Nat.le_refl _)]; rfl, ⟨⟨_, World.alloc_heap_new w.drew _, ?_, ?_⟩, by rw [ins_len _ _ _ (Nat.le_refl _)]; exact hge, hle⟩⟩, But.of_below ((below_drew (Below.refl _ w)).alloc (Nat.le_refl _) _), ?_⟩
    · simp only [Array.size_append, zeros_len, List.size_toArray, List.length_append, hcl, List.length_singleton]
      show xs.length + 1 + (grownCap w (xs.length + 1) c 9 - (xs.length + 1)) = _
      omega
    · rw [ins_len _ _ _ (Nat.le_refl _), Array.toList_append, List.take_append_of_le_length (by simp [hcl]), List.take_of_length_le (by simp [hcl]), List.take_length, List.drop_length, hcs]
      simp
    · rintro g ⟨n, c', e⟩
      injection e with e1 e2 e3
      injection e1 with e1
      injection e1 with e1
      exact Or.inr e1.symm
  rcases h with ⟨rfl, rfl⟩ | ⟨g, cap, rfl, hq⟩
  · exact grown none 0 [] rfl rfl (Nat.le_refl _) (by simp) (fun _ => rfl) (fun a ha => by cases ha) (by simp at hi; exact hi) rfl
  · have hlen := hq.len
    have hcell : ∀ j u, (xs.map Value.string)[j]? = some u → w.cell? ⟨g, 0 + j, none⟩ = some u := fun j u hu => by
      rw [List.getElem?_map] at hu
      obtain ⟨y, hy, rfl⟩ := Option.map_eq_some_iff.1 hu
      rw [Nat.zero_add]
      exact hq.cell j y hy
    have hcl : (xs.map Value.string).length = xs.length := List.length_map _
    have h1c : ∀ u ∈ xs.map Value.string, u.oneCell' = true := fun u hu => by obtain ⟨y, _, rfl⟩ := List.mem_map.1 hu; rfl
    have hcm := hq.capm
    unfold maxLen at hcm
    obtain ⟨L, hL, hLl, hLt⟩ := sq_row hq (W' := w)
    have hgl := hq.lt
    by_cases hroom : xs.length + 1 ≤ cap
    · by_cases hie : i = xs.length
      · subst hie
        refine (Any2.slices_Insert_string_end_room lay22 g 0 xs.length cap vb 0 1 vc [.string x] w (by omega) hroom (by omega) rfl (fun j hj => ?_) (fun j hj => hq.fro _) hvs h1v).mono ?_
        · have : j = 0 := by omega
          subst this
          simp only [World.cell?, hL, Nat.zero_add, Nat.add_zero]
          simp
          omega
        · rintro e w' ⟨rfl, rfl⟩
          rw [setCells_rowT w g [.string x] 9 (0 + xs.length) L hL (by simp; omega)]
          refine ⟨_, rfl, Or.inr ⟨g, cap, by rw [ins_len _ _ _ (Nat.le_refl _)], ⟨⟨_, setRow_heap _ _ _ _ _ _ hL, ?_, ?_⟩, by rw [ins_len _ _ _ (Nat.le_refl _)]; exact hroom, hq.capm⟩⟩, but_setRow (But.of_below (Below.refl _ _)) (Or.inl ⟨_, _, rfl⟩) _, ?_⟩
          · simp
            omega
          · rw [ins_len _ _ _ (Nat.le_refl _), Nat.zero_add]
            have := splice_take L [Value.string x] xs.length (by omega)
            rw [List.length_singleton] at this
            rw [List.length_singleton]
            show List.take (xs.length + 1) (L.take xs.length ++ [Value.string x] ++ L.drop (xs.length + 1)) = _
            rw [this, hLt, List.take_length, List.drop_length]
            simp
          · rintro g' ⟨n, c', e⟩
            injection e with e1 e2 e3
            injection e1 with e1
            injection e1 with e1
            subst e1
            exact Or.inl ⟨_, _, rfl⟩
      · have hlt : i < xs.length := by omega
        refine (Any2.slices_Insert_string_shift lay22 g 0 xs.length cap i vb 0 1 vc (xs.map Value.string) [.string x] w hlt (by omega) hroom (by omega) (fun e => hvb (by subst e; exact ⟨_, _, rfl⟩)) hcl rfl hcell (fun j hj => ?_) (fun j hj => hq.fro _) hvs h1c h1v 9 9 1 cap (by simp [World.shape?, hv]) (by simp [World.shape?, hL, hLl]) (by omega) (by simp [World.frozen?, hv]) (by simp [World.frozen?, hv])).mono ?_
        · simp only [World.cell?, hL, Nat.zero_add]
          simp
          omega
        · rintro e w' ⟨rfl, rfl⟩
          have hL' : w.drew.heap[g]? = some (.cells L.toArray 9 (0, 0)) := hL
          have hdl : ((xs.map Value.string).drop i).length = xs.length - i := by rw [List.length_drop, hcl]
          rw [setCells_rowT w.drew g _ 9 (0 + (i + 1)) L hL' (by rw [hdl]; omega)]
          obtain ⟨L1, hL1⟩ : ∃ L1, L.take (0 + (i + 1)) ++ (xs.map Value.string).drop i ++ L.drop (0 + (i + 1) + ((xs.map Value.string).drop i).length) = L1 := ⟨_, rfl⟩
          have hL1l : L1.length = cap := by rw [← hL1]; simp; omega
          rw [hL1, setCells_rowT _ g [.string x] 9 (0 + i) L1 (setRow_heap _ _ _ _ _ _ hL') (by simp; omega)]
          refine ⟨_, rfl, Or.inr ⟨g, cap, by rw [ins_len _ _ _ hi], ⟨⟨_, setRow_heap _ _ _ _ _ _ (setRow_heap _ _ _ _ _ _ hL'), ?_, ?_⟩, by rw [ins_len _ _ _ hi]; exact hroom, hq.capm⟩⟩, but_setRow (but_setRow (But.of_below (below_drew (Below.refl _ _))) (Or.inl ⟨_, _, rfl⟩) _) (Or.inl ⟨_, _, rfl⟩) _, ?_⟩
          · simp
            omega
          · rw [ins_len _ _ _ hi, Nat.zero_add]
            have a1 : L1.take i = (xs.map Value.string).take i := by
              rw [← hL1, ← hLt, Nat.zero_add, List.take_append_of_le_length (by simp; omega), List.take_append_of_le_length (by simp; omega), List.take_take, List.take_take]
              congr 1
              omega
            have a2 : L1.drop (i + 1) = (xs.map Value.string).drop i ++ L.drop (i + 1 + (xs.length - i)) := by
              rw [← hL1, Nat.zero_add, hdl, List.append_assoc, List.drop_append_of_le_length (by simp; omega), List.drop_take, Nat.sub_self, List.take_zero, List.nil_append]
            show List.take (xs.length + 1) (L1.take i ++ [Value.string x] ++ L1.drop (i + 1)) = _
            rw [a1, a2, ← List.append_assoc, List.take_append_of_le_length (by simp; omega), List.take_of_length_le (by simp; omega)]
            simp
          · rintro g' ⟨n, c', e⟩
            injection e with e1 e2 e3
            injection e1 with e1
            injection e1 with e1
            subst e1
            exact Or.inl ⟨_, _, rfl⟩
    · by_cases hie : i = xs.length
      · refine grown (some ⟨g, 0, none⟩) cap (xs.map Value.string) hcl rfl hlen (by omega) (fun e => by cases e) (fun a ha j u hu => ?_) hie rfl
        injection ha with ha
        subst ha
        have := hcell j u hu
        rw [Nat.zero_add] at this
        simp only [Addr.add]
        split
        · next h0 =>
          have h0 : j = 0 := by simpa using h0
          subst h0
          exact this
        · simpa using this
      · have hlt : i < xs.length := by omega
        refine (Any2.slices_Insert_string_grow lay22 g 0 xs.length cap i vb 0 1 vc (xs.map Value.string) [.string x] w hlt (by omega) hlen (by omega) hbig hcl rfl hcell hvs h1c h1v).mono ?_
        rintro e w' ⟨rfl, rfl⟩
        have hge := grownCap_ge w (xs.length + 1) cap 9
        have hle := grownCap_le_maxLen w (xs.length + 1) cap 9 (by unfold maxLen; omega)
        obtain ⟨G, hG⟩ : ∃ G, grownCap w (xs.length + 1) cap 9 = G := ⟨_, rfl⟩
        obtain ⟨X, hX⟩ : ∃ X, ((xs.map Value.string).take i).toArray ++ Builtin.zeroCells (Value.string ⟨#[]⟩).cells (xs.length + 1 - i) ++ Builtin.zeroCells (Value.string ⟨#[]⟩).cells (grownCap w (xs.length + 1) cap 9 - (xs.length + 1)) = X := ⟨_, rfl⟩
        have hXl : X.toList.length = G := by rw [← hX]; simp only [Array.length_toList, Array.size_append, zeros_len, List.size_toArray, List.length_take, hcl, hG]; omega
        have hX0 : X.toList.take i = (xs.map Value.string).take i := by
          rw [← hX, Array.toList_append, Array.toList_append, List.append_assoc, List.take_append_of_le_length (by simp; omega), List.take_of_length_le (by simp; omega)]
        change ∃ v', Ending.returned (.slice (some ⟨w.heap.size, 0, none⟩) (xs.length + 1) (grownCap w (xs.length + 1) cap 9)) = .returned v' ∧ Row ((((w.alloc (.cells (((xs.map Value.string).take i).toArray ++ Builtin.zeroCells (Value.string ⟨#[]⟩).cells (xs.length + 1 - i) ++ Builtin.zeroCells (Value.string ⟨#[]⟩).cells (grownCap w (xs.length + 1) cap 9 - (xs.length + 1))) 9)).drew.setCells w.heap.size i [.string x]).drew).setCells w.heap.size (i + 1) ((xs.map Value.string).drop i)) v' (xs.take i ++ x :: xs.drop i) ∧ But _ w ((((w.alloc (.cells (((xs.map Value.string).take i).toArray ++ Builtin.zeroCells (Value.string ⟨#[]⟩).cells (xs.length + 1 - i) ++ Builtin.zeroCells (Value.string ⟨#[]⟩).cells (grownCap w (xs.length + 1) cap 9 - (xs.length + 1))) 9)).drew.setCells w.heap.size i [.string x]).drew).setCells w.heap.size (i + 1) ((xs.map Value.string).drop i)) ∧ _
        rw [hX, hG]
        have hdl : ((xs.map Value.string).drop i).length = xs.length - i := by rw [List.length_drop, hcl]
        have hXh : (w.alloc (.cells X 9)).drew.heap[w.heap.size]? = some (.cells X.toList.toArray 9 (0, 0)) := by rw [Array.toArray_toList]; exact World.alloc_heap_new w _
        rw [setCells_rowT _ w.heap.size [.string x] 9 i X.toList hXh (by rw [hXl, List.length_singleton]; omega)]
        obtain ⟨L1, hL1⟩ : ∃ L1, X.toList.take i ++ [Value.string x] ++ X.toList.drop (i + [Value.string x].length) = L1 := ⟨_, rfl⟩
        have hL1l : L1.length = G := by rw [← hL1]; simp only [List.length_append, List.length_take, List.length_singleton, List.length_drop, hXl]; omega
        have hL1h := setRow_heap _ _ _ L1.toArray _ _ hXh
        rw [hL1]
        obtain ⟨L2, hL2⟩ : ∃ L2, L1.take (i + 1) ++ (xs.map Value.string).drop i ++ L1.drop (i + 1 + ((xs.map Value.string).drop i).length) = L2 := ⟨_, rfl⟩
        rw [setCells_rowT ((w.alloc (Obj.cells X 9)).drew.setRow w.heap.size L1.toArray).drew w.heap.size _ 9 (i + 1) L1 hL1h (by rw [hdl, hL1l]; omega), hL2]
        refine ⟨_, rfl, Or.inr ⟨w.heap.size, G, by rw [ins_len _ _ _ hi], ⟨⟨_, setRow_heap _ _ _ L2.toArray _ _ (show (_ : World).heap[w.heap.size]? = _ from hL1h), ?_, ?_⟩, by rw [ins_len _ _ _ hi]; omega, by omega⟩⟩, but_setRow (but_drew (but_setRow (but_drew (But.of_below ((Below.refl _ w).alloc (Nat.le_refl _) _))) (Or.inr (Nat.le_refl _)) _)) (Or.inr (Nat.le_refl _)) _, ?_⟩
        · rw [List.size_toArray, ← hL2]
          simp only [List.length_append, List.length_take, List.length_drop, hL1l, hcl]
          omega
        · rw [ins_len _ _ _ hi, ← hL2, List.take_append_of_le_length (by simp only [List.length_append, List.length_take, List.length_drop, hL1l, hcl]; omega), List.take_of_length_le (by simp only [List.length_append, List.length_take, List.length_drop, hL1l, hcl]; omega)]
          have a1 : L1.take (i + 1) = (xs.map Value.string).take i ++ [Value.string x] := by
            rw [← hL1, List.take_append_of_le_length (by simp only [List.length_append, List.length_take, List.length_singleton, hXl]; omega), List.take_of_length_le (by simp only [List.length_append, List.length_take, List.length_singleton, hXl]; omega), hX0]
          rw [a1]
          simp
        · rintro g' ⟨n, c', e⟩
          injection e with e1 e2 e3
          injection e1 with e1
          injection e1 with e1
          exact Or.inr e1.symm
end Go.Proofs.YtdjhhljijpadoaaDoor.Table
