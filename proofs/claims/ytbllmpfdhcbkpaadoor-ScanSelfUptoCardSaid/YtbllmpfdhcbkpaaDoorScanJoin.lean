/- Rows of bytes that only are read; (*window).join. -/
import Derived.Test.YtbllmpfdhcbkpaaDoorScanStr
import Derived.Test.YtbllmpfdhcbkpaaDoorScanPure
import Derived.StillTail
import Derived.StillTactics
import Derived.ArgAppend
import Derived.Laws.IdiomStrings
namespace Go.Proofs.YtbllmpfdhcbkpaaDoor.Scan
open Go.Shelf Go.RowKit Go.Proofs.YtbllmpfdhcbkpaaDoor.Q Go.Proofs.YtbllmpfdhcbkpaaDoorW.PrintWords Go.Proofs.YtbllmpfdhcbkpaaDoorW.PrintLast Go.Proofs.YtbllmpfdhcbkpaaDoorW.PrintMore Go.Proofs.YtbllmpfdhcbkpaaDoor.Bytes
set_option linter.unusedVariables false
set_option linter.unusedSimpArgs false
def bc (x : UInt8) : Value := .int .u8 (x.toNat : Int)
/-- A row of bytes. -/
def BV (W : World) (v : Value) (l : List UInt8) : Prop := (v = .slice none 0 0 ∧ l = []) ∨ ∃ g o c, v = .slice (some ⟨g, o, none⟩) l.length c ∧ l.length ≤ c ∧ c ≤ maxLen ∧ ∀ j x, l[j]? = some x → W.cell? ⟨g, o + j, none⟩ = some (bc x)
/-- The row's block. -/
def VB (v : Value) (g : Nat) : Prop := ∃ o n c, v = .slice (some ⟨g, o, none⟩) n c
theorem BV.kept {S : Nat → Prop} {w W : World} {v : Value} {l : List UInt8} (h : BV w v l) (k : Fr S w W) (hS : ∀ g, VB v g → ¬ S g) : BV W v l := by
  rcases h with h | ⟨g, o, c, rfl, h1, h2, h3⟩
  · exact Or.inl h
  · exact Or.inr ⟨g, o, c, rfl, h1, h2, fun j x hx => k.cell (h3 j x hx) (hS _ ⟨_, _, _, rfl⟩)⟩
theorem BV.below {w W : World} {v : Value} {l : List UInt8} (h : BV w v l) (k : Below w.heap.size w W) : BV W v l := h.kept (S := fun _ => False) (Fr.of_below k) (fun _ _ h => h)
theorem BV.slice {w : World} {v : Value} {l : List UInt8} (h : BV w v l) : ∃ A n c, v = .slice A n c ∧ n = l.length ∧ n ≤ c := by
  rcases h with ⟨rfl, rfl⟩ | ⟨g, o, c, rfl, h1, _⟩
  · exact ⟨_, _, _, rfl, rfl, Nat.le_refl _⟩
  · exact ⟨_, _, _, rfl, rfl, h1⟩
theorem BV.drop {w : World} {g o : Nat} {l : List UInt8} {c k : Nat} (h1 : l.length ≤ c) (h2 : c ≤ maxLen) (h3 : ∀ j x, l[j]? = some x → w.cell? ⟨g, o + j, none⟩ = some (bc x)) (hk : k ≤ l.length) : BV w (.slice (some ⟨g, o + k, none⟩) (l.length - k) (c - k)) (l.drop k) := by
  refine Or.inr ⟨_, _, _, by rw [List.length_drop], by rw [List.length_drop]; omega, by omega, fun j x hx => ?_⟩
  rw [List.getElem?_drop] at hx
  rw [Nat.add_assoc]
  exact h3 _ x hx
theorem BV.of_own {w : World} {B n : Nat} {v : Value} {l : List UInt8} (h : w.ownsRow B 5 1 v n (l.map bc)) (hn : n = l.length) : BV w v l := by
  subst hn
  rcases h.2 with ⟨rfl, h0⟩ | ⟨g, cap, cur, rfl, hb, hg, hnc, hcm, hcs, ht⟩
  · exact Or.inl ⟨rfl, List.eq_nil_of_length_eq_zero h0⟩
  · refine Or.inr ⟨g, 0, cap, rfl, hnc, hcm, fun j x hx => ?_⟩
    have hlt := (List.getElem?_eq_some_iff.1 hx).1
    rw [Nat.zero_add]
    have h1 : (l.map bc)[j]? = some (bc x) := by rw [List.getElem?_map, hx]; rfl
    rw [Nat.mul_one] at ht
    rw [← ht, List.getElem?_take, if_pos hlt] at h1
    simpa [World.cell?, hg] using h1
theorem lit_add (g o j : Nat) : (⟨g, o, none⟩ : Addr).add j = ⟨g, o + j, none⟩ := by unfold Addr.add; split <;> simp_all
/-- string(p). -/
theorem conv_of {W : World} {g o c n : Nat} {l : List UInt8} (hn : n = l.length) (h : ∀ j x, l[j]? = some x → W.cell? ⟨g, o + j, none⟩ = some (bc x)) : (convert 41 9 (.slice (some ⟨g, o, none⟩) n c)).run Tryd.prog W = .ok (.string ⟨l.toArray⟩) W := by
  subst hn
  exact run_convert_bytes_back (P := Tryd.prog) W 41 9 5 ⟨g, o, none⟩ c l Tryd.underlying41 Tryd.underlying5 Tryd.underlying9 (fun j hj => by rw [lit_add, h j l[j] (List.getElem?_eq_getElem hj)]; rfl)
theorem conv_bv {W : World} {v : Value} {l : List UInt8} (h : BV W v l) : (convert 41 9 v).run Tryd.prog W = .ok (.string ⟨l.toArray⟩) W := by
  rcases h with ⟨rfl, rfl⟩ | ⟨g, o, c, rfl, _, _, h⟩
  · exact string_of_reads (xs := []) Tryd.underlying41 Tryd.underlying5 Tryd.underlying9 (ReadsInt.nil W .u8)
  · exact conv_of rfl h
theorem row_cell {W : World} {b : Nat} {cs : Array Value} {T : TypeId} {i : Nat} {v : Value} (hb : W.heap[b]? = some (.cells cs T (0, 0))) (h : cs[i]? = some v) : W.cell? ⟨b, i, none⟩ = some v := by simp [World.cell?, hb, h]
theorem row_fro {W : World} {b : Nat} {cs : Array Value} {T : TypeId} (i : Nat) (hb : W.heap[b]? = some (.cells cs T (0, 0))) : W.frozen? ⟨b, i, none⟩ = false := by simp [World.frozen?, hb]
theorem setCell_row (w : World) (b i : Nat) (cs : Array Value) (T : TypeId) (v : Value) (hb : w.heap[b]? = some (.cells cs T (0, 0))) : (w.setCell ⟨b, i, none⟩ v).heap[b]? = some (.cells (cs.setIfInBounds i v) T (0, 0)) := by
  simp [World.setCell, Array.getElem?_modify, hb]
theorem setCell_fr (w : World) (b i : Nat) (v : Value) : Fr (· = b) w (w.setCell ⟨b, i, none⟩ v) :=
  ⟨rfl, rfl, rfl, by simp [World.setCell], fun k _ hn => Below.heap_setCell _ _ _ _ (fun e => hn e)⟩
theorem info_u8 : ∃ i, Tryd.prog.info? 5 = some i ∧ i.zero = some (.int .u8 0) ∧ i.size = 1 ∧ i.bytes = 1 := by
  obtain ⟨i, hi, hzz⟩ := Option.map_eq_some_iff.1 (show (Tryd.prog.info? 5).map (fun i => (i.zero, i.size, i.bytes)) = some (some (.int .u8 0), 1, 1) by kernel_rfl)
  simp only [Prod.mk.injEq] at hzz
  exact ⟨i, hi, hzz.1, hzz.2.1, hzz.2.2⟩
theorem own_vb {W : World} {B n : Nat} {v : Value} {xs : List Value} (h : W.ownsRow B 5 1 v n xs) : ∀ g, VB v g → B ≤ g ∧ g < W.heap.size := by
  rintro g ⟨o, n', c, rfl⟩
  rcases h.2 with ⟨e, _⟩ | ⟨g', cap, cur, e, hb, hc, _⟩
  · cases e
  · injection e with e _ _
    injection e with e
    injection e with e _ _
    subst e
    exact ⟨hb, (Array.getElem?_eq_some_iff.1 hc).1⟩
set_option maxRecDepth 100000 in
/-- append onto a slice with no room. -/
theorem wpList_append_full {W : World} {ops : Array Oper} {rest : List Oper} {o : Oper} {a : Act} {Q : Exit → Act → World → Prop} (hg : o.guard = none) (s x : Operand)
    (ho : o.op = .call { callee := .builtin .append, args := #[s, x], argTypes := #[41, 41] }) (A : Option Addr) (n : Nat) (tl p : List UInt8) (gp op m cp : Nat) (hs : a.eval s = .slice A n n) (hx : a.eval x = .slice (some ⟨gp, op, none⟩) m cp)
    (ht : BV W (.slice A n n) tl) (hm : m = p.length) (hp : ∀ j x, p[j]? = some x → W.cell? ⟨gp, op + j, none⟩ = some (bc x)) (hsz : tl.length + p.length ≤ 4294967000)
    (h : ∀ v' w', BV w' v' (tl ++ p) → Fr (fun _ => False) W w' → (∀ g, VB v' g → VB (.slice A n n) g ∨ (W.heap.size ≤ g ∧ g < w'.heap.size)) → wpList Tryd.prog ops Q rest (a.put o.dst v') w') : wpList Tryd.prog ops Q (o :: rest) a W := by
  obtain ⟨i0, hi0, hz0, hz1, hz2⟩ := info_u8
  have hml : maxLen = 9223372036854775807 := rfl
  have hcp : ∀ j u, (p.map bc)[j]? = some u → W.cell? ((⟨gp, op, none⟩ : Addr).add j) = some u := fun j u hj => by
    rw [List.getElem?_map] at hj
    obtain ⟨y, hy, rfl⟩ := Option.map_eq_some_iff.1 hj
    rw [lit_add]
    exact hp j y hy
  have h1c : ∀ u ∈ p.map bc, u.oneCell' = true := fun u hu => by obtain ⟨y, _, rfl⟩ := List.mem_map.1 hu; rfl
  have htn : n = tl.length := by
    rcases ht with ⟨e, rfl⟩ | ⟨g, o', c, e, _⟩
    · injection e
    · injection e
  by_cases h0 : m = 0
  · have hp0 : p = [] := List.eq_nil_of_length_eq_zero (by omega)
    subst hp0
    rcases ht with ⟨e, rfl⟩ | ⟨g, o', c, e, k1, k2, k3⟩
    · injection e with e1 e2 e3
      subst e1 e2
      refine Kd.R_append_row (Value.int .u8) (0 : Int) (h1 := fun _ => rfl) (w0 := W) W.heap.size hg s x 41 5 (.int .u8 0) 1 ho Tryd.underlying41 (by kernel_rfl) rfl (by decide) (.slice none 0 0) [] [] (some ⟨gp, op, none⟩) m cp (fun _ => True) hs hx (fun _ _ => trivial) ⟨fun _ _ => trivial, [], World.ownsRow_nil _ _ _ _, ⟨rfl, fun j p hj => by simp at hj⟩⟩ ⟨by simpa using hm.symm, by omega, fun hh => by omega⟩ (Below.refl _ _) (Nat.le_refl _) (by simp; omega) ?_
      intro v1 w1 ho1 hb1 hg1 hat
      refine h v1 w1 ?_ (Fr.of_below hb1) (fun g hv => ?_)
      · obtain ⟨_, inner, hr, hrep⟩ := ho1
        have : inner = [] := List.eq_nil_of_length_eq_zero (by have := hrep.1; simpa using this)
        subst this
        exact BV.of_own (l := []) hr rfl
      · obtain ⟨_, inner, hr, _⟩ := ho1
        exact Or.inr (own_vb hr g hv)
    · injection e with e1 e2 e3
      subst e1 e2 e3
      refine wpList_append_arg (P := Tryd.prog) W hg s x 41 ho 5 i0 (.int .u8 0) 1 1 Tryd.underlying41 hi0 hz0 hz1 hz2 rfl (by decide) g o' tl.length tl.length (tl.map bc) hs (by simp) (fun j u hj => ?_) ⟨gp, op, none⟩ m cp [] hx (by simp [h0]) (fun j u hj => by simp at hj) (fun u hu => by simp at hu) (fun _ j hj => by simp at hj) (by simp at hsz; omega) (by simp at hsz; omega) ?_ (fun hh => by omega)
      · rw [List.getElem?_map] at hj
        obtain ⟨y, hy, rfl⟩ := Option.map_eq_some_iff.1 hj
        exact k3 j y hy
      · intro _
        have e4 : W.setCells g (o' + tl.length * 1) [] = W := rfl
        rw [e4, h0, Nat.add_zero]
        refine h _ _ (Or.inr ⟨g, o', tl.length, by rw [List.append_nil], by rw [List.append_nil]; exact Nat.le_refl _, k2, by rw [List.append_nil]; exact k3⟩) (Fr.refl _ _) (fun g' hv => Or.inl hv)
  · refine wpList_append_grows (P := Tryd.prog) W hg s x 41 ho 5 i0 (.int .u8 0) 1 1 Tryd.underlying41 hi0 hz0 hz1 hz2 rfl (by decide) A n n (tl.map bc) hs ?_ (by rw [List.length_map]; omega) ?_ ⟨gp, op, none⟩ m cp (p.map bc) hx (by rw [List.length_map]; omega) hcp h1c (by omega) (by omega) (by omega) ?_
    · intro e
      subst e
      rcases ht with ⟨e, rfl⟩ | ⟨g, o', c, e, _⟩
      · injection e with _ e2 e3
        exact ⟨e2, e2⟩
      · cases e
    · intro b' e j u hj
      subst e
      rcases ht with ⟨e, rfl⟩ | ⟨g, o', c, e, k1, k2, k3⟩
      · cases e
      · injection e with e1 e2 e3
        injection e1 with e1
        subst e1
        rw [List.getElem?_map] at hj
        obtain ⟨y, hy, rfl⟩ := Option.map_eq_some_iff.1 hj
        rw [lit_add]
        exact k3 j y hy
    · intro v' w' ho' hg'
      rw [← List.map_append] at ho'
      exact h v' w' (BV.of_own ho' (by rw [List.length_append]; omega)) (Fr.of_below ⟨hg'.os, hg'.tape, hg'.output, hg'.size, fun k hk => hg'.block k hk (by simp)⟩) (fun g hv => Or.inr (own_vb ho' g hv))
set_option maxRecDepth 100000 in
set_option maxHeartbeats 4000000 in
theorem join_calls (w : World) (b : Nat) (cs : Array Value) (T : TypeId) (vt : Value) (gp op m cp : Nat) (tl p : List UInt8) (tk : Int) (hb : w.heap[b]? = some (.cells cs T (0, 0))) (h0 : cs[0]? = some vt) (h1 : cs[1]? = some (.int .i64 tk))
    (ht : BV w vt tl) (hm : m = p.length) (hmc : m ≤ cp) (hp : ∀ j x, p[j]? = some x → w.cell? ⟨gp, op + j, none⟩ = some (bc x)) (nt : ¬ VB vt b) (np : gp ≠ b) (hsz : tl.length + p.length ≤ 4294967000) (hk0 : 0 ≤ tk) (hk : tk ≤ 4611686018427387904) :
    Calls Tryd.prog 25 #[.pointer (some ⟨b, 0, none⟩), .slice (some ⟨gp, op, none⟩) m cp] w fun e w' => ∃ v', e = .returned v' ∧ BV w' v' (tl ++ p) ∧ w'.heap[b]? = some (.cells (cs.setIfInBounds 1 (.int .i64 (tk + (m : Int)))) T (0, 0)) ∧ Fr (· = b) w w' ∧ (∀ g, VB v' g → VB vt g ∨ (w.heap.size ≤ g ∧ g < w'.heap.size)) := by
  have c1 := row_cell hb h1
  have f1 := row_fro 1 hb
  have hw1 : wrap64 (tk + (m : Int)) = tk + (m : Int) := w64 (by omega) (by omega)
  obtain ⟨w1, hW1⟩ : ∃ w1, w.setCell ⟨b, 1, none⟩ (.int .i64 (tk + (m : Int))) = w1 := ⟨_, rfl⟩
  have hb1 := setCell_row w b 1 cs T (.int .i64 (tk + (m : Int))) hb
  have hf1 := setCell_fr w b 1 (.int .i64 (tk + (m : Int)))
  rw [hW1] at hb1 hf1
  have hlt : b < w.heap.size := (Array.getElem?_eq_some_iff.1 hb).1
  have ht1 : BV w1 vt tl := ht.kept hf1 (fun g hg e => nt (e ▸ hg))
  have hp1 : ∀ j x, p[j]? = some x → w1.drew.cell? ⟨gp, op + j, none⟩ = some (bc x) := fun j x hj => hf1.cell (hp j x hj) np
  have h01 : (cs.setIfInBounds 1 (.int .i64 (tk + (m : Int))))[0]? = some vt := by rw [Array.getElem?_setIfInBounds]; simpa using h0
  have c0 : w1.drew.cell? ⟨b, 0, none⟩ = some vt := row_cell (W := w1.drew) hb1 h01
  obtain ⟨A, n, ct, rfl, hn, hct⟩ := ht.slice
  have ht2 : BV w1.drew (.slice A n n) tl := by
    rcases ht1 with ⟨e, rfl⟩ | ⟨g, o', c, e, k1, k2, k3⟩
    · injection e with e1 e2 e3
      subst e1 e2
      exact Or.inl ⟨rfl, rfl⟩
    · injection e with e1 e2 e3
      subst e1
      exact Or.inr ⟨g, o', n, by rw [← hn], by omega, by have : maxLen = 9223372036854775807 := rfl; omega, k3⟩
  have hvb : ∀ g, VB (.slice A n n) g → VB (.slice A n ct) g := by
    rintro g ⟨o', n', c', e⟩
    injection e with e1 e2 e3
    exact ⟨o', n, ct, by rw [e1]⟩
  have HF := Aside0.mk (fun (v' : Value) (w' : World) (x1 : BV w' v' (tl ++ p)) (x2 : Fr (fun _ => False) w1.drew w') (x3 : ∀ g, VB v' g → VB (.slice A n n) g ∨ (w1.drew.heap.size ≤ g ∧ g < w'.heap.size)) => (show BV w' v' (tl ++ p) ∧ w'.heap[b]? = some (.cells (cs.setIfInBounds 1 (.int .i64 (tk + (m : Int)))) T (0, 0)) ∧ Fr (· = b) w w' ∧ (∀ g, VB v' g → VB (.slice A n ct) g ∨ (w.heap.size ≤ g ∧ g < w'.heap.size)) from
    ⟨x1, (x2.block b (Nat.lt_of_lt_of_le hlt hf1.size) (fun h => h)).trans hb1, hf1.trans (b := w1) ⟨x2.os, x2.tape, x2.output, x2.size, x2.block⟩ (fun g hg => hg.elim), fun g hg => (x3 g hg).imp (hvb g) (fun h => ⟨Nat.le_trans hf1.size h.1, h.2⟩)⟩))
  have HT := Aside0.mk ht2
  have HP := Aside0.mk hp1
  have HM := Aside0.mk hm
  have HS := Aside0.mk hsz
  have q1 : (n ≤ ct) = True := eq_true hct
  clear hb1 h01 ht1 hp1 hb h0 h1 nt np hlt ht ht2 hvb hm hsz hn hp hf1
  go_enter Tryd.func25, Tryd.ntmps25
  go_wp2
  refine wp_region_still_tail 16 (by kernel_rfl) (by kernel_rfl) ?_
  change wpStill _ _ (World.drew w1) (fun a' => wpList _ _ _ _ a' (World.drew w1)) _ _
  clear hW1 c1 f1 hw1
  generalize World.drew w1 = wd at HT HP HF c0 ⊢
  simp only [List.take_succ_cons, List.take_zero, List.drop_succ_cons, List.drop_zero]
  repeat still_step
  refine wpStill_nil ?_
  change wpList _ _ _ _ _ wd
  clear c0 q1
  go_wp2_with (first
    | ((with_reducible refine gate_builtin (b := .append) (xs := #[.tmp 28, .tmp 29]) rfl ?_); refine wpList_append_full rfl (.tmp 28) (.tmp 29) rfl A n tl p gp op m cp rfl rfl HT.out HM.out HP.out HS.out ?_; intro v' w' x1 x2 x3; obtain ⟨y1, y2, y3, y4⟩ := HF.out v' w' x1 x2 x3; have Y1 := Aside0.mk y1; have Y2 := Aside0.mk y2; have Y3 := Aside0.mk y3; have Y4 := Aside0.mk y4; clear x1 x2 x3 y1 y2 y3 y4))
  go_ret
  exact ⟨_, rfl, Y1.out, Y2.out, Y3.out, Y4.out⟩
end Go.Proofs.YtbllmpfdhcbkpaaDoor.Scan
