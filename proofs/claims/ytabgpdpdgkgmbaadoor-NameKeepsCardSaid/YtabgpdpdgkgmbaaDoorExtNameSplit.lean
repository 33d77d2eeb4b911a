/- name.Split, walked by hand: a range over strings.SplitSeq. -/
import Derived.Test.YtabgpdpdgkgmbaaDoorNameBoxes
import Derived.Test.YtabgpdpdgkgmbaaDoorNamePureD
namespace Go.Proofs.YtabgpdpdgkgmbaaDoor.Q
open Go.RowKit Go.Shelf Go.Proofs.YtabgpdpdgkgmbaaDoorW.PrintWords Go.Proofs.YtabgpdpdgkgmbaaDoorW.PrintLast Go.Proofs.YtabgpdpdgkgmbaaDoorW.PrintMore Go.Proofs.YtabgpdpdgkgmbaaDoor.Bytes Go.Proofs.YtabgpdpdgkgmbaaDoor.Loop Go.Proofs.YtabgpdpdgkgmbaaDoor.NamePure
set_option linter.unusedVariables false
set_option linter.unusedSimpArgs false
attribute [local go_sem] Oper.semAt_some

/-- What Split does with the pieces, one by one: the names so far; the place. -/
def takeNames : List ByteArray → List ByteArray → Int → List ByteArray × Int × Int
  | [], acc, _ => (acc, 0, 0)
  | x :: r, acc, at_ => if acc.length = 31 then ([], 61, at_) else if chk (bs x) = 0 then takeNames r (acc ++ [x]) (wrap64 (at_ + wrap64 ((x.size : Int) + 1))) else ([], chk (bs x), at_)
def piecesOf (a0 : ByteArray) : List ByteArray := (cutAt 47 (bs a0)).map (fun l => (⟨l.toArray⟩ : ByteArray))
def name_Split.f (a0 : ByteArray) : Option (List ByteArray × Int × Int) :=
  if a0.size ≤ 140737488355328 then (if bs a0 = [] then some ([], 0, 0) else some (takeNames (piecesOf a0) [] 0)) else none

/-- All of these are taken. -/
def Taken (pre : List ByteArray) : Prop := pre.length ≤ 31 ∧ ∀ x ∈ pre, chk (bs x) = 0
theorem take_all : ∀ (xs acc : List ByteArray) (p : Int), (acc ++ xs).length ≤ 31 → (∀ x ∈ xs, chk (bs x) = 0) → ∀ more, takeNames (xs ++ more) acc p = takeNames more (acc ++ xs) (xs.foldl (fun a x => wrap64 (a + wrap64 ((x.size : Int) + 1))) p)
  | [], acc, p, _, _, more => by simp
  | x :: r, acc, p, hl, hc, more => by
    have h1 : chk (bs x) = 0 := hc x List.mem_cons_self
    have h2 : ¬ acc.length = 31 := by simp at hl; omega
    rw [List.cons_append, takeNames, if_neg h2, if_pos h1, take_all r (acc ++ [x]) _ (by simpa using hl) (fun y hy => hc y (List.mem_cons_of_mem _ hy)) more]
    simp
theorem take_taken {pre : List ByteArray} (h : Taken pre) (more : List ByteArray) : takeNames (pre ++ more) [] 0 = takeNames more pre (atOf pre) := by
  rw [take_all pre [] 0 (by simpa using h.1) h.2 more]
  rfl
theorem pieces_of {xs : List ByteArray} {a0 : ByteArray} (h : xs.map bs = cutAt 47 (bs a0)) : piecesOf a0 = xs := by
  unfold piecesOf
  rw [← h, List.map_map]
  conv => rhs; rw [← List.map_id xs]
  refine List.map_congr_left fun x _ => ?_
  exact bs_inj (bs_mk _)
theorem pieces_pre {pre : List ByteArray} {a0 : ByteArray} (h : pre.map bs <+: cutAt 47 (bs a0)) : ∃ more, piecesOf a0 = pre ++ more := by
  obtain ⟨m, hm⟩ := h
  refine ⟨m.map (fun l => (⟨l.toArray⟩ : ByteArray)), ?_⟩
  unfold piecesOf
  rw [← hm, List.map_append, List.map_map]
  congr 1
  conv => rhs; rw [← List.map_id pre]
  refine List.map_congr_left fun x _ => ?_
  exact bs_inj (bs_mk _)

theorem takes_done {a0 : ByteArray} {xs : List ByteArray} (hx : xs.map bs = cutAt 47 (bs a0)) (ht : Taken xs) : takeNames (piecesOf a0) [] 0 = (xs, 0, 0) := by
  rw [pieces_of hx]
  have := take_taken ht []
  rw [List.append_nil] at this
  rw [this, takeNames]
theorem takes_stop {a0 : ByteArray} {p : List ByteArray} {x : ByteArray} {code : Int} (hx : (p ++ [x]).map bs <+: cutAt 47 (bs a0)) (ht : Taken p) (hc : (p.length = 31 ∧ code = 61) ∨ (p.length ≠ 31 ∧ chk (bs x) = code ∧ code ≠ 0)) :
    takeNames (piecesOf a0) [] 0 = ([], code, atOf p) := by
  obtain ⟨more, hm⟩ := pieces_pre hx
  rw [hm, List.append_assoc, take_taken ht, List.singleton_append, takeNames]
  rcases hc with ⟨h1, rfl⟩ | ⟨h1, h2, h3⟩
  · rw [if_pos h1]
  · rw [if_neg h1, if_neg (by rw [h2]; exact h3), h2]

/-- The world where the loop begins. -/
def startW (a0 : ByteArray) (w : World) : World :=
  ((((((((w.alloc (.cells #[.slice none 0 0] 23)).alloc (.cells #[.int .i64 0, .int .i64 0] 26)).alloc (.cells #[] 9)).alloc (.cells #[.slice (some ⟨w.heap.size + 2, 0, none⟩) 0 0] 23)).alloc (.cells #[.int .i64 0] 3)).alloc
    (.cells #[.string a0] 9)).alloc (.cells #[.string slash] 9)).alloc (.cells #[.int .i64 0] 3))
theorem heap_of (w : World) (l : List Obj) : ∀ (k : Nat) o, l[k]? = some o → (l.foldl World.alloc w).heap[w.heap.size + k]? = some o := by
  induction l generalizing w with
  | nil => intro k o h; simp at h
  | cons x r ih =>
    intro k o h
    match k, h with
    | 0, h =>
      have hx : x = o := by simpa using h
      subst hx
      have : ∀ (l : List Obj) (W : World) (k : Nat), k < W.heap.size → (l.foldl World.alloc W).heap[k]? = W.heap[k]? := by
        intro l
        induction l with
        | nil => intro W k _; rfl
        | cons y r ih2 =>
          intro W k hk
          rw [List.foldl_cons, ih2 _ k (by simp; omega)]
          exact Below.heap_alloc _ _ _ hk
      rw [List.foldl_cons, Nat.add_zero, this r _ _ (by simp)]
      exact World.alloc_heap_new _ _
    | k + 1, h =>
      have := ih (w.alloc x) k o (by simpa using h)
      rw [World.size_alloc] at this
      rw [List.foldl_cons, ← this]
      congr 1
      omega
theorem start_fold (a0 : ByteArray) (w : World) : startW a0 w = ([.cells #[.slice none 0 0] 23 (0, 0), .cells #[.int .i64 0, .int .i64 0] 26 (0, 0), .cells #[] 9 (0, 0), .cells #[.slice (some ⟨w.heap.size + 2, 0, none⟩) 0 0] 23 (0, 0), .cells #[.int .i64 0] 3 (0, 0), .cells #[.string a0] 9 (0, 0), .cells #[.string slash] 9 (0, 0), .cells #[.int .i64 0] 3 (0, 0)] : List Obj).foldl World.alloc w := rfl
theorem start_size (a0 : ByteArray) (w : World) : (startW a0 w).heap.size = w.heap.size + 8 := by simp [startW]
theorem start_below (a0 : ByteArray) (w : World) : Below w.heap.size w (startW a0 w) := by
  unfold startW
  exact ((((((((Below.refl _ w).alloc (Nat.le_refl _) _).alloc (by simp) _).alloc (by simp; omega) _).alloc (by simp; omega) _).alloc (by simp; omega) _).alloc (by simp; omega) _).alloc (by simp; omega) _).alloc (by simp; omega) _
theorem start_ns (a0 : ByteArray) (w : World) : NS w.heap.size w [] (startW a0 w) := by
  have h := fun k o hk => (congrArg (fun W : World => W.heap[w.heap.size + k]?) (start_fold a0 w)).trans (heap_of w _ k o hk)
  refine ⟨h 0 _ rfl, h 1 _ rfl, ⟨w.heap.size + 2, 0, h 3 _ rfl, ⟨rfl, .inr ⟨_, _, #[], rfl, by omega, h 2 _ rfl, Nat.le_refl _, by decide, rfl, rfl⟩⟩, .inl rfl⟩, h 4 _ rfl, start_below a0 w, Nat.le_of_eq (start_size a0 w).symm⟩
theorem start_seq (a0 : ByteArray) (w : World) : SeqAt (w.heap.size + 5) a0 (startW a0 w) := by
  have h := fun k o hk => (congrArg (fun W : World => W.heap[w.heap.size + k]?) (start_fold a0 w)).trans (heap_of w _ k o hk)
  exact ⟨h 5 _ rfl, h 6 _ rfl, h 7 _ rfl⟩
theorem SeqAt.below {b : Nat} {r : ByteArray} {A B : World} (h : SeqAt b r A) (hb : Below A.heap.size A B) : SeqAt b r B :=
  ⟨(hb.block _ h.s.lt).trans h.s, (hb.block _ h.sep.lt).trans h.sep, (hb.block _ h.save.lt).trans h.save⟩
section
variable {W : World} {b : Nat} {v0 v1 : Value} (h : W.heap[b]? = some (.cells #[v0, v1] 26 (0, 0)))
include h
theorem f_cell0 : W.cell? ⟨b, 0, none⟩ = some v0 := by simp [World.cell?, h]
theorem f_cell1 : W.cell? ⟨b, 1, none⟩ = some v1 := by simp [World.cell?, h]
theorem f_frozen0 : W.frozen? ⟨b, 0, none⟩ = false := by simp [World.frozen?, h]
theorem f_frozen1 : W.frozen? ⟨b, 1, none⟩ = false := by simp [World.frozen?, h]
end
/-- A round has left the loop: the fault is laid. -/
structure NX (n0 : Nat) (w : World) (s : List ByteArray) (W : World) : Prop where
  ex : ∃ p x code, s = p ++ [x] ∧ Taken p ∧ ((p.length = 31 ∧ code = 61) ∨ (p.length ≠ 31 ∧ chk (bs x) = code ∧ code ≠ 0)) ∧ W.heap[n0 + 1]? = some (.cells #[.int .i64 code, .int .i64 (atOf p)] 26 (0, 0))
  r : Boxed W n0 23 (.slice none 0 0)
  below : Below n0 w W
  size : n0 + 8 ≤ W.heap.size
theorem NX.move {n0 : Nat} {w W W' : World} {s : List ByteArray} (h : NX n0 w s W) (hs : ∀ k, k < n0 + 2 → W'.heap[k]? = W.heap[k]?) (hB : Below n0 w W') (hz : W.heap.size ≤ W'.heap.size) : NX n0 w s W' := by
  obtain ⟨p, x, code, e, ht, hc, hf⟩ := h.ex
  exact ⟨⟨p, x, code, e, ht, hc, (hs _ (by omega)).trans hf⟩, (hs _ (by omega)).trans h.r, hB, Nat.le_trans h.size hz⟩

theorem set2 {W : World} {b : Nat} {a0 a1 x0 : Value} {t : TypeId} (h : W.heap[b]? = some (.cells #[a0, a1] t (0, 0))) : (W.setCell ⟨b, 0, none⟩ x0).heap[b]? = some (.cells #[x0, a1] t (0, 0)) := by
  simp [World.setCell, Array.getElem?_modify, h]
theorem set3 {W : World} {b : Nat} {a0 a1 x1 : Value} {t : TypeId} (h : W.heap[b]? = some (.cells #[a0, a1] t (0, 0))) : (W.setCell ⟨b, 1, none⟩ x1).heap[b]? = some (.cells #[a0, x1] t (0, 0)) := by
  simp [World.setCell, Array.getElem?_modify, h]
/-- Split's two results, stored. -/
def laid3 (n0 : Nat) (v c p : Value) (V : World) : World := ((V.setCell ⟨n0, 0, none⟩ v).setCell ⟨n0 + 1, 0, none⟩ c).setCell ⟨n0 + 1, 1, none⟩ p
theorem laid3_keeps (n0 : Nat) (v c p : Value) (V : World) : KeepsOthers V (laid3 n0 v c p V) := ((KeepsOthers.setCell _ _ _).trans (KeepsOthers.setCell _ _ _)).trans (KeepsOthers.setCell _ _ _)
theorem laid3_below {n0 : Nat} {v c p : Value} {w V : World} (h : Below n0 w V) : Below n0 w (laid3 n0 v c p V) :=
  ((h.setCell (p := ⟨n0, 0, none⟩) (Nat.le_refl _) _).setCell (p := ⟨n0 + 1, 0, none⟩) (by show n0 ≤ n0 + 1; omega) _).setCell (p := ⟨n0 + 1, 1, none⟩) (by show n0 ≤ n0 + 1; omega) _
theorem laid3_other {n0 : Nat} {v c p : Value} {V : World} {k : Nat} (h : n0 + 2 ≤ k) : (laid3 n0 v c p V).heap[k]? = V.heap[k]? :=
  (Below.heap_setCell _ _ _ _ (by show k ≠ n0 + 1; omega)).trans ((Below.heap_setCell _ _ _ _ (by show k ≠ n0 + 1; omega)).trans (Below.heap_setCell _ _ _ _ (by show k ≠ n0; omega)))
theorem laid3_r {n0 : Nat} {v c p u : Value} {V : World} (h : Boxed V n0 23 u) : Boxed (laid3 n0 v c p V) n0 23 v :=
  (Below.heap_setCell _ _ _ _ (by show n0 ≠ n0 + 1; omega)).trans ((Below.heap_setCell _ _ _ _ (by show n0 ≠ n0 + 1; omega)).trans (h.set v))
theorem laid3_f {n0 : Nat} {v c p u1 u2 : Value} {V : World} (h : V.heap[n0 + 1]? = some (.cells #[u1, u2] 26 (0, 0))) : (laid3 n0 v c p V).heap[n0 + 1]? = some (.cells #[c, p] 26 (0, 0)) :=
  set3 (set2 ((Below.heap_setCell _ _ _ _ (by show n0 + 1 ≠ n0; omega)).trans h))
theorem NX.laid {n0 : Nat} {w V : World} {p : List ByteArray} {x : ByteArray} {code : Int} (h : NS n0 w p V) (ht : Taken p) (hc : (p.length = 31 ∧ code = 61) ∨ (p.length ≠ 31 ∧ chk (bs x) = code ∧ code ≠ 0)) :
    NX n0 w (p ++ [x]) (laid3 n0 (.slice none 0 0) (.int .i64 code) (.int .i64 (atOf p)) V).drew :=
  ⟨⟨p, x, code, rfl, ht, hc, laid3_f h.f⟩, laid3_r h.r, (laid3_below h.below).drew, Nat.le_trans h.size (laid3_keeps _ _ _ _ _).size⟩

set_option maxRecDepth 100000 in
set_option maxHeartbeats 4000000 in
theorem split_walk (a0 : ByteArray) (hs : a0.size ≤ 140737488355328) (hne : bs a0 ≠ []) (r1 : List ByteArray) (r2 r3 : Int) (h : takeNames (piecesOf a0) [] 0 = (r1, r2, r3)) (w : World) :
    Calls Tryd.prog 9 #[.string a0] w fun e w' => ∃ v0_ : Value, e = .returned (.tuple #[v0_, .agg #[.int .i64 r2, .int .i64 r3]]) ∧ Kd.R Kd.string 9 w' w.heap.size (fun _ => True) v0_ r1 ∧ Below w.heap.size w w' := by
  have hnz : a0.toList.isEmpty = false := by rw [toList_bs]; cases hb : bs a0 with | nil => exact absurd hb hne | cons x r => rfl
  refine (callsIn_wide (n := 3)).1 ?_
  refine callsIn_of_wp_marks Tryd.func9 rfl trivial ?_ rfl
  simp only [Tryd.ntmps9, List.size_toArray, List.length_cons, List.length_nil, Nat.reduceAdd, Nat.reduceSub, Array.replicate_succ, Array.replicate_zero, List.push_toArray, List.append_toArray, List.nil_append, List.cons_append]
  gi_wp2_with (refine ⟨trivial, ?_⟩; gi_at_call 18; refine (callsIn_wide.2 (splitSeq_calls a0 _)).mono ?_; rintro e w' ⟨rfl, he⟩; subst he)
  simp only [World.size_alloc, Nat.add_assoc, Nat.reduceAdd]
  have hz := start_size a0 w
  have hns := start_ns a0 w
  have hsq := start_seq a0 w
  obtain ⟨Wl, hWl⟩ : ∃ Wl, startW a0 w = Wl := ⟨_, rfl⟩
  have hWl' := hWl
  unfold startW at hWl'
  rw [hWl']
  rw [hWl] at hz hns hsq
  clear hWl hWl'
  refine rangeFunc_ab rfl (by omega) (gf := 30) (lb := #[.pointer (some ⟨w.heap.size + 6, 0, none⟩), .pointer (some ⟨w.heap.size + 5, 0, none⟩), .pointer (some ⟨w.heap.size + 7, 0, none⟩)]) rfl trivial (enters_of Tryd.func30 (by kernel_rfl) rfl)
    (encs := fun x : ByteArray => #[.string x]) (Ab := SeqTurn (w.heap.size + 5)) (Kp := SeqKeep (w.heap.size + 5)) (S := fun ys => ys.map bs = cutAt 47 (bs a0)) (Sp := fun pre => pre.map bs <+: cutAt 47 (bs a0))
    (fun l J Jx W hW hJ hJx hY h0 => seq_in Fence.wide _ rfl l (w.heap.size + 5) a0 J Jx hJ hJx hY hs W (SeqAt.below hsq hW) h0)
    (fun A B ht k hk => by obtain ⟨v, rfl⟩ := ht; exact Below.heap_setCell _ _ _ k (by show k ≠ w.heap.size + 5; omega))
    SeqKeep.trans (fun W l o hl k h1 h2 => World.putObj_heap_other (by omega)) (fun _ => rfl)
    (fun pre W => Taken pre ∧ NS w.heap.size w pre W) (fun c s W => c = .ret ∧ NX w.heap.size w s W)
    (fun s A B row hsa hg hr => ⟨hsa.1, hsa.2.own hg (fun r e => by have := hr r e; rwa [hz] at this)⟩)
    (fun c s A B row hsa hg hr => ⟨hsa.1, hsa.2.move (fun k hk => hg.block k (by have := hsa.2.size; omega) (fun e => by have := (hr k e.symm).1; omega)) (hsa.2.below.grown hg (by have := hsa.2.size; omega) (fun k e => by have := (hr k e).1; omega)) hg.size⟩)
    (fun s A B hsa ht => ⟨hsa.1, hsa.2.turn ht⟩)
    (fun c s A B hsa ht => ⟨hsa.1, by
      obtain ⟨v, rfl⟩ := ht
      exact hsa.2.move (fun k hk => Below.heap_setCell _ _ _ k (by show k ≠ w.heap.size + 5; omega)) (hsa.2.below.setCell (p := ⟨w.heap.size + 5, 0, none⟩) (by show w.heap.size ≤ w.heap.size + 5; omega) _) (KeepsWalks.setCell A _ v).size⟩)
    ⟨⟨by decide, by simp⟩, hns⟩
    (fun x => { tmps := #[.string a0, undef, .pointer (some ⟨w.heap.size, 0, none⟩), .pointer (some ⟨w.heap.size + 1, 0, none⟩), .pointer (some ⟨w.heap.size + 3, 0, none⟩), .pointer (some ⟨w.heap.size + 4, 0, none⟩), .string x, undef, .string a0, .bool false, undef,
      .slice (some ⟨w.heap.size + 2, 0, none⟩) 0 0, .string a0, .func (.func 30) #[] #[.pointer (some ⟨w.heap.size + 6, 0, none⟩), .pointer (some ⟨w.heap.size + 5, 0, none⟩), .pointer (some ⟨w.heap.size + 7, 0, none⟩)], .string x,
      undef, undef, undef, undef, undef, undef, undef, undef, undef, undef, undef, undef, undef, undef, undef, undef, undef, undef, undef, undef, undef, undef, undef], defers := [] }) ?assign ?body ?done ?stop
  case assign =>
    intro l x W K hK
    gi_wp2
    exact hK
  case body =>
    rintro l pre x W ⟨ht, hn⟩
    obtain ⟨g, cap, hb, ho, hg⟩ := hn.row
    have hsz := hn.size
    have hmx : Tryd.prog.follows .mixedOrders = true := by kernel_rfl
    have hc := hb.cell
    have hat := hn.at_.cell
    have hrc := hn.r.cell
    have hrf := hn.r.frozen
    have hf0 := f_cell0 hn.f
    have hf1 := f_cell1 hn.f
    have hff0 := f_frozen0 hn.f
    have hff1 := f_frozen1 hn.f
    obtain ⟨i0, hi, hz0, hz1, hz2⟩ := info_parts info9
    have hl31 : pre.length ≤ 31 := ht.1
    by_cases h31 : pre.length = 31
    · have h31' : (pre.length : Int) = 31 := by omega
      gi_wp2
      gi_region_with_o (fail)
      all_goals gi_wp2
      all_goals (try go_bits)
      all_goals exact ⟨(laid3_keeps _ _ _ _ _).trans (KeepsOthers.drew _), rfl, NX.laid (x := x) (code := 61) hn ht (.inl ⟨h31, rfl⟩)⟩
    · have h31' : ¬ (pre.length : Int) = 31 := by omega
      by_cases hch : chk (bs x) = 0
      · gi_wp2_with (first | (refine ⟨trivial, ?_⟩; gi_at_call 16; refine (CallsIn.inRound l (callsIn_wide.2 (name_Check.calls x (chk (bs x)) _ (name_check x)))).mono ?_; rintro e W2 ⟨rfl, hbel⟩; have hn2 := hn.call hbel; obtain ⟨g2, cap2, hb2, ho2, hg2⟩ := hn2.row; have hc2 := hb2.cell; have hat2 := hn2.at_.cell; have hrc2 := hn2.r.cell; have hrf2 := hn2.r.frozen; have hf20 := f_cell0 hn2.f; have hf21 := f_cell1 hn2.f; have hff20 := f_frozen0 hn2.f; have hff21 := f_frozen1 hn2.f) | (gi_at_builtin; refine append_sep _ rfl _ _ 23 rfl w.heap.size 9 i0 _ 16 Tryd.underlying23 hi hz0 hz1 hz2 rfl g2 pre.length cap2 (pre.map Value.string) rfl (ho2.alloc _) ⟨W2.heap.size, 0, none⟩ 1 (.string x) rfl (Boxed.new W2 9 (.string x)).cell rfl rfl (by simp only [maxLen]; omega) (by omega) (by have := hn2.size; simp; omega) ?_; intro g3 cap3 w1 hown3 hgrow3 hg3; obtain ⟨t1, t2, t3⟩ := hn2.took hb2 ho2 hg2 hown3 hgrow3 hg3; have t1c := t1.cell; have t1f := t1.frozen; have t2c := t2.cell; have t2f := t2.frozen))
        obtain ⟨q1, q2, q3⟩ := t3 _ (atOf_snoc pre x).symm
        exact ⟨(keeps_of_below hbel).trans q2, (SeqKeep.call hbel (by omega)).trans q3, ⟨by simp; omega, fun y hy => by
          rcases List.mem_append.1 hy with hy | hy
          · exact ht.2 y hy
          · rw [List.mem_singleton.1 hy]; exact hch⟩, q1⟩
      · gi_wp2_with (refine ⟨trivial, ?_⟩; gi_at_call 16; refine (CallsIn.inRound l (callsIn_wide.2 (name_Check.calls x (chk (bs x)) _ (name_check x)))).mono ?_; rintro e W2 ⟨rfl, hbel⟩; have hn2 := hn.call hbel; obtain ⟨g2, cap2, hb2, ho2, hg2⟩ := hn2.row; have hc2 := hb2.cell; have hat2 := hn2.at_.cell; have hrc2 := hn2.r.cell; have hrf2 := hn2.r.frozen; have hf20 := f_cell0 hn2.f; have hf21 := f_cell1 hn2.f; have hff20 := f_frozen0 hn2.f; have hff21 := f_frozen1 hn2.f)
        gi_region_with_o (fail)
        all_goals gi_wp2
        all_goals (try go_bits)
        all_goals exact ⟨((keeps_of_below hbel).trans (laid3_keeps _ _ _ _ _)).trans (KeepsOthers.drew _), rfl, NX.laid (x := x) (code := chk (bs x)) hn2 ht (.inr ⟨h31, rfl, hch⟩)⟩
  case done =>
    rintro D xs W hD hx ⟨ht, hn⟩ hK
    obtain ⟨g, cap, hb, ho, hg⟩ := hn.row
    have hsz := hn.size
    have hc := hb.cell
    have hrc := hn.r.cell
    have hrf := hn.r.frozen
    have hf0 := f_cell0 hn.f
    have hf1 := f_cell1 hn.f
    have hff0 := f_frozen0 hn.f
    have hff1 := f_frozen1 hn.f
    gi_wp2
    have hK2 : (laid3 w.heap.size (.slice (some ⟨g, 0, none⟩) xs.length cap) (.int .i64 0) (.int .i64 0) W).heap[D]? = some (.deferred (some [])) := (laid3_other (by omega)).trans hK
    refine ⟨by simp, .inl ⟨_, _, rfl, run_takeDeferred hK2, ?_⟩⟩
    have e1 := (takes_done hx ht).symm.trans h
    simp only [Prod.mk.injEq] at e1
    obtain ⟨rfl, rfl, rfl⟩ := e1
    obtain ⟨V, hV⟩ : ∃ V, (laid3 w.heap.size (.slice (some ⟨g, 0, none⟩) xs.length cap) (.int .i64 0) (.int .i64 0) W).putObj D (.deferred none) = V := ⟨_, rfl⟩
    have hV' := hV
    unfold laid3 at hV'
    rw [hV']
    have hk : ∀ k, k ≠ D → V.heap[k]? = (laid3 w.heap.size (.slice (some ⟨g, 0, none⟩) xs.length cap) (.int .i64 0) (.int .i64 0) W).heap[k]? := fun k hk => by rw [← hV]; exact World.putObj_heap_other hk
    have v0 : Boxed V w.heap.size 23 (.slice (some ⟨g, 0, none⟩) xs.length cap) := (hk _ (by omega)).trans (laid3_r hn.r)
    have v1 : V.heap[w.heap.size + 1]? = some (.cells #[.int .i64 0, .int .i64 0] 26 (0, 0)) := (hk _ (by omega)).trans (laid3_f hn.f)
    have k0 := v0.cell
    have k1 := f_cell0 v1
    have k2 := f_cell1 v1
    have hVb : Below w.heap.size w V := by rw [← hV]; exact belowK_b (w := w) (Nat.le_refl _) _ D _ _ (by omega) hK2 rfl rfl |> (laid3_below hn.below).trans
    have hown : V.ownsRow w.heap.size 9 1 (.slice (some ⟨g, 0, none⟩) xs.length cap) xs.length (xs.map Value.string) := by
      have := ownsRow_putObj (own_move (w1 := laid3 w.heap.size (.slice (some ⟨g, 0, none⟩) xs.length cap) (.int .i64 0) (.int .i64 0) W) ho (fun k hk => laid3_other (by
        have : g = k := by simpa [Value.ownBlock] using hk
        omega))) (.deferred none) hK2 rfl
      rwa [hV] at this
    clear hV hV' hk hK2
    refine ⟨.tuple #[.slice (some ⟨g, 0, none⟩) xs.length cap, .agg #[.int .i64 0, .int .i64 0]], ?_, _, rfl, ⟨fun _ _ => trivial, _, hown, ?_⟩, hVb⟩
    · simp [results, Tryd.results9, go_sem, k0, k1, k2]
    · refine ⟨by simp [Kd.string, Kd.scalar], fun j p hj => ?_⟩
      obtain ⟨hlt, e⟩ := List.getElem?_eq_some_iff.1 hj
      subst e
      simp [Kd.string, Kd.scalar, List.drop_eq_getElem_cons, hlt]
  case stop =>
    rintro D c s W hD hsp ⟨rfl, hn⟩ hK
    obtain ⟨p, x, code, rfl, ht, hc, hf⟩ := hn.ex
    have hsz := hn.size
    gi_wp2
    refine ⟨by simp, .inl ⟨_, _, rfl, run_takeDeferred hK, ?_⟩⟩
    have e1 := (takes_stop hsp ht hc).symm.trans h
    simp only [Prod.mk.injEq] at e1
    obtain ⟨rfl, rfl, rfl⟩ := e1
    obtain ⟨V, hV⟩ : ∃ V, W.putObj D (.deferred none) = V := ⟨_, rfl⟩
    rw [hV]
    have hk : ∀ k, k ≠ D → V.heap[k]? = W.heap[k]? := fun k hk => by rw [← hV]; exact World.putObj_heap_other hk
    have v0 : Boxed V w.heap.size 23 (.slice none 0 0) := (hk _ (by omega)).trans hn.r
    have v1 : V.heap[w.heap.size + 1]? = some (.cells #[.int .i64 code, .int .i64 (atOf p)] 26 (0, 0)) := (hk _ (by omega)).trans hf
    have k0 := v0.cell
    have k1 := f_cell0 v1
    have k2 := f_cell1 v1
    have hVb : Below w.heap.size w V := by rw [← hV]; exact belowK_b (w := w) (Nat.le_refl _) _ D _ _ (by omega) hK rfl rfl |> hn.below.trans
    clear hV hk
    refine ⟨.tuple #[.slice none 0 0, .agg #[.int .i64 code, .int .i64 (atOf p)]], ?_, _, rfl, Kd.R_nil _ _ _ _ _, hVb⟩
    simp [results, Tryd.results9, go_sem, k0, k1, k2]
set_option maxRecDepth 100000 in
set_option maxHeartbeats 4000000 in
theorem split_empty (a0 : ByteArray) (hne : bs a0 = []) (w : World) :
    Calls Tryd.prog 9 #[.string a0] w fun e w' => ∃ v0_ : Value, e = .returned (.tuple #[v0_, .agg #[.int .i64 0, .int .i64 0]]) ∧ Kd.R Kd.string 9 w' w.heap.size (fun _ => True) v0_ ([] : List ByteArray) ∧ Below w.heap.size w w' := by
  have hnz : a0.toList.isEmpty = true := by rw [toList_bs, hne]; rfl
  refine (callsIn_wide (n := 3)).1 ?_
  refine callsIn_of_wp_marks Tryd.func9 rfl trivial ?_ rfl
  simp only [Tryd.ntmps9, List.size_toArray, List.length_cons, List.length_nil, Nat.reduceAdd, Nat.reduceSub, Array.replicate_succ, Array.replicate_zero, List.push_toArray, List.append_toArray, List.nil_append, List.cons_append]
  gi_wp2
  obtain ⟨V, hV⟩ : ∃ V, (w.alloc (.cells #[.slice none 0 0] 23)).alloc (.cells #[.int .i64 0, .int .i64 0] 26) = V := ⟨_, rfl⟩
  have v0 : Boxed V w.heap.size 23 (.slice none 0 0) := by rw [← hV]; exact (Boxed.new w _ _).alloc _
  have v1 : V.heap[w.heap.size + 1]? = some (.cells #[.int .i64 0, .int .i64 0] 26 (0, 0)) := by
    have := World.alloc_heap_new (w.alloc (.cells #[.slice none 0 0] 23)) (.cells #[.int .i64 0, .int .i64 0] 26)
    rwa [World.size_alloc, hV] at this
  have k0 := v0.cell
  have k1 := f_cell0 v1
  have k2 := f_cell1 v1
  have hVb : Below w.heap.size w V := by rw [← hV]; exact ((Below.refl _ w).alloc (Nat.le_refl _) _).alloc (by simp) _
  rw [hV]
  clear hV
  refine ⟨.tuple #[.slice none 0 0, .agg #[.int .i64 0, .int .i64 0]], ?_, _, rfl, Kd.R_nil _ _ _ _ _, hVb⟩
  simp [results, Tryd.results9, go_sem, k0, k1, k2]
theorem name_Split.calls (a0 : ByteArray) (r1 : List ByteArray) (r2 : Int) (r3 : Int) (w : World) (h : name_Split.f a0 = some (r1, r2, r3)) :
    Calls Tryd.prog 9 #[.string a0] w fun e w' => ∃ v0_ : Value, e = .returned (.tuple #[v0_, .agg #[.int .i64 r2, .int .i64 r3]]) ∧ Kd.R Kd.string 9 w' w.heap.size (fun _ => True) v0_ r1 ∧ Below w.heap.size w w' := by
  unfold name_Split.f at h
  split at h
  case isFalse => cases h
  case isTrue hs =>
    split at h
    case isTrue hb =>
      cases h
      exact split_empty a0 hb w
    case isFalse hb => exact split_walk a0 hs hb r1 r2 r3 (Option.some.inj h) w
end Go.Proofs.YtabgpdpdgkgmbaaDoor.Q
