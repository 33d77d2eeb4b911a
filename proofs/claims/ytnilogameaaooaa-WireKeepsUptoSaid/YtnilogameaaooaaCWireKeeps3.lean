/- Texts of this claim, put together: SplitText, SplitMain, RefNum, RefOne, ExtRepeat, ExtWireText, RefRead, Q31, Q32. -/
import Derived.Test.YtnilogameaaooaaCWireKeeps2
import Derived.Test.YtnilogameaaooaaCWireKeeps1
import Derived.Test.YtnilogameaaooaaShelf
/- A text's bytes and its padding, to the plain reader. -/
namespace Go.Proofs.Ytnilogameaaooaa.Rdr
open Go.RowKit Go.Proofs.Ytnilogameaaooaa.Q Go.Proofs.Ytnilogameaaooaa.Tail Go.Proofs.YtnilogameaaooaaW.PrintWords Go.Proofs.YtnilogameaaooaaW.PrintLast Go.Proofs.YtnilogameaaooaaW.PrintMore Go.Proofs.Ytnilogameaaooaa.Bytes
set_option linter.unusedVariables false
set_option linter.unusedSimpArgs false

/-- A reader at the beginning of a text's n bytes, n at least 1. -/
structure Txt (p : Ps) (n : Nat) : Prop where
  body : Body p
  pos : 1 ≤ n
  state : p.state = 1
  need : p.need = (n : Int)
  num : p.num = (n : Int)
  text : p.text = []
  letter : bt p.plan p.item ≠ 105
/-- The same reader otherwise. -/
structure Like (p q : Ps) : Prop where
  code : q.code = p.code
  place : q.place = p.place
  shut : q.shut = p.shut
  plan : q.plan = p.plan
  item : q.item = p.item
  most : q.most = p.most
theorem split_at (r : List Int) (n : Nat) (h1 : 1 ≤ n) (h : n ≤ r.length) : ∃ y, r = r.take (n - 1) ++ y :: r.drop n ∧ r.take n = r.take (n - 1) ++ [y] := by
  have hlt : n - 1 < r.length := by omega
  refine ⟨r[n - 1], ?_, ?_⟩
  · have e := List.drop_eq_getElem_cons hlt
    rw [show n - 1 + 1 = n by omega] at e
    rw [← e, List.take_append_drop]
  · have e : r.take (n - 1 + 1) = r.take (n - 1) ++ r[n - 1]?.toList := List.take_add_one
    rw [show n - 1 + 1 = n by omega, List.getElem?_eq_getElem hlt] at e
    exact e
theorem text_cut {p : Ps} {n : Nat} (h : Txt p n) (r : List Int) (hr : r.length < n) : ∃ q, feed p r = (q, []) ∧ Like p q ∧ q.taken = p.taken + r.length := by
  obtain ⟨_, e⟩ := text_app r p [] h.body h.state (by rw [h.need]; omega)
  rw [List.append_nil] at e
  rw [e]
  exact ⟨_, rfl, ⟨rfl, rfl, rfl, rfl, rfl, rfl⟩, rfl⟩
/-- All the bytes of the text are there: what comes then. -/
theorem text_full {p : Ps} {n : Nat} (h : Txt p n) (r : List Int) (hr : n ≤ r.length) : ∃ q : Ps, feed p r = ((feed (nx q).2 (r.drop n)).1, (nx q).1.toList ++ (feed (nx q).2 (r.drop n)).2) ∧ Like p q ∧ q.taken = p.taken + n ∧ q.text = r.take n ∧ q.state = 1 ∧ q.num = (n : Int) := by
  obtain ⟨y, e1, e2⟩ := split_at r n h.pos hr
  have hl : (r.take (n - 1)).length = n - 1 := by rw [List.length_take]; omega
  obtain ⟨hb, e3⟩ := text_app (r.take (n - 1)) p (y :: r.drop n) h.body h.state (by rw [h.need, hl]; have := h.pos; omega)
  have hn1 : p.need - ((r.take (n - 1)).length : Int) = 1 := by rw [h.need, hl]; have := h.pos; omega
  have e4 := text_done hb h.state hn1 y (r.drop n) rfl
  refine ⟨_, (congrArg (feed p) e1).trans (e3.trans e4), ⟨rfl, rfl, rfl, rfl, rfl, rfl⟩, ?_, ?_, h.state, h.num⟩
  · show p.taken + ((r.take (n - 1)).length : Int) + 1 = p.taken + (n : Int)
    rw [hl]; have := h.pos; omega
  · show (p.text ++ r.take (n - 1)) ++ [y] = r.take n
    rw [h.text, List.nil_append, e2]
theorem padOf_mod (n : Nat) (h : n % 8 ≠ 0) : ((padOf n : Nat) : Int) = 8 - (n : Int) % 8 := by unfold padOf; omega
theorem padOf_zero (n : Nat) (h : n % 8 = 0) : padOf n = 0 := by unfold padOf; omega
theorem text_bad {p : Ps} {n : Nat} (h : Txt p n) (r : List Int) {j : Nat} (hj : firstNZ ((r.drop n).take (padOf n)) = some j) :
    ∃ q, feed p r = (q, []) ∧ q.code = 7 ∧ q.place = p.taken + n + j ∧ q.taken = p.taken + n + j ∧ q.item = p.item ∧ q.plan = p.plan ∧ q.shut = p.shut := by
  obtain ⟨c, t, hc, et⟩ := firstNZ_some _ j hj
  have hlen : j < (r.drop n).length ∧ j < padOf n := by
    have := congrArg List.length et
    simp only [List.length_take, List.length_append, List.length_replicate, List.length_cons] at this
    omega
  have hr : n ≤ r.length := by have := hlen.1; rw [List.length_drop] at this; omega
  have hm : n % 8 ≠ 0 := fun q => by have := padOf_zero n q; omega
  obtain ⟨q, e1, hk, ht, hx, hs, hnum⟩ := text_full h r hr
  have e2 : nx q = (none, { q with state := 2, need := 8 - q.num % 8 }) := by
    unfold nx
    rw [if_neg (by rw [hk.plan, hk.item]; exact h.letter), if_neg (by omega), if_pos ⟨hs, by rw [hnum]; omega⟩]
  rw [e2] at e1
  have hneed : 8 - q.num % 8 = ((padOf n : Nat) : Int) := by rw [hnum, padOf_mod n hm]
  have hb : Body { q with state := 2, need := 8 - q.num % 8 } := ⟨by rw [← h.body.code]; exact hk.code, by rw [← h.body.shut]; exact hk.shut, by show q.item < (q.plan.size : Int); rw [hk.item, hk.plan]; exact h.body.item, by show 1 ≤ 8 - q.num % 8; omega⟩
  have es : r.drop n = List.replicate j 0 ++ (c :: (t ++ (r.drop n).drop (padOf n))) := by
    refine (List.take_append_drop (padOf n) (r.drop n)).symm.trans ?_
    rw [et, List.append_assoc, List.cons_append]
  obtain ⟨hb2, e3⟩ := pad_app j _ (c :: (t ++ (r.drop n).drop (padOf n))) hb rfl (by show (j : Int) < 8 - q.num % 8; rw [hneed]; omega)
  have e4 := pad_bad hb2 rfl hc (t ++ (r.drop n).drop (padOf n))
  have e5 : feed { q with state := 2, need := 8 - q.num % 8 } (r.drop n) = _ := (congrArg (feed _) es).trans (e3.trans e4)
  simp only at e1
  rw [e5] at e1
  refine ⟨_, e1, rfl, ?_, ?_, hk.item, hk.plan, hk.shut⟩
  · show q.taken + (j : Int) = _
    rw [ht]
  · show q.taken + (j : Int) = _
    rw [ht]
/-- The padding is not whole yet, or the text is not. -/
theorem text_short {p : Ps} {n : Nat} (h : Txt p n) (r : List Int) (hz : firstNZ ((r.drop n).take (padOf n)) = none) (hr : r.length < n + padOf n) :
    ∃ q, feed p r = (q, []) ∧ Like p q ∧ q.taken = p.taken + r.length := by
  by_cases hn : r.length < n
  · exact text_cut h r hn
  · have hr2 : n ≤ r.length := by omega
    have hm : n % 8 ≠ 0 := fun q => by have := padOf_zero n q; omega
    obtain ⟨q, e1, hk, ht, hx, hs, hnum⟩ := text_full h r hr2
    have e2 : nx q = (none, { q with state := 2, need := 8 - q.num % 8 }) := by
      unfold nx
      rw [if_neg (by rw [hk.plan, hk.item]; exact h.letter), if_neg (by omega), if_pos ⟨hs, by rw [hnum]; omega⟩]
    rw [e2] at e1
    have hneed : 8 - q.num % 8 = ((padOf n : Nat) : Int) := by rw [hnum, padOf_mod n hm]
    have hb : Body { q with state := 2, need := 8 - q.num % 8 } := ⟨by rw [← h.body.code]; exact hk.code, by rw [← h.body.shut]; exact hk.shut, by show q.item < (q.plan.size : Int); rw [hk.item, hk.plan]; exact h.body.item, by show 1 ≤ 8 - q.num % 8; omega⟩
    have hd : (r.drop n).length < padOf n := by rw [List.length_drop]; omega
    rw [List.take_of_length_le (by omega)] at hz
    have es := firstNZ_none _ hz
    obtain ⟨_, e3⟩ := pad_app (r.drop n).length _ [] hb rfl (by show (((r.drop n).length : Nat) : Int) < 8 - q.num % 8; rw [hneed]; omega)
    rw [List.append_nil, ← es] at e3
    simp only at e1
    rw [e3] at e1
    refine ⟨_, e1, ⟨hk.code, hk.place, hk.shut, hk.plan, hk.item, hk.most⟩, ?_⟩
    show q.taken + (((r.drop n).length : Nat) : Int) = _
    rw [ht, List.length_drop]
    omega
/-- The text and its padding are whole. -/
theorem text_whole {p : Ps} {n : Nat} (h : Txt p n) (r : List Int) (hz : firstNZ ((r.drop n).take (padOf n)) = none) (hr : n + padOf n ≤ r.length) :
    ∃ q : Ps, feed p r = ((feed q.next (r.drop (n + padOf n))).1, (some (⟨false, 0, strOfNums (r.take n)⟩ : S55)).toList ++ (feed q.next (r.drop (n + padOf n))).2) ∧ Like p q ∧ q.taken = p.taken + n + padOf n := by
  obtain ⟨q, e1, hk, ht, hx, hs, hnum⟩ := text_full h r (by omega)
  by_cases hm : n % 8 = 0
  · have e2 : nx q = (some ⟨false, 0, strOfNums q.text⟩, q.next) := by
      unfold nx
      rw [if_neg (by rw [hk.plan, hk.item]; exact h.letter), if_neg (by omega), if_neg (fun z => z.2 (by rw [hnum]; omega))]
    rw [e2, hx] at e1
    refine ⟨q, ?_, hk, by rw [ht, padOf_zero n hm]; simp⟩
    rw [padOf_zero n hm, Nat.add_zero]
    exact e1
  · have e2 : nx q = (none, { q with state := 2, need := 8 - q.num % 8 }) := by
      unfold nx
      rw [if_neg (by rw [hk.plan, hk.item]; exact h.letter), if_neg (by omega), if_pos ⟨hs, by rw [hnum]; omega⟩]
    rw [e2] at e1
    have hneed : 8 - q.num % 8 = ((padOf n : Nat) : Int) := by rw [hnum, padOf_mod n hm]
    have hb : Body { q with state := 2, need := 8 - q.num % 8 } := ⟨by rw [← h.body.code]; exact hk.code, by rw [← h.body.shut]; exact hk.shut, by show q.item < (q.plan.size : Int); rw [hk.item, hk.plan]; exact h.body.item, by show 1 ≤ 8 - q.num % 8; omega⟩
    have hp : 1 ≤ padOf n := by unfold padOf; omega
    have hlt : ((r.drop n).take (padOf n)).length = padOf n := by rw [List.length_take, List.length_drop]; omega
    have es := firstNZ_none _ hz
    rw [hlt] at es
    have ed : r.drop n = List.replicate (padOf n - 1) 0 ++ (0 :: r.drop (n + padOf n)) := by
      refine (List.take_append_drop (padOf n) (r.drop n)).symm.trans ?_
      rw [es, List.drop_drop]
      have : List.replicate (padOf n) (0 : Int) = List.replicate (padOf n - 1) 0 ++ [0] := by
        rw [← List.replicate_succ', show padOf n - 1 + 1 = padOf n by omega]
      rw [this, List.append_assoc]
      rfl
    obtain ⟨hb2, e3⟩ := pad_app (padOf n - 1) _ (0 :: r.drop (n + padOf n)) hb rfl (by show ((padOf n - 1 : Nat) : Int) < 8 - q.num % 8; rw [hneed]; omega)
    obtain ⟨u, hu⟩ : ∃ u : Ps, u = { q with state := 2, need := 0, taken := q.taken + ((padOf n - 1 : Nat) : Int) + 1 } := ⟨_, rfl⟩
    have e4 := pad_done hb2 rfl (by show 8 - q.num % 8 - ((padOf n - 1 : Nat) : Int) = 1; rw [hneed]; omega) (r.drop (n + padOf n)) (q := u) hu
    have e5 : feed { q with state := 2, need := 8 - q.num % 8 } (r.drop n) = _ := (congrArg (feed _) ed).trans (e3.trans e4)
    simp only at e1
    rw [e5] at e1
    have e6 : ∀ (u : Ps), u.plan = q.plan → u.item = q.item → u.state = 2 → u.text = q.text → nx u = (some ⟨false, 0, strOfNums q.text⟩, u.next) := by
      intro u u1 u2 u3 u4
      unfold nx
      rw [if_neg (by rw [u1, u2, hk.plan, hk.item]; exact h.letter), if_neg (by omega), if_neg (by omega), u4]
    rw [e6 u (by rw [hu]) (by rw [hu]) (by rw [hu]) (by rw [hu]), hx] at e1
    refine ⟨u, e1, ⟨by rw [hu]; exact hk.code, by rw [hu]; exact hk.place, by rw [hu]; exact hk.shut, by rw [hu]; exact hk.plan, by rw [hu]; exact hk.item, by rw [hu]; exact hk.most⟩, ?_⟩
    rw [hu]
    show q.taken + ((padOf n - 1 : Nat) : Int) + 1 = _
    rw [ht]
    omega
end Go.Proofs.Ytnilogameaaooaa.Rdr
/- What a whole text is to the plain reader: feed is parse. -/
namespace Go.Proofs.Ytnilogameaaooaa.Rdr
open Go.RowKit Go.Proofs.Ytnilogameaaooaa.Q Go.Proofs.Ytnilogameaaooaa.Tail Go.Proofs.YtnilogameaaooaaW.PrintWords Go.Proofs.YtnilogameaaooaaW.PrintLast Go.Proofs.YtnilogameaaooaaW.PrintMore Go.Proofs.Ytnilogameaaooaa.Bytes
set_option linter.unusedVariables false
set_option linter.unusedSimpArgs false

theorem split8 (b : List Int) (h : 8 ≤ b.length) : ∃ xs y rest, xs.length = 7 ∧ b = xs ++ y :: rest ∧ b.take 8 = xs ++ [y] ∧ b.drop 8 = rest := by
  obtain ⟨y, e1, e2⟩ := split_at b 8 (by omega) h
  exact ⟨b.take 7, y, b.drop 8, by rw [List.length_take]; omega, e1, e2, rfl⟩
theorem answers_of_next {p q : Ps} {it : S55} {b r : List Int} {s : List S55 × Int × Int × Int} (e : feed p b = ((feed q.next r).1, (some it).toList ++ (feed q.next r).2)) (h : Answers q.next (feed q.next r) s) (hi : q.item = p.item) (hp : q.plan = p.plan) : Answers p (feed p b) (it :: s.1, s.2) := by
  rw [e]
  exact answers_cons h hi hp
theorem feed_parse : ∀ (l : List UInt8) (p : Ps) (b : List Int), Fresh p → 0 ≤ p.item → (bs p.plan).drop p.item.toNat = l → p.item ≤ (p.plan.size : Int) → (∀ c ∈ l, c = 105 ∨ c = 116) → 0 ≤ p.most → Byts b → Answers p (feed p b) (parse p.most l b p.taken)
  | [], p, b, hF, h0, hl, hi, _, _, _ => by
    have hit : p.item = (p.plan.size : Int) := by
      have := congrArg List.length hl
      rw [List.length_drop, ← size_bs] at this
      simp at this
      omega
    cases b with
    | nil =>
      have e : parse p.most [] [] p.taken = ([], 0, 0, p.taken) := by simp only [parse]; rfl
      rw [e]
      exact ⟨rfl, hF.code, hF.place, rfl, by show p.item = p.item + ((0 : Nat) : Int); omega, rfl, hF.shut⟩
    | cons c cs =>
      have e : parse p.most [] (c :: cs) p.taken = ([], 5, p.taken, p.taken) := by simp only [parse]; rw [if_neg (by simp)]
      rw [e, feed_trail (stop_of hF.code hF.shut) hit]
      exact ⟨rfl, rfl, rfl, rfl, by show p.item = p.item + ((0 : Nat) : Int); omega, rfl, hF.shut⟩
  | c :: l, p, b, hF, h0, hl, hi, hlet, hm, hb => by
    have hlen : p.item.toNat < (bs p.plan).length := by
      have := congrArg List.length hl
      rw [List.length_drop, List.length_cons] at this
      omega
    have hit : p.item < (p.plan.size : Int) := by rw [← size_bs] at hlen; omega
    obtain ⟨k, hk⟩ := Int.eq_ofNat_of_zero_le h0
    have hks : k < p.plan.size := by omega
    have hcd := List.drop_eq_getElem_cons hlen
    rw [hl] at hcd
    have hce : c = (bs p.plan)[p.item.toNat] := (List.cons.inj hcd).1
    have hle : l = (bs p.plan).drop (p.item.toNat + 1) := (List.cons.inj hcd).2
    have hbt : bt p.plan p.item = (c.toNat : Int) := by
      rw [bt_bs, List.getD_eq_getElem?_getD, List.getElem?_eq_getElem hlen, ← hce]
      rfl
    have hd : Head p := ⟨hF.code, hF.shut, hit, hF.state, by rw [hF.need]; omega, by rw [hF.num, hF.need]; decide⟩
    have hih : ∀ (q : Ps) (r : List Int), q.code = 0 → q.place = 0 → q.shut = false → q.item = p.item → q.plan = p.plan → q.most = p.most → Byts r → Answers q.next (feed q.next r) (parse p.most l r q.taken) := by
      intro q r q1 q2 q3 q4 q5 q6 q7
      have hdr : (bs q.next.plan).drop q.next.item.toNat = l := by
        show (bs q.plan).drop (q.item + 1).toNat = l
        rw [q5, q4, hle]
        congr 1
        omega
      have := feed_parse l q.next r (fresh_next q1 q2 q3) (by show 0 ≤ q.item + 1; omega) hdr (by show q.item + 1 ≤ (q.plan.size : Int); rw [q5]; omega) (fun d hd => hlet d (List.mem_cons_of_mem _ hd)) (by show 0 ≤ q.most; omega) q7
      have e1 : q.next.most = p.most := q6
      have e2 : q.next.taken = q.taken := rfl
      rw [e1, e2] at this
      exact this
    by_cases h8 : b.length < 8
    · have e : parse p.most (c :: l) b p.taken = ([], 0, 0, p.taken + b.length) := by simp only [parse]; rw [if_pos h8]
      obtain ⟨_, e1⟩ := head_app b p [] hd hb (by rw [hF.need]; omega)
      rw [List.append_nil] at e1
      rw [e, e1]
      exact ⟨rfl, hF.code, hF.place, rfl, by show p.item = p.item + ((0 : Nat) : Int); omega, rfl, hF.shut⟩
    · obtain ⟨xs, y, rest, hx7, hbe, ht8, hd8⟩ := split8 b (by omega)
      have hby := hb
      rw [hbe] at hby
      obtain ⟨hbx, hbyr⟩ := hby.app
      obtain ⟨hy, hbr⟩ := hbyr.cons
      obtain ⟨hd1, e1⟩ := head_app xs p (y :: rest) hd hbx (by rw [hF.need, hx7]; omega)
      rw [← hbe] at e1
      obtain ⟨p1, hp1⟩ : ∃ p1 : Ps, p1 = { p with num := p.num + 256 ^ (8 - p.need).toNat * val xs, need := p.need - xs.length, taken := p.taken + xs.length } := ⟨_, rfl⟩
      rw [← hp1] at hd1 e1
      have n1 : p1.need = 1 := by rw [hp1]; show p.need - (xs.length : Int) = 1; rw [hF.need, hx7]; rfl
      have hpw : (256 : Int) ^ (8 - (8 : Int)).toNat = 1 := by decide
      have hN : p1.num + 256 ^ (8 - p1.need).toNat * y = val (b.take 8) := by
        rw [n1, hp1, ht8, val_app, hx7]
        show p.num + 256 ^ (8 - p.need).toNat * val xs + 256 ^ (8 - (1 : Int)).toNat * y = _
        rw [hF.num, hF.need, hpw]
        have : (8 - (1 : Int)).toNat = 7 := rfl
        rw [this]
        simp [val]
      have hV0 : 0 ≤ val (b.take 8) := val_nonneg _ (fun x hx => hb x (List.mem_of_mem_take hx))
      simp only [parse]
      rw [if_neg h8]
      generalize val (b.take 8) = V at hN hV0 ⊢
      rw [hd8]
      have f1 : p1.code = 0 := by rw [hp1]; exact hF.code
      have f2 : p1.place = 0 := by rw [hp1]; exact hF.place
      have f3 : p1.shut = false := by rw [hp1]; exact hF.shut
      have f4 : p1.item = p.item := by rw [hp1]
      have f5 : p1.plan = p.plan := by rw [hp1]
      have f6 : p1.most = p.most := by rw [hp1]
      have f7 : p1.taken = p.taken + 7 := by rw [hp1]; show p.taken + (xs.length : Int) = _; rw [hx7]; rfl
      have f8 : p1.start = p.taken := by rw [hp1]; exact hF.start
      have f9 : p1.text = [] := by rw [hp1]; exact hF.text
      have f10 : p1.state = 0 := by rw [hp1]; exact hF.state
      obtain ⟨q, hq⟩ : ∃ q : Ps, q = { p1 with num := p1.num + 256 ^ (8 - p1.need).toNat * y, need := 0, taken := p1.taken + 1 } := ⟨_, rfl⟩
      have g1 : q.code = 0 := by rw [hq]; exact f1
      have g2 : q.place = 0 := by rw [hq]; exact f2
      have g3 : q.shut = false := by rw [hq]; exact f3
      have g4 : q.item = p.item := by rw [hq]; exact f4
      have g5 : q.plan = p.plan := by rw [hq]; exact f5
      have g6 : q.most = p.most := by rw [hq]; exact f6
      have g7 : q.taken = p.taken + 8 := by rw [hq]; show p1.taken + 1 = _; omega
      have g8 : q.num = V := by rw [hq]; exact hN
      have g9 : q.text = [] := by rw [hq]; exact f9
      have g10 : q.state = 0 := by rw [hq]; exact f10
      have gb : bt q.plan q.item = (c.toNat : Int) := by rw [g5, g4]; exact hbt
      by_cases hc5 : c = 105
      · rw [if_pos hc5]
        have hb5 : bt q.plan q.item = 105 := by rw [gb, hc5]; rfl
        have e2 := head_done hd1 n1 hy (fun z => by have := z.1; rw [f5, f4, hbt, hc5] at this; exact absurd this (by decide)) rest hq
        have e3 : nx q = (some ⟨true, V, ⟨#[]⟩⟩, q.next) := by unfold nx; rw [if_pos hb5, g8]
        rw [e3] at e2
        have := hih q rest g1 g2 g3 g4 g5 g6 hbr
        rw [g7] at this
        exact answers_of_next (e1.trans e2) this g4 g5
      · rw [if_neg hc5]
        have hc6 : c = 116 := (hlet c List.mem_cons_self).resolve_left hc5
        have hb6 : bt q.plan q.item ≠ 105 := by rw [gb, hc6]; decide
        have hb7 : bt p1.plan p1.item = 116 := by rw [f5, f4, hbt, hc6]; rfl
        by_cases hlong : p.most < V
        · rw [if_pos hlong]
          have e2 := head_long hd1 n1 hy hb7 (by rw [f6, hN]; exact hlong) rest
          rw [e1.trans e2]
          exact ⟨rfl, rfl, f8, f7, by show p1.item = p.item + ((0 : Nat) : Int); omega, f5, f3⟩
        · rw [if_neg hlong]
          have e2 := head_done hd1 n1 hy (fun z => hlong (by have := z.2; rw [f6, hN] at this; exact this)) rest hq
          obtain ⟨n, rfl⟩ := Int.eq_ofNat_of_zero_le hV0
          rw [Int.toNat_natCast]
          by_cases hn0 : n = 0
          · subst hn0
            have hz : padOf 0 = 0 := rfl
            have e3 : nx q = (some ⟨false, 0, strOfNums []⟩, q.next) := by
              unfold nx
              rw [if_neg hb6, if_neg (by rw [g8]; intro z; exact absurd z.2 (by simp)), if_neg (by rw [g10]; intro z; exact absurd z.1 (by decide)), g9]
            rw [e3] at e2
            have := hih q rest g1 g2 g3 g4 g5 g6 hbr
            rw [g7] at this
            rw [hz]
            simp only [List.take_zero, firstNZ, List.drop_zero, Nat.add_zero, Nat.not_lt_zero, if_false]
            have h3 := answers_of_next (e1.trans e2) this g4 g5
            have z2 : p.taken + 8 + ((0 : Nat) : Int) + ((0 : Nat) : Int) = p.taken + 8 := by omega
            rw [z2]
            exact h3
          · have e3 : nx q = (none, { q with state := 1, need := q.num }) := by
              unfold nx
              rw [if_neg hb6, if_pos ⟨g10, by rw [g8]; omega⟩]
            rw [e3] at e2
            obtain ⟨u, hu⟩ : ∃ u : Ps, u = { q with state := 1, need := q.num } := ⟨_, rfl⟩
            rw [← hu] at e2
            have e4 : feed p b = feed u rest := e1.trans e2
            have hT : Txt u n := ⟨⟨by rw [hu]; exact g1, by rw [hu]; exact g3, by rw [hu]; show q.item < (q.plan.size : Int); rw [g4, g5]; exact hit, by rw [hu]; show 1 ≤ q.num; rw [g8]; omega⟩, by omega, by rw [hu], by rw [hu]; exact g8, by rw [hu]; exact g8, by rw [hu]; exact g9, by rw [hu]; exact hb6⟩
            have u7 : u.taken = p.taken + 8 := by rw [hu]; exact g7
            have u4 : u.item = p.item := by rw [hu]; exact g4
            have u5 : u.plan = p.plan := by rw [hu]; exact g5
            have u6 : u.most = p.most := by rw [hu]; exact g6
            have u1 : u.code = 0 := by rw [hu]; exact g1
            have u2 : u.place = 0 := by rw [hu]; exact g2
            have u3 : u.shut = false := by rw [hu]; exact g3
            cases hz : firstNZ ((rest.drop n).take (padOf n)) with
            | some j =>
              obtain ⟨s, s1, s2, s3, s4, s5, s6, s7⟩ := text_bad hT rest hz
              rw [e4, s1]
              exact ⟨rfl, s2, by rw [s3, u7], by rw [s4, u7], by rw [s5, u4]; show p.item = p.item + ((0 : Nat) : Int); omega, by rw [s6, u5], by rw [s7, u3]⟩
            | none =>
              by_cases hsh : rest.length < n + padOf n
              · obtain ⟨s, s1, sk, s2⟩ := text_short hT rest hz hsh
                simp only
                rw [if_pos hsh, e4, s1]
                have hbl : b.length = 8 + rest.length := by rw [hbe, List.length_append, List.length_cons, hx7]; omega
                exact ⟨rfl, by rw [sk.code, u1], by rw [sk.place, u2], by rw [s2, u7]; show _ = p.taken + (b.length : Int); rw [hbl]; omega, by rw [sk.item, u4]; show p.item = p.item + ((0 : Nat) : Int); omega, by rw [sk.plan, u5], by rw [sk.shut, u3]⟩
              · obtain ⟨s, s1, sk, s2⟩ := text_whole hT rest hz (by omega)
                simp only
                rw [if_neg hsh]
                have := hih s (rest.drop (n + padOf n)) (by rw [sk.code, u1]) (by rw [sk.place, u2]) (by rw [sk.shut, u3]) (by rw [sk.item, u4]) (by rw [sk.plan, u5]) (by rw [sk.most, u6]) (fun x hx => hbr x (List.mem_of_mem_drop hx))
                rw [s2, u7] at this
                exact answers_of_next (e4.trans s1) this (by rw [sk.item, u4]) (by rw [sk.plan, u5])
end Go.Proofs.Ytnilogameaaooaa.Rdr
/- depotref03.Num: the number in eight bytes. -/
set_option linter.unusedVariables false
set_option linter.unusedSimpArgs false
namespace Go.Proofs.Ytnilogameaaooaa.Pure
open Go.RowKit Go.Proofs.Ytnilogameaaooaa.Q Go.Proofs.Ytnilogameaaooaa.Rdr Go.Proofs.Ytnilogameaaooaa.Tail Go.Proofs.YtnilogameaaooaaW.PrintWords Go.Proofs.YtnilogameaaooaaW.PrintLast Go.Proofs.YtnilogameaaooaaW.PrintMore Go.Proofs.Ytnilogameaaooaa.Bytes Go.Proofs.Ytnilogameaaooaa.Evs

theorem val_lt : ∀ (l : List Int), Byts l → val l < 256 ^ l.length
  | [], _ => by simp [val]
  | c :: l, h => by
    have h1 := val_lt l h.cons.2
    have h2 := h.cons.1.2
    simp only [val, List.length_cons, Int.pow_succ]
    omega
theorem byts_text (s : ByteArray) : Byts (numsOf s) := numsOf_range s
theorem byts_drop {l : List Int} (h : Byts l) (n : Nat) : Byts (l.drop n) := fun x hx => h x (List.mem_of_mem_drop hx)
theorem byts_take {l : List Int} (h : Byts l) (n : Nat) : Byts (l.take n) := fun x hx => h x (List.mem_of_mem_take hx)
theorem bt_nums (s : ByteArray) (i : Nat) (h : i < s.size) : (numsOf s)[i]? = some (bt s (i : Int)) := by
  rw [bt_get s i h]
  simp only [numsOf, List.getElem?_map, Array.getElem?_toList]
  rw [Array.getElem?_eq_getElem (show i < s.data.size from h)]
  rfl
theorem pow8 (n : Nat) (h : n ≤ 8) : (256 : Int) ^ n ≤ 18446744073709551616 := by
  have h1 : (256 : Nat) ^ n ≤ 256 ^ 8 := Nat.pow_le_pow_right (by omega) h
  have h2 : (256 : Nat) ^ 8 = 18446744073709551616 := by decide
  have h3 : ((256 : Int) ^ n) = ((256 ^ n : Nat) : Int) := by simp
  rw [h3]
  omega
theorem num_step (text : ByteArray) (a : Nat) (h : a + 8 ≤ text.size) (hs : text.size ≤ 1099511627776) : ∀ j : Nat, j ≤ 8 →
    Ev (fun k => depotref03_Num.l0 k text (a : Int) (val ((((numsOf text).drop a).take 8).drop j)) ((j : Int) - 1)) (val (((numsOf text).drop a).take 8)) := by
  intro j
  induction j with
  | zero =>
    intro _
    apply succ
    simp only [depotref03_Num.l0]
    exact neg (by omega) (now (by rw [List.drop_zero]))
  | succ j ih =>
    intro hj
    have ih := ih (by omega)
    have hl8 : (((numsOf text).drop a).take 8).length = 8 := by rw [List.length_take, List.length_drop, numsOf_len]; omega
    have hB : Byts (((numsOf text).drop a).take 8) := byts_take (byts_drop (byts_text text) a) 8
    have hx : (((numsOf text).drop a).take 8)[j]? = some (bt text ((a + j : Nat) : Int)) := by
      rw [List.getElem?_take, if_pos (by omega), List.getElem?_drop]
      exact bt_nums text (a + j) (by omega)
    obtain ⟨hj2, hx2⟩ := List.getElem?_eq_some_iff.1 hx
    have hd := List.drop_eq_getElem_cons hj2
    rw [hx2] at hd
    have hv : val ((((numsOf text).drop a).take 8).drop j) = bt text ((a + j : Nat) : Int) + 256 * val ((((numsOf text).drop a).take 8).drop (j + 1)) := by rw [hd]; rfl
    have hb1 := val_nonneg _ (byts_drop hB (j + 1))
    have hb2 := val_lt _ (byts_drop hB j)
    have hb3 := hB _ (List.mem_of_getElem? hx)
    have hpow : (256 : Int) ^ (((((numsOf text).drop a).take 8).drop j).length) ≤ 18446744073709551616 := by
      rw [List.length_drop, hl8]
      exact pow8 _ (Nat.sub_le _ _)
    clear hd hx hx2
    generalize val ((((numsOf text).drop a).take 8).drop (j + 1)) = V at hv hb1 ⊢
    generalize hb : bt text ((a + j : Nat) : Int) = c at hv hb3
    rw [hv] at hb2
    have hz := Int.lt_of_lt_of_le hb2 hpow
    have HB2 := Aside0.mk hb
    have HV := Aside0.mk hv
    clear hb hv hpow hb2 hB
    apply succ
    simp only [depotref03_Num.l0]
    have e0 : ((j + 1 : Nat) : Int) - 1 = (j : Int) := by omega
    rw [e0]
    have e2 : wrap64 ((a : Int) + (j : Int)) = ((a + j : Nat) : Int) := by rw [w64 (by omega) (by omega)]; omega
    rw [e2, HB2.out]
    refine pos (by omega) (pos (by omega) (pos (by omega) ?_))
    have u : ∀ z : Int, 0 ≤ z → z < 18446744073709551616 → IntKind.u64.wrap z = z := fun z z0 z1 => by
      have : IntKind.u64.wrap z = z % 18446744073709551616 := rfl
      omega
    rw [u (V * 256) (by omega) (by omega), u c (by omega) (by omega), u _ (by omega) (by omega), w64 (x := (j : Int) - 1) (by omega) (by omega), show V * 256 + c = c + 256 * V by omega, ← HV.out]
    exact ih
theorem num_ev (text : ByteArray) (a : Nat) (h : a + 8 ≤ text.size) (hs : text.size ≤ 1099511627776) : Ev (fun k => depotref03_Num.f k text (a : Int)) (val (((numsOf text).drop a).take 8)) := by
  have := num_step text a h hs 8 (Nat.le_refl _)
  rw [List.drop_of_length_le (by rw [List.length_take]; omega)] at this
  exact this
end Go.Proofs.Ytnilogameaaooaa.Pure
/- depotref03.OneText: one framed text, plain. -/
set_option linter.unusedVariables false
set_option linter.unusedSimpArgs false
namespace Go.Proofs.Ytnilogameaaooaa.Pure
open Go.RowKit Go.Proofs.Ytnilogameaaooaa.Q Go.Proofs.Ytnilogameaaooaa.Rdr Go.Proofs.Ytnilogameaaooaa.Tail Go.Proofs.YtnilogameaaooaaW.PrintWords Go.Proofs.YtnilogameaaooaaW.PrintLast Go.Proofs.YtnilogameaaooaaW.PrintMore Go.Proofs.Ytnilogameaaooaa.Bytes Go.Proofs.Ytnilogameaaooaa.Evs

/-- What OneText answers behind the head: the scan of the padding, from place n + e on. -/
def scanR (text : ByteArray) (a n : Nat) (z : Option Nat) (e : Nat) : ByteArray × Int × Int × Int × Int :=
  match z with
  | some j => (⟨#[]⟩, -1, 7, ((a + 8 + n + e + j : Nat) : Int), ((a + 8 + n + e + j : Nat) : Int))
  | none => if text.size - a - 8 < n + padOf n then (⟨#[]⟩, -1, 0, 0, (text.size : Int)) else (text.extract (a + 8) (a + 8 + n), ((a + 8 + n + padOf n : Nat) : Int), 0, 0, 0)
theorem padI (n : Nat) : Int.tmod (8 - Int.tmod (n : Int) 8) 8 = ((padOf n : Nat) : Int) := by
  have h1 : Int.tmod (n : Int) 8 = (n : Int) % 8 := Int.tmod_eq_emod_of_nonneg (by omega)
  rw [h1, Int.tmod_eq_emod_of_nonneg (by omega)]
  unfold padOf
  omega
theorem padW (n : Nat) (h : n ≤ 9223372036854775807) : Int.tmod (wrap64 (8 - Int.tmod (n : Int) 8)) 8 = ((padOf n : Nat) : Int) := by
  have h1 : Int.tmod (n : Int) 8 = (n : Int) % 8 := Int.tmod_eq_emod_of_nonneg (by omega)
  rw [w64 (by rw [h1]; omega) (by rw [h1]; omega)]
  exact padI n
theorem pad8 (n : Nat) : padOf n < 8 := by unfold padOf; omega
theorem scan_in (text : ByteArray) (a n : Nat) (h : a + 8 ≤ text.size) (hs : text.size ≤ 1099511627776) (hn : n ≤ text.size - a - 8) : ∀ (d e : Nat), e + d = padOf n →
    Ev (fun k => depotref03_OneText.l0 k text (a : Int) (n : Int) ((text.size - a - 8 : Nat) : Int) ((n + e : Nat) : Int)) (scanR text a n (firstNZ ((((numsOf text).drop (a + 8 + n)).drop e).take d)) e) := by
  intro d
  have hp := pad8 n
  have hpw := padW n (by omega)
  induction d with
  | zero =>
    intro e he
    apply succ
    simp only [depotref03_OneText.l0]
    rw [hpw, w64 (x := (n : Int) + ((padOf n : Nat) : Int)) (by omega) (by omega)]
    refine neg (by omega) (neg (by omega) ?_)
    rw [w64 (x := ((text.size - a - 8 : Nat) : Int) - (n : Int)) (by omega) (by omega), w64 (x := (a : Int) + 8) (by omega) (by omega), w64 (x := (a : Int) + 8 + (n : Int)) (by omega) (by omega)]
    rw [List.take_zero]
    simp only [firstNZ, scanR]
    by_cases hsh : text.size - a - 8 < n + padOf n
    · rw [if_pos hsh]
      exact pos (by omega) (now rfl)
    · rw [if_neg hsh]
      refine neg (by omega) (pos (by omega) (pos (by omega) (pos (by omega) (now ?_))))
      rw [w64 (by omega) (by omega)]
      have e1 : ((a : Int) + 8).toNat = a + 8 := by omega
      have e2 : ((a : Int) + 8 + (n : Int)).toNat = a + 8 + n := by omega
      rw [e1, e2]
      congr 3
  | succ d ih =>
    intro e he
    have ih := ih (e + 1) (by omega)
    have e1 : ((n + e : Nat) : Int) + 1 = ((n + (e + 1) : Nat) : Int) := by omega
    apply succ
    simp only [depotref03_OneText.l0]
    rw [hpw, w64 (x := (n : Int) + ((padOf n : Nat) : Int)) (by omega) (by omega)]
    refine pos (by omega) ?_
    rw [w64 (x := (a : Int) + 8) (by omega) (by omega), w64 (x := (a : Int) + 8 + ((n + e : Nat) : Int)) (by omega) (by omega), w64 (x := ((n + e : Nat) : Int) + 1) (by omega) (by omega), e1]
    by_cases hi : n + e < text.size - a - 8
    · refine pos (by omega) (pos (by omega) (pos (by omega) ?_))
      have e2 : (a : Int) + 8 + ((n + e : Nat) : Int) = ((a + 8 + n + e : Nat) : Int) := by omega
      rw [e2]
      have hlt : a + 8 + n + e < text.size := by omega
      have hx := bt_nums text (a + 8 + n + e) hlt
      obtain ⟨hl, hx2⟩ := List.getElem?_eq_some_iff.1 hx
      have hd : ((numsOf text).drop (a + 8 + n)).drop e = bt text ((a + 8 + n + e : Nat) : Int) :: ((numsOf text).drop (a + 8 + n)).drop (e + 1) := by
        rw [List.drop_drop, List.drop_drop, List.drop_eq_getElem_cons hl, hx2]
        rfl
      rw [hd, List.take_succ_cons]
      simp only [firstNZ]
      by_cases hz : bt text ((a + 8 + n + e : Nat) : Int) = 0
      · refine pos hz ?_
        rw [if_pos hz]
        refine same ?_ ih
        cases firstNZ ((((numsOf text).drop (a + 8 + n)).drop (e + 1)).take d) with
        | none => rfl
        | some j =>
          simp only [Option.map_some, scanR]
          have : a + 8 + n + e + (j + 1) = a + 8 + n + (e + 1) + j := by clear hx hx2 hd hz; omega
          rw [this]
      · refine neg hz ?_
        rw [if_neg hz]
        exact now rfl
    · refine neg (by omega) ?_
      refine same ?_ ih
      have hd : ∀ m, e ≤ m → ((numsOf text).drop (a + 8 + n)).drop m = [] := fun m hm => by
        rw [List.drop_drop]
        exact List.drop_of_length_le (by rw [numsOf_len]; omega)
      rw [hd e (Nat.le_refl _), hd (e + 1) (Nat.le_succ _)]
      simp only [List.take_nil, firstNZ, scanR]
/-- The text is longer than what is there. -/
theorem scan_out (text : ByteArray) (a n : Nat) (h : a + 8 ≤ text.size) (hs : text.size ≤ 1099511627776) (hn : text.size - a - 8 < n) (hm : n ≤ 9223372036854775807) : ∀ (d e : Nat), e + d = padOf n →
    Ev (fun k => depotref03_OneText.l0 k text (a : Int) (n : Int) ((text.size - a - 8 : Nat) : Int) ((n + e : Nat) : Int)) ((⟨#[]⟩ : ByteArray), -1, 0, 0, (text.size : Int)) ∨ 9223372036854775807 < n + padOf n := by
  intro d
  have hp := pad8 n
  have hpw := padW n hm
  by_cases hov : 9223372036854775807 < n + padOf n
  · exact fun _ _ => .inr hov
  · induction d with
    | zero =>
      intro e he
      left
      apply succ
      simp only [depotref03_OneText.l0]
      rw [hpw, w64 (x := (n : Int) + ((padOf n : Nat) : Int)) (by omega) (by omega)]
      exact neg (by omega) (pos (by omega) (now rfl))
    | succ d ih =>
      intro e he
      have ih := (ih (e + 1) (by omega)).resolve_right hov
      have e1 : ((n + e : Nat) : Int) + 1 = ((n + (e + 1) : Nat) : Int) := by omega
      left
      apply succ
      simp only [depotref03_OneText.l0]
      rw [hpw, w64 (x := (n : Int) + ((padOf n : Nat) : Int)) (by omega) (by omega)]
      refine pos (by omega) (neg (by omega) ?_)
      rw [w64 (x := ((n + e : Nat) : Int) + 1) (by omega) (by omega), e1]
      exact ih
theorem scan_over (text : ByteArray) (a n : Nat) (hn : text.size - a - 8 < n) (hm : n ≤ 9223372036854775807) (hov : 9223372036854775807 < n + padOf n) :
    Ev (fun k => depotref03_OneText.l0 k text (a : Int) (n : Int) ((text.size - a - 8 : Nat) : Int) (n : Int)) ((⟨#[]⟩ : ByteArray), -1, 0, 0, (text.size : Int)) := by
  have hp := pad8 n
  have hpw := padW n hm
  apply succ
  simp only [depotref03_OneText.l0]
  rw [hpw]
  have hw : wrap64 ((n : Int) + ((padOf n : Nat) : Int)) < 0 := by
    unfold wrap64
    omega
  refine neg (by omega) (pos (by omega) (now rfl))
/-- OneText, whole. -/
def oneR (text : ByteArray) (a : Nat) (m : Int) : ByteArray × Int × Int × Int × Int :=
  if text.size < a + 8 then (⟨#[]⟩, -1, 0, 0, (text.size : Int))
  else if m < val (((numsOf text).drop a).take 8) then (⟨#[]⟩, -1, 6, (a : Int), (a : Int) + 7)
  else scanR text a (val (((numsOf text).drop a).take 8)).toNat (firstNZ (((numsOf text).drop (a + 8 + (val (((numsOf text).drop a).take 8)).toNat)).take (padOf (val (((numsOf text).drop a).take 8)).toNat))) 0
theorem one_ev (text : ByteArray) (a : Nat) (m : Int) (ha : a ≤ text.size) (hs : text.size ≤ 1099511627776) (h0 : 0 ≤ m) (h1 : m ≤ 9223372036854775807) : Ev (fun k => depotref03_OneText.f k text (a : Int) m) (oneR text a m) := by
  unfold oneR
  simp only [depotref03_OneText.f]
  rw [w64 (x := (text.size : Int) - 8) (by omega) (by omega)]
  by_cases h8 : text.size < a + 8
  · rw [if_pos h8]
    exact pos (by omega) (now rfl)
  · rw [if_neg h8]
    refine neg (by omega) (Ev.bind (num_ev text a (by omega) hs) ?_)
    have hV := val_nonneg _ (byts_take (byts_drop (byts_text text) a) 8)
    generalize val (((numsOf text).drop a).take 8) = V at hV ⊢
    obtain ⟨n, rfl⟩ := Int.eq_ofNat_of_zero_le hV
    have hmw : IntKind.u64.wrap m = m := by
      have : IntKind.u64.wrap m = m % 18446744073709551616 := rfl
      omega
    rw [hmw, w64 (x := (a : Int) + 7) (by omega) (by omega)]
    by_cases hl : m < (n : Int)
    · rw [if_pos hl]
      exact pos hl (now rfl)
    · rw [if_neg hl, Int.toNat_natCast]
      refine neg hl ?_
      rw [w64 (x := (n : Int)) (by omega) (by omega), w64 (x := (text.size : Int) - (a : Int)) (by omega) (by omega), w64 (x := (text.size : Int) - (a : Int) - 8) (by omega) (by omega)]
      have e1 : (text.size : Int) - (a : Int) - 8 = ((text.size - a - 8 : Nat) : Int) := by omega
      rw [e1]
      by_cases hn : n ≤ text.size - a - 8
      · have := scan_in text a n (by omega) hs hn (padOf n) 0 (by omega)
        rw [List.drop_zero, Nat.add_zero] at this
        exact this
      · have hz : ((numsOf text).drop (a + 8 + n)).take (padOf n) = [] := by
          rw [List.drop_of_length_le (by rw [numsOf_len]; omega), List.take_nil]
        rw [hz]
        simp only [firstNZ, scanR]
        rw [if_pos (by omega)]
        rcases scan_out text a n (by omega) hs (by omega) (by omega) (padOf n) 0 (by omega) with this | hov
        · rw [Nat.add_zero] at this
          exact this
        · exact scan_over text a n (by omega) (by omega) hov
end Go.Proofs.Ytnilogameaaooaa.Pure
/- strings.Repeat by the library's own contract. -/
namespace Go.Proofs.Ytnilogameaaooaa.Q
open Go.RowKit Go.Proofs.YtnilogameaaooaaW.PrintWords Go.Proofs.YtnilogameaaooaaW.PrintLast Go.Proofs.YtnilogameaaooaaW.PrintMore Go.Proofs.Ytnilogameaaooaa.Bytes
set_option linter.unusedVariables false
set_option linter.unusedSimpArgs false

def strings_Repeat.f (a0 : ByteArray) (a1 : Int) : Option (ByteArray) := if 0 ≤ a1 ∧ a1 ≤ 9223372036854775807 ∧ a0.size * a1.toNat ≤ 140737488355328 then some ⟨(Lib.repeatL a0.data.toList a1.toNat).toArray⟩ else none
theorem strings_Repeat.calls (a0 : ByteArray) (a1 : Int) (r : ByteArray) (w : World) (h : strings_Repeat.f a0 a1 = some r) :
    Calls Try.prog 33 #[.string a0, .int .i64 a1] w fun e w' => e = .returned (.string r) ∧ Below w.heap.size w w' := by
  unfold strings_Repeat.f at h
  split at h
  case isFalse => exact absurd h (by simp)
  case isTrue hc =>
    obtain rfl := Option.some.inj h
    obtain ⟨n, rfl⟩ := Int.eq_ofNat_of_zero_le hc.1
    refine (Try.strings_Repeat a0 n w (by omega) (by simpa using hc.2.2)).mono ?_
    rintro e w' ⟨rfl, hb⟩
    exact ⟨by simp, hb⟩
end Go.Proofs.Ytnilogameaaooaa.Q
/- wire.Text: its bytes are the document's. -/
namespace Go.Proofs.Ytnilogameaaooaa.Q
open Go.RowKit Go.Proofs.YtnilogameaaooaaW.PrintWords Go.Proofs.YtnilogameaaooaaW.PrintLast Go.Proofs.YtnilogameaaooaaW.PrintMore Go.Proofs.Ytnilogameaaooaa.Bytes Go.Proofs.Ytnilogameaaooaa.Tail
set_option linter.unusedVariables false
set_option linter.unusedSimpArgs false

theorem u64_nat (n : Nat) (h : n < 18446744073709551616) : IntKind.u64.wrap (n : Int) = (n : Int) := by
  have : IntKind.u64.wrap (n : Int) = (n : Int) % 18446744073709551616 := rfl
  omega
theorem bs_strOfNums (l : List Int) : bs (strOfNums l) = l.map fun n => UInt8.ofNat n.toNat := by simp [bs, strOfNums]
theorem bs_numsOf (s : ByteArray) : (numsOf s).map (fun n => UInt8.ofNat n.toNat) = bs s := by
  simp [numsOf, bs, Function.comp_def]
theorem text_size (s : ByteArray) : (strOfNums (frame8 s)).size = 8 + (s.size + padOf s.size) := by
  rw [size_bs, bs_strOfNums, List.length_map, frame8, List.length_append, List.length_append, numsOf_len, List.length_replicate]
  rfl
theorem mk_size (l : List UInt8) : (⟨l.toArray⟩ : ByteArray).size = l.length := rfl
theorem repeatL_one (x : UInt8) : ∀ c, Lib.repeatL [x] c = List.replicate c x
  | 0 => rfl
  | c + 1 => by simp [Lib.repeatL, repeatL_one x c, List.replicate_succ]
def wire_Text.f (a0 : ByteArray) : Option (ByteArray) := if a0.size ≤ 140737488351232 then some (strOfNums (frame8 a0)) else none
set_option maxHeartbeats 1000000 in
set_option maxRecDepth 100000 in
theorem wire_Text.calls (a0 : ByteArray) (r : ByteArray) (w : World) (h : wire_Text.f a0 = some r) :
    Calls Try.prog 15 #[.string a0] w fun e w' => e = .returned (.string r) ∧ Below w.heap.size w w' := by
  unfold wire_Text.f at h
  by_cases hsz : a0.size ≤ 140737488351232
  case neg => rw [if_neg hsz] at h; exact absurd h (by simp)
  rw [if_pos hsz] at h
  have HR := Aside0.mk (Option.some.inj h)
  clear h
  have hp : padOf a0.size < 8 := by unfold padOf; omega
  have he : -((a0.size : Int) % 8) % 8 = ((padOf a0.size : Nat) : Int) := by unfold padOf; omega
  have s8 : (strOfNums (le8 (a0.size : Int))).size = 8 := rfl
  have h1 : (⟨#[0]⟩ : ByteArray).size = 1 := rfl
  have HF : strOfNums (frame8 a0) = strOfNums (le8 (a0.size : Int)) ++ a0 ++ (⟨(Lib.repeatL [0] (padOf a0.size)).toArray⟩ : ByteArray) := by
    apply bs_inj
    rw [bs_append, bs_append, bs_strOfNums, bs_strOfNums, frame8, List.map_append, List.map_append, bs_numsOf, List.append_assoc, repeatL_one]
    congr 2
    rw [bs_mk]
    simp
  have sZ : (⟨(Lib.repeatL [0] (padOf a0.size)).toArray⟩ : ByteArray).size = padOf a0.size := by rw [mk_size, repeatL_one, List.length_replicate]
  have HI := Aside0.mk (show wire_Int.f (a0.size : Int) = some (strOfNums (le8 (a0.size : Int))) from rfl)
  have HP := Aside0.mk (show strings_Repeat.f (⟨#[0]⟩ : ByteArray) (-((a0.size : Int) % 8) % 8) = some ⟨(Lib.repeatL [0] (padOf a0.size)).toArray⟩ by
    unfold strings_Repeat.f
    rw [he, if_pos ⟨by omega, by omega, by rw [h1]; omega⟩, Int.toNat_natCast])
  generalize strOfNums (le8 (a0.size : Int)) = X at s8 HF HI
  generalize (⟨(Lib.repeatL [0] (padOf a0.size)).toArray⟩ : ByteArray) = Z at sZ HF HP
  rw [HF] at HR
  have c1 : X.size + a0.size ≤ 9223372036854775807 := by omega
  have c2 : (X ++ a0).size + Z.size ≤ 9223372036854775807 := by rw [ByteArray.size_append]; omega
  have c1b := eq_true c1
  have c1d : decide (X.size + a0.size ≤ 9223372036854775807) = true := decide_eq_true c1
  have c2b := eq_true c2
  have c2d : decide ((X ++ a0).size + Z.size ≤ 9223372036854775807) = true := decide_eq_true c2
  clear he HF s8 sZ h1 hp
  go_enter Try.func15, Try.ntmps15
  go_wp2_with (first | (go_at_call 13; refine (wire_Int.calls _ _ _ HI.out).mono ?_; rintro e w1 ⟨rfl, hb1⟩) | (go_at_call 33; refine (strings_Repeat.calls _ _ _ _ HP.out).mono ?_; rintro e w2 ⟨rfl, hb2⟩))
  go_ret
  exact ⟨by rw [← HR.out]; rfl, below_step hb1 hb2⟩
end Go.Proofs.Ytnilogameaaooaa.Q
/- depotref03.Read is parse, too. -/
set_option linter.unusedVariables false
set_option linter.unusedSimpArgs false
namespace Go.Proofs.Ytnilogameaaooaa.Pure
open Go.RowKit Go.Proofs.Ytnilogameaaooaa.Q Go.Proofs.Ytnilogameaaooaa.Rdr Go.Proofs.Ytnilogameaaooaa.Tail Go.Proofs.YtnilogameaaooaaW.PrintWords Go.Proofs.YtnilogameaaooaaW.PrintLast Go.Proofs.YtnilogameaaooaaW.PrintMore Go.Proofs.Ytnilogameaaooaa.Bytes Go.Proofs.Ytnilogameaaooaa.Evs

def to78 (x : S55) : S78 := ⟨x.f0, x.f1, x.f2⟩
theorem ext_nums (s : ByteArray) (i n : Nat) : s.extract i (i + n) = strOfNums (((numsOf s).drop i).take n) := by
  apply bs_inj
  rw [bs_extract, bs_strOfNums, List.map_take, List.map_drop, bs_numsOf, Nat.add_sub_cancel_left]
theorem read_ev (text plan : ByteArray) (m : Int) (hs : text.size ≤ 1099511627776) (hp : plan.size ≤ 1099511627776) (h0 : 0 ≤ m) (h1 : m ≤ 9223372036854775807) :
    ∀ (l : List UInt8) (i a : Nat) (its : List S78), (bs plan).drop i = l → i ≤ plan.size → a ≤ text.size → its.length = i → (∀ c ∈ l, c = 105 ∨ c = 116) →
    Ev (fun k => depotref03_Read.l0 k text plan m (a : Int) (i : Int) its 0 0 0) (its ++ (parse m l ((numsOf text).drop a) (a : Int)).1.map to78, (parse m l ((numsOf text).drop a) (a : Int)).2.1, (parse m l ((numsOf text).drop a) (a : Int)).2.2.1, (parse m l ((numsOf text).drop a) (a : Int)).2.2.2) := by
  intro l
  induction l with
  | nil =>
    intro i a its hl hi ha hlen _
    have hie : i = plan.size := by
      have := congrArg List.length hl
      rw [List.length_drop, ← size_bs] at this
      simp at this
      omega
    apply succ
    simp only [depotref03_Read.l0, parse]
    refine neg (by omega) ?_
    by_cases he : a < text.size
    · have hne : (numsOf text).drop a ≠ [] := fun q => by have := congrArg List.length q; rw [List.length_drop, numsOf_len] at this; simp at this; omega
      rw [if_neg hne]
      exact pos (by omega) (now (by simp))
    · have hne : (numsOf text).drop a = [] := List.drop_of_length_le (by rw [numsOf_len]; omega)
      rw [if_pos hne]
      exact neg (by omega) (now (by simp))
  | cons c l ih =>
    intro i a its hl hi ha hlen hlet
    have hlt : i < (bs plan).length := by
      have := congrArg List.length hl
      rw [List.length_drop, List.length_cons] at this
      omega
    have hip : i < plan.size := by rw [size_bs]; exact hlt
    have hcd := List.drop_eq_getElem_cons hlt
    rw [hl] at hcd
    have hce : c = (bs plan)[i] := (List.cons.inj hcd).1
    have hle : (bs plan).drop (i + 1) = l := (List.cons.inj hcd).2.symm
    have HBT := Aside0.mk (show bt plan (i : Int) = (c.toNat : Int) by
      have hg : (bs plan).getD i 0 = c := by rw [List.getD_eq_getElem?_getD, List.getElem?_eq_getElem hlt]; exact hce.symm
      rw [bt_bs, Int.toNat_natCast, hg])
    clear hcd hl hce
    have hbl : ((numsOf text).drop a).length = text.size - a := by rw [List.length_drop, numsOf_len]
    apply succ
    simp only [depotref03_Read.l0, parse]
    refine pos (by omega) (pos (by omega) ?_)
    have hw : wrap64 ((i : Int) + 1) = ((i + 1 : Nat) : Int) := wr i (by omega)
    rw [hw, HBT.out]
    by_cases hc5 : c = 105
    · refine pos (by rw [hc5]; rfl) ?_
      rw [if_pos hc5, w64 (x := (text.size : Int) - 8) (by omega) (by omega)]
      by_cases h8 : text.size < a + 8
      · rw [if_pos (by rw [hbl]; omega)]
        refine pos (by omega) (now ?_)
        have : (a : Int) + (((numsOf text).drop a).length : Int) = (text.size : Int) := by rw [hbl]; omega
        rw [this, List.map_nil, List.append_nil]
      · rw [if_neg (by rw [hbl]; omega)]
        refine neg (by omega) (Ev.bind (num_ev text a (by omega) hs) (pos (by omega) ?_))
        have e1 : wrap64 ((a : Int) + 8) = ((a + 8 : Nat) : Int) := by rw [w64 (by omega) (by omega)]; omega
        rw [e1]
        have hlet2 : ∀ d ∈ l, d = 105 ∨ d = 116 := fun d hd => hlet d (List.mem_cons_of_mem _ hd)
        have := ih (i + 1) (a + 8) (its ++ [⟨true, val (((numsOf text).drop a).take 8), ⟨#[]⟩⟩]) hle hip (Nat.le_of_not_lt h8) (by rw [List.length_append, hlen]; rfl) hlet2
        have e2 : ((a + 8 : Nat) : Int) = (a : Int) + 8 := by omega
        rw [List.drop_drop]
        rw [e2] at this ⊢
        refine same ?_ this
        rw [List.map_cons, List.append_assoc]
        rfl
    · have hc6 : c = 116 := (hlet c List.mem_cons_self).resolve_left hc5
      refine neg (fun q => hc5 ((byte_eq_iff c 105).1 q)) (Ev.bind (one_ev text a m ha hs h0 h1) ?_)
      rw [if_neg hc5]
      unfold oneR
      by_cases h8 : text.size < a + 8
      · rw [if_pos h8, if_pos (by rw [hbl]; omega)]
        refine pos (show (-1 : Int) < 0 by decide) (now ?_)
        have : (a : Int) + (((numsOf text).drop a).length : Int) = (text.size : Int) := by rw [hbl]; omega
        rw [this, List.map_nil, List.append_nil]
      · rw [if_neg h8, if_neg (show ¬ ((numsOf text).drop a).length < 8 by rw [hbl]; omega)]
        have hV := val_nonneg _ (byts_take (byts_drop (byts_text text) a) 8)
        generalize val (((numsOf text).drop a).take 8) = V at hV ⊢
        obtain ⟨n, rfl⟩ := Int.eq_ofNat_of_zero_le hV
        by_cases hlong : m < (n : Int)
        · rw [if_pos hlong, if_pos hlong]
          exact pos (show (-1 : Int) < 0 by decide) (now (by rw [List.map_nil, List.append_nil]))
        · rw [if_neg hlong, if_neg hlong, Int.toNat_natCast]
          have d8 : List.drop 8 (List.drop a (numsOf text)) = List.drop (a + 8) (numsOf text) := by rw [List.drop_drop]
          have dn : List.drop n (List.drop (a + 8) (numsOf text)) = List.drop (a + 8 + n) (numsOf text) := by rw [List.drop_drop]
          have dp : List.drop (n + padOf n) (List.drop (a + 8) (numsOf text)) = List.drop (a + 8 + n + padOf n) (numsOf text) := by rw [List.drop_drop, Nat.add_assoc (a + 8)]
          have dl : (List.drop (a + 8) (numsOf text)).length = text.size - a - 8 := by rw [List.length_drop, numsOf_len]; omega
          rw [d8, dn, dp, dl, hbl]
          have hlet2 : ∀ d ∈ l, d = 105 ∨ d = 116 := fun d hd => hlet d (List.mem_cons_of_mem _ hd)
          cases hz : firstNZ (List.take (padOf n) (List.drop (a + 8 + n) (numsOf text))) with
          | some j =>
            simp only [scanR]
            refine pos (show (-1 : Int) < 0 by decide) (now ?_)
            have : ((a + 8 + n + 0 + j : Nat) : Int) = (a : Int) + 8 + n + j := by omega
            rw [List.map_nil, List.append_nil, this]
          | none =>
            by_cases hsh : text.size - a - 8 < n + padOf n
            · have hZ : scanR text a n none 0 = (⟨#[]⟩, -1, 0, 0, (text.size : Int)) := by simp only [scanR]; exact if_pos hsh
              rw [hZ]
              simp only [if_pos hsh]
              refine pos (show (-1 : Int) < 0 by decide) (now ?_)
              have : (a : Int) + ((text.size - a : Nat) : Int) = (text.size : Int) := by omega
              rw [List.map_nil, List.append_nil, this]
            · have hZ : scanR text a n none 0 = (text.extract (a + 8) (a + 8 + n), ((a + 8 + n + padOf n : Nat) : Int), 0, 0, 0) := by simp only [scanR]; exact if_neg hsh
              rw [hZ]
              simp only [if_neg hsh]
              refine neg (by omega) (pos (by omega) ?_)
              have ex := ext_nums text (a + 8) n
              have hb : a + 8 + n + padOf n ≤ text.size := by omega
              have := ih (i + 1) (a + 8 + n + padOf n) (its ++ [⟨false, 0, text.extract (a + 8) (a + 8 + n)⟩]) hle hip hb (by rw [List.length_append, hlen]; rfl) hlet2
              have e2 : ((a + 8 + n + padOf n : Nat) : Int) = (a : Int) + 8 + n + (padOf n : Int) := by omega
              rw [← ex]
              rw [e2] at this ⊢
              refine same ?_ this
              rw [List.map_cons, List.append_assoc]
              rfl
end Go.Proofs.Ytnilogameaaooaa.Pure
/- By a program of this session's: a plain Lean function for a Go function, and its contract. -/
namespace Go.Proofs.Ytnilogameaaooaa.Q
open Go.RowKit Go.Proofs.YtnilogameaaooaaW.PrintWords Go.Proofs.YtnilogameaaooaaW.PrintLast Go.Proofs.YtnilogameaaooaaW.PrintMore
attribute [local go_sem] max2_int min2_int max_two min_two max_three min_three max_four min_four Go.Proofs.Ytnilogameaaooaa.Ord.str_leq Go.Proofs.Ytnilogameaaooaa.Ord.str_gtr Go.Proofs.Ytnilogameaaooaa.Ord.str_geq   -- for this text's walks alone
set_option linter.unusedVariables false
set_option linter.unusedSimpArgs false

/-! ### depotref03_Closed: function 21 -/
def depotref03_Closed.f (k : Nat) (a0 : ByteArray) (a1 : ByteArray) (a2 : Int) : Option (Int × Int) := (depotref03_Read.f k a0 a1 a2).bind fun bt151 => (if bt151.2.1 = 0 then (if (bt151.1.length : Int) < (a1.size : Int) then (some (4, bt151.2.2.2)) else (some (bt151.2.1, bt151.2.2.1))) else (some (bt151.2.1, bt151.2.2.1)))
theorem depotref03_Closed.mono : ∀ a0 a1 a2 k, LeO (depotref03_Closed.f k a0 a1 a2) (depotref03_Closed.f (k + 1) a0 a1 a2) := by
  intro a0 a1 a2 k
  unfold depotref03_Closed.f
  repeat' first
      | (with_reducible exact depotref03_Read.mono _ _ _ _)
      | (with_reducible exact LeO.refl _)
      | (with_reducible exact LeO.none _)
      | (with_reducible refine LeO.ite ?_ ?_)
      | (with_reducible refine LeO.bind ?_ (fun _ => ?_))
      | exact depotref03_Read.mono _ _ _ _
      | exact LeO.none _
      | refine LeO.ite ?_ ?_
      | refine LeO.bind ?_ (fun _ => ?_)
set_option maxHeartbeats 8000000 in
set_option maxRecDepth 100000 in
theorem depotref03_Closed.calls (k : Nat) (a0 : ByteArray) (a1 : ByteArray) (a2 : Int) (r1 : Int) (r2 : Int) (w : World) (h : depotref03_Closed.f k a0 a1 a2 = some (r1, r2)) :
    Calls Try.prog 21 #[.string a0, .string a1, .int .i64 a2] w fun e w' => e = .returned (.tuple #[.int .i64 r1, .int .i64 r2]) ∧ Below w.heap.size w w' := by
  have hu36 := Try.underlying36
  have HB := Aside0.mk (Below.refl w.heap.size w)
  have H : ((depotref03_Read.f k a0 a1 a2).bind fun bt151 => (if bt151.2.1 = 0 then (if (bt151.1.length : Int) < (a1.size : Int) then (some (4, bt151.2.2.2)) else (some (bt151.2.1, bt151.2.2.1))) else (some (bt151.2.1, bt151.2.2.1)))) = some (r1, r2) := h
  clear h
  replace H := Option.bind_eq_some_iff.mp H
  obtain ⟨⟨t151, t154, t155, t156⟩, A40, H⟩ := H
  replace H : (if t154 = 0 then (if (t151.length : Int) < (a1.size : Int) then (some (4, t156)) else (some (t154, t155))) else (some (t154, t155))) = some (r1, r2) := H
  have A4 := Aside0.mk A40
  clear A40
  by_cases c5 : t154 = 0
  · rw [if_pos c5] at H
    have c5b0 : (t154 == 0) = true := beq_iff_eq.mpr c5
    have c5b1 : (t154 != 0) = false := bne_eq_false_iff_eq.mpr c5
    clear c5
    by_cases c6 : (t151.length : Int) < (a1.size : Int)
    · rw [if_pos c6] at H
      have c6b0 : decide ((t151.length : Int) < (a1.size : Int)) = true := decide_eq_true c6
      have c6b1 : decide (t151.length < a1.size) = true := decide_eq_true (Int.ofNat_lt.mp c6)
      clear c6
      simp only [Option.some.injEq, Prod.mk.injEq] at H
      obtain ⟨rfl, rfl⟩ := H
      go_enter Try.func21, Try.ntmps21
      go_wp2_with (first | (go_at_call 20; (with_reducible refine (depotref03_Read.calls k a0 a1 a2 t151 t154 t155 t156 _ A4.out).mono ?_); rintro e w7 ⟨v152, rfl, ho0, hb⟩; have n0_ := Aside0.mk (Kd.R_lower ho0 (below_size (by repeat (first | (with_reducible first | exact HB.out | apply below_alloc | apply pw_below_drewN | apply below_drew1) | exact HB.out)))); have n1_ := Aside0.mk (below_step (by repeat (first | (with_reducible first | exact HB.out | apply below_alloc | apply pw_below_drewN | apply below_drew1) | exact HB.out)) hb); clear HB; have HO153 := n0_; have HB := n1_; clear n0_ n1_; (try clear hb); (try clear hb2); (try clear hk); (try clear hi); (try clear ho0)) | ((with_reducible refine gate_dst (N := 8) rfl ?_); (try (refine gate_guard (by rfl) ?_; dsimp only)); refine box_event ?hg (N := 8) ?hd (cs := #[.slice none 0 0, .int .i64 0, .int .i64 0, .int .i64 0]) (t := 36) ?hr ?_; (case hd => rfl); (case hg => rfl); (case hr => first | (go_simp; done) | (go_simp; rfl)); intro gb157 hg w8 hbox hb; have n0_ := Aside0.mk (Kd.R_below (by (with_reducible repeat (first | apply Kd.R_alloc | apply Kd.R_drewN | apply Kd.R_drew)); exact HO153.out) hb); have n1_ := Aside0.mk (below_step (by repeat (first | (with_reducible first | exact HB.out | apply below_alloc | apply pw_below_drewN | apply below_drew1) | exact HB.out)) hb); have n2_ := Aside0.mk (hbox); have n3_ := Aside0.mk ((by rw [hg]; exact (below_size (by repeat (first | (with_reducible first | exact HB.out | apply below_alloc | apply pw_below_drewN | apply below_drew1) | exact HB.out))) : w.heap.size ≤ gb157)); have n4_ := Aside0.mk ((by rw [hg]; exact (below_size (by repeat (first | (with_reducible first | exact HB.out | apply below_alloc | apply pw_below_drewN | apply below_drew1) | exact HB.out))) : w.heap.size ≤ gb157)); clear HO153; clear HB; have HO153 := n0_; have HB := n1_; have BK157 := n2_; have GW157 := n3_; have GE157 := n4_; clear n0_ n1_ n2_ n3_ n4_; clear hb hbox hg; obtain ⟨Ao9, co9, eo9⟩ := Kd.R_slice HO153.out; subst eo9; have hcz10_0 : w8.cell? ⟨gb157, 0, none⟩ = some (.slice none 0 0) := (blk_cell BK157.out 0).trans rfl; have hcz10_1 : w8.cell? ⟨gb157, 1, none⟩ = some (.int .i64 0) := (blk_cell BK157.out 1).trans rfl; have hcz10_2 : w8.cell? ⟨gb157, 2, none⟩ = some (.int .i64 0) := (blk_cell BK157.out 2).trans rfl; have hcz10_3 : w8.cell? ⟨gb157, 3, none⟩ = some (.int .i64 0) := (blk_cell BK157.out 3).trans rfl; have hfz10_0 := blk_frozen BK157.out 0; have hfz10_1 := blk_frozen BK157.out 1; have hfz10_2 := blk_frozen BK157.out 2; have hfz10_3 := blk_frozen BK157.out 3))
      repeat (go_quiet (first | (go_at_call 20; (with_reducible refine (depotref03_Read.calls k a0 a1 a2 t151 t154 t155 t156 _ A4.out).mono ?_); rintro e w7 ⟨v152, rfl, ho0, hb⟩; have n0_ := Aside0.mk (Kd.R_lower ho0 (below_size (by repeat (first | (with_reducible first | exact HB.out | apply below_alloc | apply pw_below_drewN | apply below_drew1) | exact HB.out)))); have n1_ := Aside0.mk (below_step (by repeat (first | (with_reducible first | exact HB.out | apply below_alloc | apply pw_below_drewN | apply below_drew1) | exact HB.out)) hb); clear HB; have HO153 := n0_; have HB := n1_; clear n0_ n1_; (try clear hb); (try clear hb2); (try clear hk); (try clear hi); (try clear ho0)) | ((with_reducible refine gate_dst (N := 8) rfl ?_); (try (refine gate_guard (by rfl) ?_; dsimp only)); refine box_event ?hg (N := 8) ?hd (cs := #[.slice none 0 0, .int .i64 0, .int .i64 0, .int .i64 0]) (t := 36) ?hr ?_; (case hd => rfl); (case hg => rfl); (case hr => first | (go_simp; done) | (go_simp; rfl)); intro gb157 hg w8 hbox hb; have n0_ := Aside0.mk (Kd.R_below (by (with_reducible repeat (first | apply Kd.R_alloc | apply Kd.R_drewN | apply Kd.R_drew)); exact HO153.out) hb); have n1_ := Aside0.mk (below_step (by repeat (first | (with_reducible first | exact HB.out | apply below_alloc | apply pw_below_drewN | apply below_drew1) | exact HB.out)) hb); have n2_ := Aside0.mk (hbox); have n3_ := Aside0.mk ((by rw [hg]; exact (below_size (by repeat (first | (with_reducible first | exact HB.out | apply below_alloc | apply pw_below_drewN | apply below_drew1) | exact HB.out))) : w.heap.size ≤ gb157)); have n4_ := Aside0.mk ((by rw [hg]; exact (below_size (by repeat (first | (with_reducible first | exact HB.out | apply below_alloc | apply pw_below_drewN | apply below_drew1) | exact HB.out))) : w.heap.size ≤ gb157)); clear HO153; clear HB; have HO153 := n0_; have HB := n1_; have BK157 := n2_; have GW157 := n3_; have GE157 := n4_; clear n0_ n1_ n2_ n3_ n4_; clear hb hbox hg; obtain ⟨Ao9, co9, eo9⟩ := Kd.R_slice HO153.out; subst eo9; have hcz10_0 : w8.cell? ⟨gb157, 0, none⟩ = some (.slice none 0 0) := (blk_cell BK157.out 0).trans rfl; have hcz10_1 : w8.cell? ⟨gb157, 1, none⟩ = some (.int .i64 0) := (blk_cell BK157.out 1).trans rfl; have hcz10_2 : w8.cell? ⟨gb157, 2, none⟩ = some (.int .i64 0) := (blk_cell BK157.out 2).trans rfl; have hcz10_3 : w8.cell? ⟨gb157, 3, none⟩ = some (.int .i64 0) := (blk_cell BK157.out 3).trans rfl; have hfz10_0 := blk_frozen BK157.out 0; have hfz10_1 := blk_frozen BK157.out 1; have hfz10_2 := blk_frozen BK157.out 2; have hfz10_3 := blk_frozen BK157.out 3)); try go_wp2_with (first | (go_at_call 20; (with_reducible refine (depotref03_Read.calls k a0 a1 a2 t151 t154 t155 t156 _ A4.out).mono ?_); rintro e w7 ⟨v152, rfl, ho0, hb⟩; have n0_ := Aside0.mk (Kd.R_lower ho0 (below_size (by repeat (first | (with_reducible first | exact HB.out | apply below_alloc | apply pw_below_drewN | apply below_drew1) | exact HB.out)))); have n1_ := Aside0.mk (below_step (by repeat (first | (with_reducible first | exact HB.out | apply below_alloc | apply pw_below_drewN | apply below_drew1) | exact HB.out)) hb); clear HB; have HO153 := n0_; have HB := n1_; clear n0_ n1_; (try clear hb); (try clear hb2); (try clear hk); (try clear hi); (try clear ho0)) | ((with_reducible refine gate_dst (N := 8) rfl ?_); (try (refine gate_guard (by rfl) ?_; dsimp only)); refine box_event ?hg (N := 8) ?hd (cs := #[.slice none 0 0, .int .i64 0, .int .i64 0, .int .i64 0]) (t := 36) ?hr ?_; (case hd => rfl); (case hg => rfl); (case hr => first | (go_simp; done) | (go_simp; rfl)); intro gb157 hg w8 hbox hb; have n0_ := Aside0.mk (Kd.R_below (by (with_reducible repeat (first | apply Kd.R_alloc | apply Kd.R_drewN | apply Kd.R_drew)); exact HO153.out) hb); have n1_ := Aside0.mk (below_step (by repeat (first | (with_reducible first | exact HB.out | apply below_alloc | apply pw_below_drewN | apply below_drew1) | exact HB.out)) hb); have n2_ := Aside0.mk (hbox); have n3_ := Aside0.mk ((by rw [hg]; exact (below_size (by repeat (first | (with_reducible first | exact HB.out | apply below_alloc | apply pw_below_drewN | apply below_drew1) | exact HB.out))) : w.heap.size ≤ gb157)); have n4_ := Aside0.mk ((by rw [hg]; exact (below_size (by repeat (first | (with_reducible first | exact HB.out | apply below_alloc | apply pw_below_drewN | apply below_drew1) | exact HB.out))) : w.heap.size ≤ gb157)); clear HO153; clear HB; have HO153 := n0_; have HB := n1_; have BK157 := n2_; have GW157 := n3_; have GE157 := n4_; clear n0_ n1_ n2_ n3_ n4_; clear hb hbox hg; obtain ⟨Ao9, co9, eo9⟩ := Kd.R_slice HO153.out; subst eo9; have hcz10_0 : w8.cell? ⟨gb157, 0, none⟩ = some (.slice none 0 0) := (blk_cell BK157.out 0).trans rfl; have hcz10_1 : w8.cell? ⟨gb157, 1, none⟩ = some (.int .i64 0) := (blk_cell BK157.out 1).trans rfl; have hcz10_2 : w8.cell? ⟨gb157, 2, none⟩ = some (.int .i64 0) := (blk_cell BK157.out 2).trans rfl; have hcz10_3 : w8.cell? ⟨gb157, 3, none⟩ = some (.int .i64 0) := (blk_cell BK157.out 3).trans rfl; have hfz10_0 := blk_frozen BK157.out 0; have hfz10_1 := blk_frozen BK157.out 1; have hfz10_2 := blk_frozen BK157.out 2; have hfz10_3 := blk_frozen BK157.out 3)))
      go_ret2
      exact ⟨by first | rfl | (simp [errW_none, errW_some] <;> rfl) | (simp [*, errW_none, errW_some] <;> rfl), by repeat (first | (with_reducible first | exact HB.out | apply below_alloc | apply pw_below_drewN | apply below_drew1 | refine below_set ?_ GE157.out) | exact HB.out)⟩
    · rw [if_neg c6] at H
      have c6b0 : decide ((t151.length : Int) < (a1.size : Int)) = false := decide_eq_false c6
      have c6b1 : decide (t151.length < a1.size) = false := decide_eq_false (fun h => c6 (Int.ofNat_lt.mpr h))
      clear c6
      simp only [Option.some.injEq, Prod.mk.injEq] at H
      obtain ⟨rfl, rfl⟩ := H
      go_enter Try.func21, Try.ntmps21
      go_wp2_with (first | (go_at_call 20; (with_reducible refine (depotref03_Read.calls k a0 a1 a2 t151 t154 t155 t156 _ A4.out).mono ?_); rintro e w11 ⟨v152, rfl, ho0, hb⟩; have n0_ := Aside0.mk (Kd.R_lower ho0 (below_size (by repeat (first | (with_reducible first | exact HB.out | apply below_alloc | apply pw_below_drewN | apply below_drew1) | exact HB.out)))); have n1_ := Aside0.mk (below_step (by repeat (first | (with_reducible first | exact HB.out | apply below_alloc | apply pw_below_drewN | apply below_drew1) | exact HB.out)) hb); clear HB; have HO153 := n0_; have HB := n1_; clear n0_ n1_; (try clear hb); (try clear hb2); (try clear hk); (try clear hi); (try clear ho0)) | ((with_reducible refine gate_dst (N := 8) rfl ?_); (try (refine gate_guard (by rfl) ?_; dsimp only)); refine box_event ?hg (N := 8) ?hd (cs := #[.slice none 0 0, .int .i64 0, .int .i64 0, .int .i64 0]) (t := 36) ?hr ?_; (case hd => rfl); (case hg => rfl); (case hr => first | (go_simp; done) | (go_simp; rfl)); intro gb157 hg w12 hbox hb; have n0_ := Aside0.mk (Kd.R_below (by (with_reducible repeat (first | apply Kd.R_alloc | apply Kd.R_drewN | apply Kd.R_drew)); exact HO153.out) hb); have n1_ := Aside0.mk (below_step (by repeat (first | (with_reducible first | exact HB.out | apply below_alloc | apply pw_below_drewN | apply below_drew1) | exact HB.out)) hb); have n2_ := Aside0.mk (hbox); have n3_ := Aside0.mk ((by rw [hg]; exact (below_size (by repeat (first | (with_reducible first | exact HB.out | apply below_alloc | apply pw_below_drewN | apply below_drew1) | exact HB.out))) : w.heap.size ≤ gb157)); have n4_ := Aside0.mk ((by rw [hg]; exact (below_size (by repeat (first | (with_reducible first | exact HB.out | apply below_alloc | apply pw_below_drewN | apply below_drew1) | exact HB.out))) : w.heap.size ≤ gb157)); clear HO153; clear HB; have HO153 := n0_; have HB := n1_; have BK157 := n2_; have GW157 := n3_; have GE157 := n4_; clear n0_ n1_ n2_ n3_ n4_; clear hb hbox hg; obtain ⟨Ao13, co13, eo13⟩ := Kd.R_slice HO153.out; subst eo13; have hcz14_0 : w12.cell? ⟨gb157, 0, none⟩ = some (.slice none 0 0) := (blk_cell BK157.out 0).trans rfl; have hcz14_1 : w12.cell? ⟨gb157, 1, none⟩ = some (.int .i64 0) := (blk_cell BK157.out 1).trans rfl; have hcz14_2 : w12.cell? ⟨gb157, 2, none⟩ = some (.int .i64 0) := (blk_cell BK157.out 2).trans rfl; have hcz14_3 : w12.cell? ⟨gb157, 3, none⟩ = some (.int .i64 0) := (blk_cell BK157.out 3).trans rfl; have hfz14_0 := blk_frozen BK157.out 0; have hfz14_1 := blk_frozen BK157.out 1; have hfz14_2 := blk_frozen BK157.out 2; have hfz14_3 := blk_frozen BK157.out 3))
      repeat (go_quiet (first | (go_at_call 20; (with_reducible refine (depotref03_Read.calls k a0 a1 a2 t151 t154 t155 t156 _ A4.out).mono ?_); rintro e w11 ⟨v152, rfl, ho0, hb⟩; have n0_ := Aside0.mk (Kd.R_lower ho0 (below_size (by repeat (first | (with_reducible first | exact HB.out | apply below_alloc | apply pw_below_drewN | apply below_drew1) | exact HB.out)))); have n1_ := Aside0.mk (below_step (by repeat (first | (with_reducible first | exact HB.out | apply below_alloc | apply pw_below_drewN | apply below_drew1) | exact HB.out)) hb); clear HB; have HO153 := n0_; have HB := n1_; clear n0_ n1_; (try clear hb); (try clear hb2); (try clear hk); (try clear hi); (try clear ho0)) | ((with_reducible refine gate_dst (N := 8) rfl ?_); (try (refine gate_guard (by rfl) ?_; dsimp only)); refine box_event ?hg (N := 8) ?hd (cs := #[.slice none 0 0, .int .i64 0, .int .i64 0, .int .i64 0]) (t := 36) ?hr ?_; (case hd => rfl); (case hg => rfl); (case hr => first | (go_simp; done) | (go_simp; rfl)); intro gb157 hg w12 hbox hb; have n0_ := Aside0.mk (Kd.R_below (by (with_reducible repeat (first | apply Kd.R_alloc | apply Kd.R_drewN | apply Kd.R_drew)); exact HO153.out) hb); have n1_ := Aside0.mk (below_step (by repeat (first | (with_reducible first | exact HB.out | apply below_alloc | apply pw_below_drewN | apply below_drew1) | exact HB.out)) hb); have n2_ := Aside0.mk (hbox); have n3_ := Aside0.mk ((by rw [hg]; exact (below_size (by repeat (first | (with_reducible first | exact HB.out | apply below_alloc | apply pw_below_drewN | apply below_drew1) | exact HB.out))) : w.heap.size ≤ gb157)); have n4_ := Aside0.mk ((by rw [hg]; exact (below_size (by repeat (first | (with_reducible first | exact HB.out | apply below_alloc | apply pw_below_drewN | apply below_drew1) | exact HB.out))) : w.heap.size ≤ gb157)); clear HO153; clear HB; have HO153 := n0_; have HB := n1_; have BK157 := n2_; have GW157 := n3_; have GE157 := n4_; clear n0_ n1_ n2_ n3_ n4_; clear hb hbox hg; obtain ⟨Ao13, co13, eo13⟩ := Kd.R_slice HO153.out; subst eo13; have hcz14_0 : w12.cell? ⟨gb157, 0, none⟩ = some (.slice none 0 0) := (blk_cell BK157.out 0).trans rfl; have hcz14_1 : w12.cell? ⟨gb157, 1, none⟩ = some (.int .i64 0) := (blk_cell BK157.out 1).trans rfl; have hcz14_2 : w12.cell? ⟨gb157, 2, none⟩ = some (.int .i64 0) := (blk_cell BK157.out 2).trans rfl; have hcz14_3 : w12.cell? ⟨gb157, 3, none⟩ = some (.int .i64 0) := (blk_cell BK157.out 3).trans rfl; have hfz14_0 := blk_frozen BK157.out 0; have hfz14_1 := blk_frozen BK157.out 1; have hfz14_2 := blk_frozen BK157.out 2; have hfz14_3 := blk_frozen BK157.out 3)); try go_wp2_with (first | (go_at_call 20; (with_reducible refine (depotref03_Read.calls k a0 a1 a2 t151 t154 t155 t156 _ A4.out).mono ?_); rintro e w11 ⟨v152, rfl, ho0, hb⟩; have n0_ := Aside0.mk (Kd.R_lower ho0 (below_size (by repeat (first | (with_reducible first | exact HB.out | apply below_alloc | apply pw_below_drewN | apply below_drew1) | exact HB.out)))); have n1_ := Aside0.mk (below_step (by repeat (first | (with_reducible first | exact HB.out | apply below_alloc | apply pw_below_drewN | apply below_drew1) | exact HB.out)) hb); clear HB; have HO153 := n0_; have HB := n1_; clear n0_ n1_; (try clear hb); (try clear hb2); (try clear hk); (try clear hi); (try clear ho0)) | ((with_reducible refine gate_dst (N := 8) rfl ?_); (try (refine gate_guard (by rfl) ?_; dsimp only)); refine box_event ?hg (N := 8) ?hd (cs := #[.slice none 0 0, .int .i64 0, .int .i64 0, .int .i64 0]) (t := 36) ?hr ?_; (case hd => rfl); (case hg => rfl); (case hr => first | (go_simp; done) | (go_simp; rfl)); intro gb157 hg w12 hbox hb; have n0_ := Aside0.mk (Kd.R_below (by (with_reducible repeat (first | apply Kd.R_alloc | apply Kd.R_drewN | apply Kd.R_drew)); exact HO153.out) hb); have n1_ := Aside0.mk (below_step (by repeat (first | (with_reducible first | exact HB.out | apply below_alloc | apply pw_below_drewN | apply below_drew1) | exact HB.out)) hb); have n2_ := Aside0.mk (hbox); have n3_ := Aside0.mk ((by rw [hg]; exact (below_size (by repeat (first | (with_reducible first | exact HB.out | apply below_alloc | apply pw_below_drewN | apply below_drew1) | exact HB.out))) : w.heap.size ≤ gb157)); have n4_ := Aside0.mk ((by rw [hg]; exact (below_size (by repeat (first | (with_reducible first | exact HB.out | apply below_alloc | apply pw_below_drewN | apply below_drew1) | exact HB.out))) : w.heap.size ≤ gb157)); clear HO153; clear HB; have HO153 := n0_; have HB := n1_; have BK157 := n2_; have GW157 := n3_; have GE157 := n4_; clear n0_ n1_ n2_ n3_ n4_; clear hb hbox hg; obtain ⟨Ao13, co13, eo13⟩ := Kd.R_slice HO153.out; subst eo13; have hcz14_0 : w12.cell? ⟨gb157, 0, none⟩ = some (.slice none 0 0) := (blk_cell BK157.out 0).trans rfl; have hcz14_1 : w12.cell? ⟨gb157, 1, none⟩ = some (.int .i64 0) := (blk_cell BK157.out 1).trans rfl; have hcz14_2 : w12.cell? ⟨gb157, 2, none⟩ = some (.int .i64 0) := (blk_cell BK157.out 2).trans rfl; have hcz14_3 : w12.cell? ⟨gb157, 3, none⟩ = some (.int .i64 0) := (blk_cell BK157.out 3).trans rfl; have hfz14_0 := blk_frozen BK157.out 0; have hfz14_1 := blk_frozen BK157.out 1; have hfz14_2 := blk_frozen BK157.out 2; have hfz14_3 := blk_frozen BK157.out 3)))
      go_ret2
      exact ⟨by first | rfl | (simp [errW_none, errW_some] <;> rfl) | (simp [*, errW_none, errW_some] <;> rfl), by repeat (first | (with_reducible first | exact HB.out | apply below_alloc | apply pw_below_drewN | apply below_drew1 | refine below_set ?_ GE157.out) | exact HB.out)⟩
  · rw [if_neg c5] at H
    have c5b0 : (t154 == 0) = false := beq_eq_false_iff_ne.mpr c5
    have c5b1 : (t154 != 0) = true := bne_iff_ne.mpr c5
    simp only [Option.some.injEq, Prod.mk.injEq] at H
    obtain ⟨rfl, rfl⟩ := H
    go_enter Try.func21, Try.ntmps21
    go_wp2_with (first | (go_at_call 20; (with_reducible refine (depotref03_Read.calls k a0 a1 a2 t151 t154 t155 t156 _ A4.out).mono ?_); rintro e w15 ⟨v152, rfl, ho0, hb⟩; have n0_ := Aside0.mk (Kd.R_lower ho0 (below_size (by repeat (first | (with_reducible first | exact HB.out | apply below_alloc | apply pw_below_drewN | apply below_drew1) | exact HB.out)))); have n1_ := Aside0.mk (below_step (by repeat (first | (with_reducible first | exact HB.out | apply below_alloc | apply pw_below_drewN | apply below_drew1) | exact HB.out)) hb); clear HB; have HO153 := n0_; have HB := n1_; clear n0_ n1_; (try clear hb); (try clear hb2); (try clear hk); (try clear hi); (try clear ho0)) | ((with_reducible refine gate_dst (N := 8) rfl ?_); (try (refine gate_guard (by rfl) ?_; dsimp only)); refine box_event ?hg (N := 8) ?hd (cs := #[.slice none 0 0, .int .i64 0, .int .i64 0, .int .i64 0]) (t := 36) ?hr ?_; (case hd => rfl); (case hg => rfl); (case hr => first | (go_simp; done) | (go_simp; rfl)); intro gb157 hg w16 hbox hb; have n0_ := Aside0.mk (Kd.R_below (by (with_reducible repeat (first | apply Kd.R_alloc | apply Kd.R_drewN | apply Kd.R_drew)); exact HO153.out) hb); have n1_ := Aside0.mk (below_step (by repeat (first | (with_reducible first | exact HB.out | apply below_alloc | apply pw_below_drewN | apply below_drew1) | exact HB.out)) hb); have n2_ := Aside0.mk (hbox); have n3_ := Aside0.mk ((by rw [hg]; exact (below_size (by repeat (first | (with_reducible first | exact HB.out | apply below_alloc | apply pw_below_drewN | apply below_drew1) | exact HB.out))) : w.heap.size ≤ gb157)); have n4_ := Aside0.mk ((by rw [hg]; exact (below_size (by repeat (first | (with_reducible first | exact HB.out | apply below_alloc | apply pw_below_drewN | apply below_drew1) | exact HB.out))) : w.heap.size ≤ gb157)); clear HO153; clear HB; have HO153 := n0_; have HB := n1_; have BK157 := n2_; have GW157 := n3_; have GE157 := n4_; clear n0_ n1_ n2_ n3_ n4_; clear hb hbox hg; obtain ⟨Ao17, co17, eo17⟩ := Kd.R_slice HO153.out; subst eo17; have hcz18_0 : w16.cell? ⟨gb157, 0, none⟩ = some (.slice none 0 0) := (blk_cell BK157.out 0).trans rfl; have hcz18_1 : w16.cell? ⟨gb157, 1, none⟩ = some (.int .i64 0) := (blk_cell BK157.out 1).trans rfl; have hcz18_2 : w16.cell? ⟨gb157, 2, none⟩ = some (.int .i64 0) := (blk_cell BK157.out 2).trans rfl; have hcz18_3 : w16.cell? ⟨gb157, 3, none⟩ = some (.int .i64 0) := (blk_cell BK157.out 3).trans rfl; have hfz18_0 := blk_frozen BK157.out 0; have hfz18_1 := blk_frozen BK157.out 1; have hfz18_2 := blk_frozen BK157.out 2; have hfz18_3 := blk_frozen BK157.out 3))
    repeat (go_quiet (first | (go_at_call 20; (with_reducible refine (depotref03_Read.calls k a0 a1 a2 t151 t154 t155 t156 _ A4.out).mono ?_); rintro e w15 ⟨v152, rfl, ho0, hb⟩; have n0_ := Aside0.mk (Kd.R_lower ho0 (below_size (by repeat (first | (with_reducible first | exact HB.out | apply below_alloc | apply pw_below_drewN | apply below_drew1) | exact HB.out)))); have n1_ := Aside0.mk (below_step (by repeat (first | (with_reducible first | exact HB.out | apply below_alloc | apply pw_below_drewN | apply below_drew1) | exact HB.out)) hb); clear HB; have HO153 := n0_; have HB := n1_; clear n0_ n1_; (try clear hb); (try clear hb2); (try clear hk); (try clear hi); (try clear ho0)) | ((with_reducible refine gate_dst (N := 8) rfl ?_); (try (refine gate_guard (by rfl) ?_; dsimp only)); refine box_event ?hg (N := 8) ?hd (cs := #[.slice none 0 0, .int .i64 0, .int .i64 0, .int .i64 0]) (t := 36) ?hr ?_; (case hd => rfl); (case hg => rfl); (case hr => first | (go_simp; done) | (go_simp; rfl)); intro gb157 hg w16 hbox hb; have n0_ := Aside0.mk (Kd.R_below (by (with_reducible repeat (first | apply Kd.R_alloc | apply Kd.R_drewN | apply Kd.R_drew)); exact HO153.out) hb); have n1_ := Aside0.mk (below_step (by repeat (first | (with_reducible first | exact HB.out | apply below_alloc | apply pw_below_drewN | apply below_drew1) | exact HB.out)) hb); have n2_ := Aside0.mk (hbox); have n3_ := Aside0.mk ((by rw [hg]; exact (below_size (by repeat (first | (with_reducible first | exact HB.out | apply below_alloc | apply pw_below_drewN | apply below_drew1) | exact HB.out))) : w.heap.size ≤ gb157)); have n4_ := Aside0.mk ((by rw [hg]; exact (below_size (by repeat (first | (with_reducible first | exact HB.out | apply below_alloc | apply pw_below_drewN | apply below_drew1) | exact HB.out))) : w.heap.size ≤ gb157)); clear HO153; clear HB; have HO153 := n0_; have HB := n1_; have BK157 := n2_; have GW157 := n3_; have GE157 := n4_; clear n0_ n1_ n2_ n3_ n4_; clear hb hbox hg; obtain ⟨Ao17, co17, eo17⟩ := Kd.R_slice HO153.out; subst eo17; have hcz18_0 : w16.cell? ⟨gb157, 0, none⟩ = some (.slice none 0 0) := (blk_cell BK157.out 0).trans rfl; have hcz18_1 : w16.cell? ⟨gb157, 1, none⟩ = some (.int .i64 0) := (blk_cell BK157.out 1).trans rfl; have hcz18_2 : w16.cell? ⟨gb157, 2, none⟩ = some (.int .i64 0) := (blk_cell BK157.out 2).trans rfl; have hcz18_3 : w16.cell? ⟨gb157, 3, none⟩ = some (.int .i64 0) := (blk_cell BK157.out 3).trans rfl; have hfz18_0 := blk_frozen BK157.out 0; have hfz18_1 := blk_frozen BK157.out 1; have hfz18_2 := blk_frozen BK157.out 2; have hfz18_3 := blk_frozen BK157.out 3)); try go_wp2_with (first | (go_at_call 20; (with_reducible refine (depotref03_Read.calls k a0 a1 a2 t151 t154 t155 t156 _ A4.out).mono ?_); rintro e w15 ⟨v152, rfl, ho0, hb⟩; have n0_ := Aside0.mk (Kd.R_lower ho0 (below_size (by repeat (first | (with_reducible first | exact HB.out | apply below_alloc | apply pw_below_drewN | apply below_drew1) | exact HB.out)))); have n1_ := Aside0.mk (below_step (by repeat (first | (with_reducible first | exact HB.out | apply below_alloc | apply pw_below_drewN | apply below_drew1) | exact HB.out)) hb); clear HB; have HO153 := n0_; have HB := n1_; clear n0_ n1_; (try clear hb); (try clear hb2); (try clear hk); (try clear hi); (try clear ho0)) | ((with_reducible refine gate_dst (N := 8) rfl ?_); (try (refine gate_guard (by rfl) ?_; dsimp only)); refine box_event ?hg (N := 8) ?hd (cs := #[.slice none 0 0, .int .i64 0, .int .i64 0, .int .i64 0]) (t := 36) ?hr ?_; (case hd => rfl); (case hg => rfl); (case hr => first | (go_simp; done) | (go_simp; rfl)); intro gb157 hg w16 hbox hb; have n0_ := Aside0.mk (Kd.R_below (by (with_reducible repeat (first | apply Kd.R_alloc | apply Kd.R_drewN | apply Kd.R_drew)); exact HO153.out) hb); have n1_ := Aside0.mk (below_step (by repeat (first | (with_reducible first | exact HB.out | apply below_alloc | apply pw_below_drewN | apply below_drew1) | exact HB.out)) hb); have n2_ := Aside0.mk (hbox); have n3_ := Aside0.mk ((by rw [hg]; exact (below_size (by repeat (first | (with_reducible first | exact HB.out | apply below_alloc | apply pw_below_drewN | apply below_drew1) | exact HB.out))) : w.heap.size ≤ gb157)); have n4_ := Aside0.mk ((by rw [hg]; exact (below_size (by repeat (first | (with_reducible first | exact HB.out | apply below_alloc | apply pw_below_drewN | apply below_drew1) | exact HB.out))) : w.heap.size ≤ gb157)); clear HO153; clear HB; have HO153 := n0_; have HB := n1_; have BK157 := n2_; have GW157 := n3_; have GE157 := n4_; clear n0_ n1_ n2_ n3_ n4_; clear hb hbox hg; obtain ⟨Ao17, co17, eo17⟩ := Kd.R_slice HO153.out; subst eo17; have hcz18_0 : w16.cell? ⟨gb157, 0, none⟩ = some (.slice none 0 0) := (blk_cell BK157.out 0).trans rfl; have hcz18_1 : w16.cell? ⟨gb157, 1, none⟩ = some (.int .i64 0) := (blk_cell BK157.out 1).trans rfl; have hcz18_2 : w16.cell? ⟨gb157, 2, none⟩ = some (.int .i64 0) := (blk_cell BK157.out 2).trans rfl; have hcz18_3 : w16.cell? ⟨gb157, 3, none⟩ = some (.int .i64 0) := (blk_cell BK157.out 3).trans rfl; have hfz18_0 := blk_frozen BK157.out 0; have hfz18_1 := blk_frozen BK157.out 1; have hfz18_2 := blk_frozen BK157.out 2; have hfz18_3 := blk_frozen BK157.out 3)))
    go_ret2
    exact ⟨by first | rfl | (simp [errW_none, errW_some] <;> rfl) | (simp [*, errW_none, errW_some] <;> rfl), by repeat (first | (with_reducible first | exact HB.out | apply below_alloc | apply pw_below_drewN | apply below_drew1 | refine below_set ?_ GE157.out) | exact HB.out)⟩

end Go.Proofs.Ytnilogameaaooaa.Q
/- By a program of this session's: a plain Lean function for a Go function, and its contract. -/
namespace Go.Proofs.Ytnilogameaaooaa.Q
open Go.RowKit Go.Proofs.YtnilogameaaooaaW.PrintWords Go.Proofs.YtnilogameaaooaaW.PrintLast Go.Proofs.YtnilogameaaooaaW.PrintMore
attribute [local go_sem] max2_int min2_int max_two min_two max_three min_three max_four min_four Go.Proofs.Ytnilogameaaooaa.Ord.str_leq Go.Proofs.Ytnilogameaaooaa.Ord.str_gtr Go.Proofs.Ytnilogameaaooaa.Ord.str_geq   -- for this text's walks alone
set_option linter.unusedVariables false
set_option linter.unusedSimpArgs false

/-! ### depotlaw03_same: function 22 -/
def depotlaw03_same.l0 : Nat → List (S78) → Int → List (S55) → Int → Int → Option (Bool)
  | 0, _, _, _, _, _ => none
  | k + 1, x1, x2, x17, x18, x19 => if x19 < x18 then (if 0 ≤ x19 then (if x19 < (x17.length : Int) then (if 0 ≤ (wrap64 (x2 + x19)) then (if (wrap64 (x2 + x19)) < (x1.length : Int) then (if (((rd_T55 x17 x19).f0) != ((rd_T78 x1 (wrap64 (x2 + x19))).f0)) = true then (some false) else (if ((rd_T55 x17 x19).f1) = ((rd_T78 x1 (wrap64 (x2 + x19))).f1) then (if ((rd_T55 x17 x19).f2).toList = ((rd_T78 x1 (wrap64 (x2 + x19))).f2).toList then (depotlaw03_same.l0 k x1 x2 x17 x18 (wrap64 (x19 + 1))) else (some false)) else (some false))) else (none)) else (none)) else (none)) else (none)) else (some true)
def depotlaw03_same.f (k : Nat) (l0 : List (S55)) (l1 : List (S78)) (a2 : Int) : Option (Bool) := if (wrap64 ((l1.length : Int) - a2)) = (l0.length : Int) then (depotlaw03_same.l0 k l1 a2 l0 (l0.length : Int) 0) else (some false)
theorem depotlaw03_same.mono_l : ∀ k, (∀ y0 y1 y2 y3 y4, LeO (depotlaw03_same.l0 k y0 y1 y2 y3 y4) (depotlaw03_same.l0 (k + 1) y0 y1 y2 y3 y4))
  | 0 => fun _ _ _ _ _ r h => by simp [depotlaw03_same.l0] at h
  | k + 1 => by
    have ih0 := depotlaw03_same.mono_l k
    · intro y0 y1 y2 y3 y4
      unfold depotlaw03_same.l0
      repeat' first
      | (with_reducible exact ih0 _ _ _ _ _)
      | (with_reducible exact LeO.refl _)
      | (with_reducible exact LeO.none _)
      | (with_reducible refine LeO.ite ?_ ?_)
      | (with_reducible refine LeO.bind ?_ (fun _ => ?_))
      | exact ih0 _ _ _ _ _
      | exact LeO.none _
      | refine LeO.ite ?_ ?_
      | refine LeO.bind ?_ (fun _ => ?_)
theorem depotlaw03_same.mono : ∀ a0 a1 a2 k, LeO (depotlaw03_same.f k a0 a1 a2) (depotlaw03_same.f (k + 1) a0 a1 a2) := by
  intro a0 a1 a2 k
  have ih0 := depotlaw03_same.mono_l k
  unfold depotlaw03_same.f
  repeat' first
      | (with_reducible exact ih0 _ _ _ _ _)
      | (with_reducible exact LeO.refl _)
      | (with_reducible exact LeO.none _)
      | (with_reducible refine LeO.ite ?_ ?_)
      | (with_reducible refine LeO.bind ?_ (fun _ => ?_))
      | exact ih0 _ _ _ _ _
      | exact LeO.none _
      | refine LeO.ite ?_ ?_
      | refine LeO.bind ?_ (fun _ => ?_)
set_option maxHeartbeats 8000000 in
set_option maxRecDepth 100000 in
theorem depotlaw03_same.calls (k : Nat) (A0 : Option Addr) (c0 : Nat) (l0 : List (S55)) (A1 : Option Addr) (c1 : Nat) (l1 : List (S78)) (a2 : Int) (r : Bool) (w : World) (hr0 : Kd.C k55 w A0 l0.length l0) (hc0 : l0.length ≤ c0) (hr1 : Kd.C k78 w A1 l1.length l1) (hc1 : l1.length ≤ c1) (h : depotlaw03_same.f k l0 l1 a2 = some r) :
    Calls Try.prog 22 #[.slice A0 l0.length c0, .slice A1 l1.length c1, .int .i64 a2] w fun e w' => e = .returned (.bool r) ∧ Below w.heap.size w w' := by
  have hu55 := Try.underlying55
  have hu78 := Try.underlying78
  have HR0 := Aside0.mk hr0
  have HC0 := Aside0.mk hc0
  clear hr0 hc0
  have HR1 := Aside0.mk hr1
  have HC1 := Aside0.mk hc1
  clear hr1 hc1
  have HB := Aside0.mk (Below.refl w.heap.size w)
  have H : (if (wrap64 ((l1.length : Int) - a2)) = (l0.length : Int) then (depotlaw03_same.l0 k l1 a2 l0 (l0.length : Int) 0) else (some false)) = some r := h
  clear h
  by_cases c4 : (wrap64 ((l1.length : Int) - a2)) = (l0.length : Int)
  · rw [if_pos c4] at H
    have c4b0 : ((wrap64 ((l1.length : Int) - a2)) == (l0.length : Int)) = true := beq_iff_eq.mpr c4
    have c4b1 : ((wrap64 ((l1.length : Int) - a2)) != (l0.length : Int)) = false := bne_eq_false_iff_eq.mpr c4
    clear c4
    have H' := Aside0.mk H
    clear H
    go_enter Try.func22, Try.ntmps22
    go_wp2
    go_loopg [19] k (fun kq v19 w' => ∃ (x19_1 : Int), v19 = .int .i64 x19_1 ∧ Aside0 (depotlaw03_same.l0 kq l1 a2 l0 (l0.length : Int) x19_1 = some r) ∧ Aside0 (kq ≤ k) ∧ Aside0 (Below w.heap.size w w'))
    case atStart => exact ⟨(0), (by first | rfl | (simp; done) | (simp [*]; done)), H', ⟨Nat.le_refl _⟩, ⟨by repeat (first | (with_reducible first | exact HB.out | apply below_alloc | apply pw_below_drewN | apply below_drew1) | exact HB.out)⟩⟩
    case round =>
      clear H'
      try clear c1
      try clear c2
      try clear p2
      try clear c4
      try clear c4b0
      try clear c4b1
      obtain ⟨x19_1, rfl, HA, HK1, HB⟩ := hrel
      cases gk with
      | zero => exact absurd HA.out (by simp [depotlaw03_same.l0])
      | succ k1 =>
        have H := HA.out
        clear HA
        simp only [depotlaw03_same.l0] at H
        by_cases c5 : x19_1 < (l0.length : Int)
        · rw [if_pos c5] at H
          have c5b0 : decide (x19_1 < (l0.length : Int)) = true := decide_eq_true c5
          clear c5
          by_cases c6 : 0 ≤ x19_1
          · rw [if_pos c6] at H
            have c6b0 : decide (0 ≤ x19_1) = true := decide_eq_true c6
            clear c6
            by_cases c7 : x19_1 < (l0.length : Int)
            · rw [if_pos c7] at H
              have c7b0 : decide (x19_1 < (l0.length : Int)) = true := decide_eq_true c7
              clear c7
              obtain ⟨ji8, hji8⟩ : ∃ j_ : Int, (wrap64 (a2 + x19_1)) = j_ := ⟨_, rfl⟩
              replace H : (if 0 ≤ (ji8) then (if (ji8) < (l1.length : Int) then (if (((rd_T55 l0 x19_1).f0) != ((rd_T78 l1 (ji8)).f0)) = true then (some false) else (if ((rd_T55 l0 x19_1).f1) = ((rd_T78 l1 (ji8)).f1) then (if ((rd_T55 l0 x19_1).f2).toList = ((rd_T78 l1 (ji8)).f2).toList then (depotlaw03_same.l0 k1 l1 a2 l0 (l0.length : Int) (wrap64 (x19_1 + 1))) else (some false)) else (some false))) else (none)) else (none)) = some r := by first | (rw [hji8] at H; exact H) | (simp only [hji8] at H ⊢; exact H)
              have hji8w : (IntKind.i64.wrap (a2 + x19_1)) = ji8 := (i64_w _).trans hji8
              by_cases c9 : 0 ≤ (ji8)
              · rw [if_pos c9] at H
                have c9b0 : decide (0 ≤ (ji8)) = true := decide_eq_true c9
                clear c9
                by_cases c10 : (ji8) < (l1.length : Int)
                · rw [if_pos c10] at H
                  have c10b0 : decide ((ji8) < (l1.length : Int)) = true := decide_eq_true c10
                  clear c10
                  by_cases c11 : (((rd_T55 l0 x19_1).f0) != ((rd_T78 l1 (ji8)).f0)) = true
                  · rw [if_pos c11] at H
                    have c11b0 : (((rd_T55 l0 x19_1).f0) != ((rd_T78 l1 (ji8)).f0)) = true := c11
                    (try (have c11b1 : decide (((rd_T55 l0 x19_1).f0) = ((rd_T78 l1 (ji8)).f0)) = false := by simpa using c11))
                    (try (have c11b2 : (((rd_T55 l0 x19_1).f0) == ((rd_T78 l1 (ji8)).f0)) = false := by simpa using c11))
                    (try (have c11b3 : ¬ (((rd_T55 l0 x19_1).f0) = ((rd_T78 l1 (ji8)).f0)) := by simpa using c11))
                    clear c11
                    obtain rfl := Option.some.inj H
                    have p158 : 0 ≤ (x19_1 : Int) := of_decide_eq_true (by first | (with_reducible assumption) | assumption)
                    have q158 : x19_1 < (l0.length : Int) := of_decide_eq_true (by first | (with_reducible assumption) | assumption)
                    obtain ⟨ad158, e158, hx158_0, hx158_1, hx158_2⟩ := at_T55 HR0.out x19_1 p158 q158
                    cases e158
                    replace hx158_0 := (HB.out.cell (World.block_lt_of_cell? w _ hx158_0)).trans hx158_0
                    replace hx158_1 := (HB.out.cell (World.block_lt_of_cell? w _ hx158_1)).trans hx158_1
                    replace hx158_2 := (HB.out.cell (World.block_lt_of_cell? w _ hx158_2)).trans hx158_2
                    replace p158 := eq_true p158
                    replace q158 := eq_true q158
                    go_wp2_with (first | ((with_reducible refine gate_dst (N := 8) rfl ?_); refine box_event ?hg (N := 8) ?hd (cs := #[.bool false, .int .u64 0, .string (⟨#[]⟩ : ByteArray)]) (t := 55) ?hr ?_; (case hd => rfl); (case hg => rfl); (case hr => first | (go_simp; done) | (go_simp; rfl)); intro gb159 hg w12 hbox hb; have n0_ := Aside0.mk (below_step (by repeat (first | (with_reducible first | exact HB.out | apply below_alloc | apply pw_below_drewN | apply below_drew1) | exact HB.out)) hb); have n1_ := Aside0.mk (hbox); have n2_ := Aside0.mk ((by rw [hg]; exact (below_size (by repeat (first | (with_reducible first | exact HB.out | apply below_alloc | apply pw_below_drewN | apply below_drew1) | exact HB.out))) : w.heap.size ≤ gb159)); have n3_ := Aside0.mk ((by rw [hg]; exact (below_size (by repeat (first | (with_reducible first | exact HB.out | apply below_alloc | apply pw_below_drewN | apply below_drew1) | exact HB.out))) : w.heap.size ≤ gb159)); clear HB; have HB := n0_; have BK159 := n1_; have GW159 := n2_; have GE159 := n3_; clear n0_ n1_ n2_ n3_; clear hb hbox hg; have hcz13_0 : w12.cell? ⟨gb159, 0, none⟩ = some (.bool false) := (blk_cell BK159.out 0).trans rfl; have hcz13_1 : w12.cell? ⟨gb159, 1, none⟩ = some (.int .u64 0) := (blk_cell BK159.out 1).trans rfl; have hcz13_2 : w12.cell? ⟨gb159, 2, none⟩ = some (.string (⟨#[]⟩ : ByteArray)) := (blk_cell BK159.out 2).trans rfl; have hfz13_0 := blk_frozen BK159.out 0; have hfz13_1 := blk_frozen BK159.out 1; have hfz13_2 := blk_frozen BK159.out 2; have p160 : 0 ≤ ((ji8) : Int) := of_decide_eq_true (by first | (with_reducible assumption) | assumption); have q160 : (ji8) < (l1.length : Int) := of_decide_eq_true (by first | (with_reducible assumption) | assumption); obtain ⟨ad160, e160, hx160_0, hx160_1, hx160_2⟩ := at_T78 HR1.out (ji8) p160 q160; cases e160; have hn160_0 : ad160.block ≠ gb159 := Nat.ne_of_lt (Nat.lt_of_lt_of_le (by have := World.block_lt_of_cell? _ _ hx160_0; first | rwa [add_block] at this | exact this) GW159.out); have hn160_1 : ad160.block ≠ gb159 := Nat.ne_of_lt (Nat.lt_of_lt_of_le (by have := World.block_lt_of_cell? _ _ hx160_0; first | rwa [add_block] at this | exact this) GW159.out); have hn160_2 : ad160.block ≠ gb159 := Nat.ne_of_lt (Nat.lt_of_lt_of_le (by have := World.block_lt_of_cell? _ _ hx160_0; first | rwa [add_block] at this | exact this) GW159.out); replace hx160_0 := (HB.out.cell (World.block_lt_of_cell? w _ hx160_0)).trans hx160_0; replace hx160_1 := (HB.out.cell (World.block_lt_of_cell? w _ hx160_1)).trans hx160_1; replace hx160_2 := (HB.out.cell (World.block_lt_of_cell? w _ hx160_2)).trans hx160_2; replace hx160_0 := (cell_far (p := ⟨gb159, 0, none⟩) (by first | (rw [add_block]; exact hn160_0) | (show (Addr.add _ _).block ≠ _; rw [add_block]; exact hn160_0) | exact hn160_0) (.bool ((rd_T55 l0 x19_1).f0))).trans hx160_0; replace hx160_1 := (cell_far (p := ⟨gb159, 0, none⟩) (by first | (rw [add_block]; exact hn160_0) | (show (Addr.add _ _).block ≠ _; rw [add_block]; exact hn160_0) | exact hn160_0) (.bool ((rd_T55 l0 x19_1).f0))).trans hx160_1; replace hx160_2 := (cell_far (p := ⟨gb159, 0, none⟩) (by first | (rw [add_block]; exact hn160_0) | (show (Addr.add _ _).block ≠ _; rw [add_block]; exact hn160_0) | exact hn160_0) (.bool ((rd_T55 l0 x19_1).f0))).trans hx160_2; replace hx160_0 := (cell_far (p := ⟨gb159, 1, none⟩) (by first | (rw [add_block]; exact hn160_1) | (show (Addr.add _ _).block ≠ _; rw [add_block]; exact hn160_1) | exact hn160_1) (.int .u64 ((rd_T55 l0 x19_1).f1))).trans hx160_0; replace hx160_1 := (cell_far (p := ⟨gb159, 1, none⟩) (by first | (rw [add_block]; exact hn160_1) | (show (Addr.add _ _).block ≠ _; rw [add_block]; exact hn160_1) | exact hn160_1) (.int .u64 ((rd_T55 l0 x19_1).f1))).trans hx160_1; replace hx160_2 := (cell_far (p := ⟨gb159, 1, none⟩) (by first | (rw [add_block]; exact hn160_1) | (show (Addr.add _ _).block ≠ _; rw [add_block]; exact hn160_1) | exact hn160_1) (.int .u64 ((rd_T55 l0 x19_1).f1))).trans hx160_2; replace hx160_0 := (cell_far (p := ⟨gb159, 2, none⟩) (by first | (rw [add_block]; exact hn160_2) | (show (Addr.add _ _).block ≠ _; rw [add_block]; exact hn160_2) | exact hn160_2) (.string ((rd_T55 l0 x19_1).f2))).trans hx160_0; replace hx160_1 := (cell_far (p := ⟨gb159, 2, none⟩) (by first | (rw [add_block]; exact hn160_2) | (show (Addr.add _ _).block ≠ _; rw [add_block]; exact hn160_2) | exact hn160_2) (.string ((rd_T55 l0 x19_1).f2))).trans hx160_1; replace hx160_2 := (cell_far (p := ⟨gb159, 2, none⟩) (by first | (rw [add_block]; exact hn160_2) | (show (Addr.add _ _).block ≠ _; rw [add_block]; exact hn160_2) | exact hn160_2) (.string ((rd_T55 l0 x19_1).f2))).trans hx160_2; clear hn160_0; clear hn160_1; clear hn160_2; replace p160 := eq_true p160; replace q160 := eq_true q160) | ((with_reducible refine gate_dst (N := 9) rfl ?_); refine box_event ?hg (N := 9) ?hd (cs := #[.bool false, .int .u64 0, .string (⟨#[]⟩ : ByteArray)]) (t := 78) ?hr ?_; (case hd => rfl); (case hg => rfl); (case hr => first | (go_simp; done) | (go_simp; rfl)); intro gb161 hg w14 hbox hb; have n0_ := Aside0.mk (blk_below (g := gb159) (o := .cells #[.bool ((rd_T55 l0 x19_1).f0), .int .u64 ((rd_T55 l0 x19_1).f1), .string ((rd_T55 l0 x19_1).f2)] 55 (0, 0)) (by (with_reducible repeat (first | refine blk_drewN ?_ _ | refine blk_drew ?_ | refine blk_alloc ?_ _)); refine blk_put (cs := #[.bool ((rd_T55 l0 x19_1).f0), .int .u64 ((rd_T55 l0 x19_1).f1), .string (⟨#[]⟩ : ByteArray)]) ?_ 2 _ rfl; (with_reducible repeat (first | refine blk_drewN ?_ _ | refine blk_drew ?_ | refine blk_alloc ?_ _)); refine blk_put (cs := #[.bool ((rd_T55 l0 x19_1).f0), .int .u64 0, .string (⟨#[]⟩ : ByteArray)]) ?_ 1 _ rfl; (with_reducible repeat (first | refine blk_drewN ?_ _ | refine blk_drew ?_ | refine blk_alloc ?_ _)); refine blk_put (cs := #[.bool false, .int .u64 0, .string (⟨#[]⟩ : ByteArray)]) ?_ 0 _ rfl; (with_reducible repeat (first | refine blk_drewN ?_ _ | refine blk_drew ?_ | refine blk_alloc ?_ _)); exact BK159.out) hb); have n1_ := Aside0.mk (below_step (by repeat (first | (with_reducible first | exact HB.out | apply below_alloc | apply pw_below_drewN | apply below_drew1 | refine below_set ?_ GE159.out) | exact HB.out)) hb); have n2_ := Aside0.mk (hbox); have n3_ := Aside0.mk ((by rw [hg]; exact (below_size (by repeat (first | (with_reducible first | exact HB.out | apply below_alloc | apply pw_below_drewN | apply below_drew1 | refine below_set ?_ GE159.out) | exact HB.out))) : w.heap.size ≤ gb161)); have n4_ := Aside0.mk ((by rw [hg]; exact (below_size (by repeat (first | (with_reducible first | exact HB.out | apply below_alloc | apply pw_below_drewN | apply below_drew1 | refine below_set ?_ GE159.out) | exact HB.out))) : w.heap.size ≤ gb161)); have n5_ := Aside0.mk ((by rw [hg]; exact Nat.ne_of_lt (blk_lt (g := gb159) (o := .cells #[.bool ((rd_T55 l0 x19_1).f0), .int .u64 ((rd_T55 l0 x19_1).f1), .string ((rd_T55 l0 x19_1).f2)] 55 (0, 0)) (by (with_reducible repeat (first | refine blk_drewN ?_ _ | refine blk_drew ?_ | refine blk_alloc ?_ _)); refine blk_put (cs := #[.bool ((rd_T55 l0 x19_1).f0), .int .u64 ((rd_T55 l0 x19_1).f1), .string (⟨#[]⟩ : ByteArray)]) ?_ 2 _ rfl; (with_reducible repeat (first | refine blk_drewN ?_ _ | refine blk_drew ?_ | refine blk_alloc ?_ _)); refine blk_put (cs := #[.bool ((rd_T55 l0 x19_1).f0), .int .u64 0, .string (⟨#[]⟩ : ByteArray)]) ?_ 1 _ rfl; (with_reducible repeat (first | refine blk_drewN ?_ _ | refine blk_drew ?_ | refine blk_alloc ?_ _)); refine blk_put (cs := #[.bool false, .int .u64 0, .string (⟨#[]⟩ : ByteArray)]) ?_ 0 _ rfl; (with_reducible repeat (first | refine blk_drewN ?_ _ | refine blk_drew ?_ | refine blk_alloc ?_ _)); exact BK159.out)) : gb159 ≠ gb161)); have n6_ := Aside0.mk ((by rw [hg]; exact Nat.ne_of_gt (blk_lt (g := gb159) (o := .cells #[.bool ((rd_T55 l0 x19_1).f0), .int .u64 ((rd_T55 l0 x19_1).f1), .string ((rd_T55 l0 x19_1).f2)] 55 (0, 0)) (by (with_reducible repeat (first | refine blk_drewN ?_ _ | refine blk_drew ?_ | refine blk_alloc ?_ _)); refine blk_put (cs := #[.bool ((rd_T55 l0 x19_1).f0), .int .u64 ((rd_T55 l0 x19_1).f1), .string (⟨#[]⟩ : ByteArray)]) ?_ 2 _ rfl; (with_reducible repeat (first | refine blk_drewN ?_ _ | refine blk_drew ?_ | refine blk_alloc ?_ _)); refine blk_put (cs := #[.bool ((rd_T55 l0 x19_1).f0), .int .u64 0, .string (⟨#[]⟩ : ByteArray)]) ?_ 1 _ rfl; (with_reducible repeat (first | refine blk_drewN ?_ _ | refine blk_drew ?_ | refine blk_alloc ?_ _)); refine blk_put (cs := #[.bool false, .int .u64 0, .string (⟨#[]⟩ : ByteArray)]) ?_ 0 _ rfl; (with_reducible repeat (first | refine blk_drewN ?_ _ | refine blk_drew ?_ | refine blk_alloc ?_ _)); exact BK159.out)) : gb161 ≠ gb159)); clear BK159; clear HB; have BK159 := n0_; have HB := n1_; have BK161 := n2_; have GW161 := n3_; have GE161 := n4_; have NB159_161 := n5_; have NB161_159 := n6_; clear n0_ n1_ n2_ n3_ n4_ n5_ n6_; clear hb hbox hg; have hnb15 := NB161_159.out; have hnc15 := NB159_161.out; have hcz16_0 : w14.cell? ⟨gb161, 0, none⟩ = some (.bool false) := (blk_cell BK161.out 0).trans rfl; have hcz16_1 : w14.cell? ⟨gb161, 1, none⟩ = some (.int .u64 0) := (blk_cell BK161.out 1).trans rfl; have hcz16_2 : w14.cell? ⟨gb161, 2, none⟩ = some (.string (⟨#[]⟩ : ByteArray)) := (blk_cell BK161.out 2).trans rfl; have hfz16_0 := blk_frozen BK161.out 0; have hfz16_1 := blk_frozen BK161.out 1; have hfz16_2 := blk_frozen BK161.out 2; have hcz17_0 : w14.cell? ⟨gb159, 0, none⟩ = some (.bool ((rd_T55 l0 x19_1).f0)) := (blk_cell BK159.out 0).trans rfl; have hcz17_1 : w14.cell? ⟨gb159, 1, none⟩ = some (.int .u64 ((rd_T55 l0 x19_1).f1)) := (blk_cell BK159.out 1).trans rfl; have hcz17_2 : w14.cell? ⟨gb159, 2, none⟩ = some (.string ((rd_T55 l0 x19_1).f2)) := (blk_cell BK159.out 2).trans rfl; have hfz17_0 := blk_frozen BK159.out 0; have hfz17_1 := blk_frozen BK159.out 1; have hfz17_2 := blk_frozen BK159.out 2))
                    go_ret
                    exact ⟨by first | rfl | (simp [errW_none, errW_some] <;> rfl) | (simp only [← hji8]; first | rfl | (simp [errW_none, errW_some] <;> rfl)) | (simp [*, errW_none, errW_some] <;> rfl), by repeat (first | (with_reducible first | exact HB.out | apply below_alloc | apply pw_below_drewN | apply below_drew1 | refine below_set ?_ GE159.out | refine below_set ?_ GE161.out) | exact HB.out)⟩
                  · rw [if_neg c11] at H
                    have c11b0 : (((rd_T55 l0 x19_1).f0) != ((rd_T78 l1 (ji8)).f0)) = false := by simpa using c11
                    (try (have c11b1 : decide (((rd_T55 l0 x19_1).f0) = ((rd_T78 l1 (ji8)).f0)) = true := by simpa using c11))
                    (try (have c11b2 : (((rd_T55 l0 x19_1).f0) == ((rd_T78 l1 (ji8)).f0)) = true := by simpa using c11))
                    clear c11
                    by_cases c18 : ((rd_T55 l0 x19_1).f1) = ((rd_T78 l1 (ji8)).f1)
                    · rw [if_pos c18] at H
                      have c18b0 : (((rd_T55 l0 x19_1).f1) == ((rd_T78 l1 (ji8)).f1)) = true := beq_iff_eq.mpr c18
                      have c18b1 : (((rd_T55 l0 x19_1).f1) != ((rd_T78 l1 (ji8)).f1)) = false := bne_eq_false_iff_eq.mpr c18
                      clear c18
                      by_cases c19 : ((rd_T55 l0 x19_1).f2).toList = ((rd_T78 l1 (ji8)).f2).toList
                      · rw [if_pos c19] at H
                        have c19b0 : (((rd_T55 l0 x19_1).f2).toList == ((rd_T78 l1 (ji8)).f2).toList) = true := beq_iff_eq.mpr c19
                        have c19b1 : (((rd_T55 l0 x19_1).f2).toList != ((rd_T78 l1 (ji8)).f2).toList) = false := bne_eq_false_iff_eq.mpr c19
                        clear c19
                        have H' := Aside0.mk H
                        clear H
                        have p158 : 0 ≤ (x19_1 : Int) := of_decide_eq_true (by first | (with_reducible assumption) | assumption)
                        have q158 : x19_1 < (l0.length : Int) := of_decide_eq_true (by first | (with_reducible assumption) | assumption)
                        obtain ⟨ad158, e158, hx158_0, hx158_1, hx158_2⟩ := at_T55 HR0.out x19_1 p158 q158
                        cases e158
                        replace hx158_0 := (HB.out.cell (World.block_lt_of_cell? w _ hx158_0)).trans hx158_0
                        replace hx158_1 := (HB.out.cell (World.block_lt_of_cell? w _ hx158_1)).trans hx158_1
                        replace hx158_2 := (HB.out.cell (World.block_lt_of_cell? w _ hx158_2)).trans hx158_2
                        replace p158 := eq_true p158
                        replace q158 := eq_true q158
                        go_wp2_with (first | ((with_reducible refine gate_dst (N := 8) rfl ?_); refine box_event ?hg (N := 8) ?hd (cs := #[.bool false, .int .u64 0, .string (⟨#[]⟩ : ByteArray)]) (t := 55) ?hr ?_; (case hd => rfl); (case hg => rfl); (case hr => first | (go_simp; done) | (go_simp; rfl)); intro gb159 hg w20 hbox hb; have n0_ := Aside0.mk (below_step (by repeat (first | (with_reducible first | exact HB.out | apply below_alloc | apply pw_below_drewN | apply below_drew1) | exact HB.out)) hb); have n1_ := Aside0.mk (hbox); have n2_ := Aside0.mk ((by rw [hg]; exact (below_size (by repeat (first | (with_reducible first | exact HB.out | apply below_alloc | apply pw_below_drewN | apply below_drew1) | exact HB.out))) : w.heap.size ≤ gb159)); have n3_ := Aside0.mk ((by rw [hg]; exact (below_size (by repeat (first | (with_reducible first | exact HB.out | apply below_alloc | apply pw_below_drewN | apply below_drew1) | exact HB.out))) : w.heap.size ≤ gb159)); clear HB; have HB := n0_; have BK159 := n1_; have GW159 := n2_; have GE159 := n3_; clear n0_ n1_ n2_ n3_; clear hb hbox hg; have hcz21_0 : w20.cell? ⟨gb159, 0, none⟩ = some (.bool false) := (blk_cell BK159.out 0).trans rfl; have hcz21_1 : w20.cell? ⟨gb159, 1, none⟩ = some (.int .u64 0) := (blk_cell BK159.out 1).trans rfl; have hcz21_2 : w20.cell? ⟨gb159, 2, none⟩ = some (.string (⟨#[]⟩ : ByteArray)) := (blk_cell BK159.out 2).trans rfl; have hfz21_0 := blk_frozen BK159.out 0; have hfz21_1 := blk_frozen BK159.out 1; have hfz21_2 := blk_frozen BK159.out 2; have p160 : 0 ≤ ((ji8) : Int) := of_decide_eq_true (by first | (with_reducible assumption) | assumption); have q160 : (ji8) < (l1.length : Int) := of_decide_eq_true (by first | (with_reducible assumption) | assumption); obtain ⟨ad160, e160, hx160_0, hx160_1, hx160_2⟩ := at_T78 HR1.out (ji8) p160 q160; cases e160; have hn160_0 : ad160.block ≠ gb159 := Nat.ne_of_lt (Nat.lt_of_lt_of_le (by have := World.block_lt_of_cell? _ _ hx160_0; first | rwa [add_block] at this | exact this) GW159.out); have hn160_1 : ad160.block ≠ gb159 := Nat.ne_of_lt (Nat.lt_of_lt_of_le (by have := World.block_lt_of_cell? _ _ hx160_0; first | rwa [add_block] at this | exact this) GW159.out); have hn160_2 : ad160.block ≠ gb159 := Nat.ne_of_lt (Nat.lt_of_lt_of_le (by have := World.block_lt_of_cell? _ _ hx160_0; first | rwa [add_block] at this | exact this) GW159.out); replace hx160_0 := (HB.out.cell (World.block_lt_of_cell? w _ hx160_0)).trans hx160_0; replace hx160_1 := (HB.out.cell (World.block_lt_of_cell? w _ hx160_1)).trans hx160_1; replace hx160_2 := (HB.out.cell (World.block_lt_of_cell? w _ hx160_2)).trans hx160_2; replace hx160_0 := (cell_far (p := ⟨gb159, 0, none⟩) (by first | (rw [add_block]; exact hn160_0) | (show (Addr.add _ _).block ≠ _; rw [add_block]; exact hn160_0) | exact hn160_0) (.bool ((rd_T55 l0 x19_1).f0))).trans hx160_0; replace hx160_1 := (cell_far (p := ⟨gb159, 0, none⟩) (by first | (rw [add_block]; exact hn160_0) | (show (Addr.add _ _).block ≠ _; rw [add_block]; exact hn160_0) | exact hn160_0) (.bool ((rd_T55 l0 x19_1).f0))).trans hx160_1; replace hx160_2 := (cell_far (p := ⟨gb159, 0, none⟩) (by first | (rw [add_block]; exact hn160_0) | (show (Addr.add _ _).block ≠ _; rw [add_block]; exact hn160_0) | exact hn160_0) (.bool ((rd_T55 l0 x19_1).f0))).trans hx160_2; replace hx160_0 := (cell_far (p := ⟨gb159, 1, none⟩) (by first | (rw [add_block]; exact hn160_1) | (show (Addr.add _ _).block ≠ _; rw [add_block]; exact hn160_1) | exact hn160_1) (.int .u64 ((rd_T55 l0 x19_1).f1))).trans hx160_0; replace hx160_1 := (cell_far (p := ⟨gb159, 1, none⟩) (by first | (rw [add_block]; exact hn160_1) | (show (Addr.add _ _).block ≠ _; rw [add_block]; exact hn160_1) | exact hn160_1) (.int .u64 ((rd_T55 l0 x19_1).f1))).trans hx160_1; replace hx160_2 := (cell_far (p := ⟨gb159, 1, none⟩) (by first | (rw [add_block]; exact hn160_1) | (show (Addr.add _ _).block ≠ _; rw [add_block]; exact hn160_1) | exact hn160_1) (.int .u64 ((rd_T55 l0 x19_1).f1))).trans hx160_2; replace hx160_0 := (cell_far (p := ⟨gb159, 2, none⟩) (by first | (rw [add_block]; exact hn160_2) | (show (Addr.add _ _).block ≠ _; rw [add_block]; exact hn160_2) | exact hn160_2) (.string ((rd_T55 l0 x19_1).f2))).trans hx160_0; replace hx160_1 := (cell_far (p := ⟨gb159, 2, none⟩) (by first | (rw [add_block]; exact hn160_2) | (show (Addr.add _ _).block ≠ _; rw [add_block]; exact hn160_2) | exact hn160_2) (.string ((rd_T55 l0 x19_1).f2))).trans hx160_1; replace hx160_2 := (cell_far (p := ⟨gb159, 2, none⟩) (by first | (rw [add_block]; exact hn160_2) | (show (Addr.add _ _).block ≠ _; rw [add_block]; exact hn160_2) | exact hn160_2) (.string ((rd_T55 l0 x19_1).f2))).trans hx160_2; clear hn160_0; clear hn160_1; clear hn160_2; replace p160 := eq_true p160; replace q160 := eq_true q160) | ((with_reducible refine gate_dst (N := 9) rfl ?_); refine box_event ?hg (N := 9) ?hd (cs := #[.bool false, .int .u64 0, .string (⟨#[]⟩ : ByteArray)]) (t := 78) ?hr ?_; (case hd => rfl); (case hg => rfl); (case hr => first | (go_simp; done) | (go_simp; rfl)); intro gb161 hg w22 hbox hb; have n0_ := Aside0.mk (blk_below (g := gb159) (o := .cells #[.bool ((rd_T55 l0 x19_1).f0), .int .u64 ((rd_T55 l0 x19_1).f1), .string ((rd_T55 l0 x19_1).f2)] 55 (0, 0)) (by (with_reducible repeat (first | refine blk_drewN ?_ _ | refine blk_drew ?_ | refine blk_alloc ?_ _)); refine blk_put (cs := #[.bool ((rd_T55 l0 x19_1).f0), .int .u64 ((rd_T55 l0 x19_1).f1), .string (⟨#[]⟩ : ByteArray)]) ?_ 2 _ rfl; (with_reducible repeat (first | refine blk_drewN ?_ _ | refine blk_drew ?_ | refine blk_alloc ?_ _)); refine blk_put (cs := #[.bool ((rd_T55 l0 x19_1).f0), .int .u64 0, .string (⟨#[]⟩ : ByteArray)]) ?_ 1 _ rfl; (with_reducible repeat (first | refine blk_drewN ?_ _ | refine blk_drew ?_ | refine blk_alloc ?_ _)); refine blk_put (cs := #[.bool false, .int .u64 0, .string (⟨#[]⟩ : ByteArray)]) ?_ 0 _ rfl; (with_reducible repeat (first | refine blk_drewN ?_ _ | refine blk_drew ?_ | refine blk_alloc ?_ _)); exact BK159.out) hb); have n1_ := Aside0.mk (below_step (by repeat (first | (with_reducible first | exact HB.out | apply below_alloc | apply pw_below_drewN | apply below_drew1 | refine below_set ?_ GE159.out) | exact HB.out)) hb); have n2_ := Aside0.mk (hbox); have n3_ := Aside0.mk ((by rw [hg]; exact (below_size (by repeat (first | (with_reducible first | exact HB.out | apply below_alloc | apply pw_below_drewN | apply below_drew1 | refine below_set ?_ GE159.out) | exact HB.out))) : w.heap.size ≤ gb161)); have n4_ := Aside0.mk ((by rw [hg]; exact (below_size (by repeat (first | (with_reducible first | exact HB.out | apply below_alloc | apply pw_below_drewN | apply below_drew1 | refine below_set ?_ GE159.out) | exact HB.out))) : w.heap.size ≤ gb161)); have n5_ := Aside0.mk ((by rw [hg]; exact Nat.ne_of_lt (blk_lt (g := gb159) (o := .cells #[.bool ((rd_T55 l0 x19_1).f0), .int .u64 ((rd_T55 l0 x19_1).f1), .string ((rd_T55 l0 x19_1).f2)] 55 (0, 0)) (by (with_reducible repeat (first | refine blk_drewN ?_ _ | refine blk_drew ?_ | refine blk_alloc ?_ _)); refine blk_put (cs := #[.bool ((rd_T55 l0 x19_1).f0), .int .u64 ((rd_T55 l0 x19_1).f1), .string (⟨#[]⟩ : ByteArray)]) ?_ 2 _ rfl; (with_reducible repeat (first | refine blk_drewN ?_ _ | refine blk_drew ?_ | refine blk_alloc ?_ _)); refine blk_put (cs := #[.bool ((rd_T55 l0 x19_1).f0), .int .u64 0, .string (⟨#[]⟩ : ByteArray)]) ?_ 1 _ rfl; (with_reducible repeat (first | refine blk_drewN ?_ _ | refine blk_drew ?_ | refine blk_alloc ?_ _)); refine blk_put (cs := #[.bool false, .int .u64 0, .string (⟨#[]⟩ : ByteArray)]) ?_ 0 _ rfl; (with_reducible repeat (first | refine blk_drewN ?_ _ | refine blk_drew ?_ | refine blk_alloc ?_ _)); exact BK159.out)) : gb159 ≠ gb161)); have n6_ := Aside0.mk ((by rw [hg]; exact Nat.ne_of_gt (blk_lt (g := gb159) (o := .cells #[.bool ((rd_T55 l0 x19_1).f0), .int .u64 ((rd_T55 l0 x19_1).f1), .string ((rd_T55 l0 x19_1).f2)] 55 (0, 0)) (by (with_reducible repeat (first | refine blk_drewN ?_ _ | refine blk_drew ?_ | refine blk_alloc ?_ _)); refine blk_put (cs := #[.bool ((rd_T55 l0 x19_1).f0), .int .u64 ((rd_T55 l0 x19_1).f1), .string (⟨#[]⟩ : ByteArray)]) ?_ 2 _ rfl; (with_reducible repeat (first | refine blk_drewN ?_ _ | refine blk_drew ?_ | refine blk_alloc ?_ _)); refine blk_put (cs := #[.bool ((rd_T55 l0 x19_1).f0), .int .u64 0, .string (⟨#[]⟩ : ByteArray)]) ?_ 1 _ rfl; (with_reducible repeat (first | refine blk_drewN ?_ _ | refine blk_drew ?_ | refine blk_alloc ?_ _)); refine blk_put (cs := #[.bool false, .int .u64 0, .string (⟨#[]⟩ : ByteArray)]) ?_ 0 _ rfl; (with_reducible repeat (first | refine blk_drewN ?_ _ | refine blk_drew ?_ | refine blk_alloc ?_ _)); exact BK159.out)) : gb161 ≠ gb159)); clear BK159; clear HB; have BK159 := n0_; have HB := n1_; have BK161 := n2_; have GW161 := n3_; have GE161 := n4_; have NB159_161 := n5_; have NB161_159 := n6_; clear n0_ n1_ n2_ n3_ n4_ n5_ n6_; clear hb hbox hg; have hnb23 := NB161_159.out; have hnc23 := NB159_161.out; have hcz24_0 : w22.cell? ⟨gb161, 0, none⟩ = some (.bool false) := (blk_cell BK161.out 0).trans rfl; have hcz24_1 : w22.cell? ⟨gb161, 1, none⟩ = some (.int .u64 0) := (blk_cell BK161.out 1).trans rfl; have hcz24_2 : w22.cell? ⟨gb161, 2, none⟩ = some (.string (⟨#[]⟩ : ByteArray)) := (blk_cell BK161.out 2).trans rfl; have hfz24_0 := blk_frozen BK161.out 0; have hfz24_1 := blk_frozen BK161.out 1; have hfz24_2 := blk_frozen BK161.out 2; have hcz25_0 : w22.cell? ⟨gb159, 0, none⟩ = some (.bool ((rd_T55 l0 x19_1).f0)) := (blk_cell BK159.out 0).trans rfl; have hcz25_1 : w22.cell? ⟨gb159, 1, none⟩ = some (.int .u64 ((rd_T55 l0 x19_1).f1)) := (blk_cell BK159.out 1).trans rfl; have hcz25_2 : w22.cell? ⟨gb159, 2, none⟩ = some (.string ((rd_T55 l0 x19_1).f2)) := (blk_cell BK159.out 2).trans rfl; have hfz25_0 := blk_frozen BK159.out 0; have hfz25_1 := blk_frozen BK159.out 1; have hfz25_2 := blk_frozen BK159.out 2))
                        go_roundg k1
                        case measure => have := HK1.out; omega
                        case rel => exact ⟨(wrap64 (x19_1 + 1)), (by first | rfl | (simp; done) | (simp [*]; done)), H', ⟨by have := HK1.out; omega⟩, ⟨by repeat (first | (with_reducible first | exact HB.out | apply below_alloc | apply pw_below_drewN | apply below_drew1 | refine below_set ?_ GE159.out | refine below_set ?_ GE161.out) | exact HB.out)⟩⟩
                      · rw [if_neg c19] at H
                        have c19b0 : (((rd_T55 l0 x19_1).f2).toList == ((rd_T78 l1 (ji8)).f2).toList) = false := beq_eq_false_iff_ne.mpr c19
                        have c19b1 : (((rd_T55 l0 x19_1).f2).toList != ((rd_T78 l1 (ji8)).f2).toList) = true := bne_iff_ne.mpr c19
                        obtain rfl := Option.some.inj H
                        have p158 : 0 ≤ (x19_1 : Int) := of_decide_eq_true (by first | (with_reducible assumption) | assumption)
                        have q158 : x19_1 < (l0.length : Int) := of_decide_eq_true (by first | (with_reducible assumption) | assumption)
                        obtain ⟨ad158, e158, hx158_0, hx158_1, hx158_2⟩ := at_T55 HR0.out x19_1 p158 q158
                        cases e158
                        replace hx158_0 := (HB.out.cell (World.block_lt_of_cell? w _ hx158_0)).trans hx158_0
                        replace hx158_1 := (HB.out.cell (World.block_lt_of_cell? w _ hx158_1)).trans hx158_1
                        replace hx158_2 := (HB.out.cell (World.block_lt_of_cell? w _ hx158_2)).trans hx158_2
                        replace p158 := eq_true p158
                        replace q158 := eq_true q158
                        go_wp2_with (first | ((with_reducible refine gate_dst (N := 8) rfl ?_); refine box_event ?hg (N := 8) ?hd (cs := #[.bool false, .int .u64 0, .string (⟨#[]⟩ : ByteArray)]) (t := 55) ?hr ?_; (case hd => rfl); (case hg => rfl); (case hr => first | (go_simp; done) | (go_simp; rfl)); intro gb159 hg w26 hbox hb; have n0_ := Aside0.mk (below_step (by repeat (first | (with_reducible first | exact HB.out | apply below_alloc | apply pw_below_drewN | apply below_drew1) | exact HB.out)) hb); have n1_ := Aside0.mk (hbox); have n2_ := Aside0.mk ((by rw [hg]; exact (below_size (by repeat (first | (with_reducible first | exact HB.out | apply below_alloc | apply pw_below_drewN | apply below_drew1) | exact HB.out))) : w.heap.size ≤ gb159)); have n3_ := Aside0.mk ((by rw [hg]; exact (below_size (by repeat (first | (with_reducible first | exact HB.out | apply below_alloc | apply pw_below_drewN | apply below_drew1) | exact HB.out))) : w.heap.size ≤ gb159)); clear HB; have HB := n0_; have BK159 := n1_; have GW159 := n2_; have GE159 := n3_; clear n0_ n1_ n2_ n3_; clear hb hbox hg; have hcz27_0 : w26.cell? ⟨gb159, 0, none⟩ = some (.bool false) := (blk_cell BK159.out 0).trans rfl; have hcz27_1 : w26.cell? ⟨gb159, 1, none⟩ = some (.int .u64 0) := (blk_cell BK159.out 1).trans rfl; have hcz27_2 : w26.cell? ⟨gb159, 2, none⟩ = some (.string (⟨#[]⟩ : ByteArray)) := (blk_cell BK159.out 2).trans rfl; have hfz27_0 := blk_frozen BK159.out 0; have hfz27_1 := blk_frozen BK159.out 1; have hfz27_2 := blk_frozen BK159.out 2; have p160 : 0 ≤ ((ji8) : Int) := of_decide_eq_true (by first | (with_reducible assumption) | assumption); have q160 : (ji8) < (l1.length : Int) := of_decide_eq_true (by first | (with_reducible assumption) | assumption); obtain ⟨ad160, e160, hx160_0, hx160_1, hx160_2⟩ := at_T78 HR1.out (ji8) p160 q160; cases e160; have hn160_0 : ad160.block ≠ gb159 := Nat.ne_of_lt (Nat.lt_of_lt_of_le (by have := World.block_lt_of_cell? _ _ hx160_0; first | rwa [add_block] at this | exact this) GW159.out); have hn160_1 : ad160.block ≠ gb159 := Nat.ne_of_lt (Nat.lt_of_lt_of_le (by have := World.block_lt_of_cell? _ _ hx160_0; first | rwa [add_block] at this | exact this) GW159.out); have hn160_2 : ad160.block ≠ gb159 := Nat.ne_of_lt (Nat.lt_of_lt_of_le (by have := World.block_lt_of_cell? _ _ hx160_0; first | rwa [add_block] at this | exact this) GW159.out); replace hx160_0 := (HB.out.cell (World.block_lt_of_cell? w _ hx160_0)).trans hx160_0; replace hx160_1 := (HB.out.cell (World.block_lt_of_cell? w _ hx160_1)).trans hx160_1; replace hx160_2 := (HB.out.cell (World.block_lt_of_cell? w _ hx160_2)).trans hx160_2; replace hx160_0 := (cell_far (p := ⟨gb159, 0, none⟩) (by first | (rw [add_block]; exact hn160_0) | (show (Addr.add _ _).block ≠ _; rw [add_block]; exact hn160_0) | exact hn160_0) (.bool ((rd_T55 l0 x19_1).f0))).trans hx160_0; replace hx160_1 := (cell_far (p := ⟨gb159, 0, none⟩) (by first | (rw [add_block]; exact hn160_0) | (show (Addr.add _ _).block ≠ _; rw [add_block]; exact hn160_0) | exact hn160_0) (.bool ((rd_T55 l0 x19_1).f0))).trans hx160_1; replace hx160_2 := (cell_far (p := ⟨gb159, 0, none⟩) (by first | (rw [add_block]; exact hn160_0) | (show (Addr.add _ _).block ≠ _; rw [add_block]; exact hn160_0) | exact hn160_0) (.bool ((rd_T55 l0 x19_1).f0))).trans hx160_2; replace hx160_0 := (cell_far (p := ⟨gb159, 1, none⟩) (by first | (rw [add_block]; exact hn160_1) | (show (Addr.add _ _).block ≠ _; rw [add_block]; exact hn160_1) | exact hn160_1) (.int .u64 ((rd_T55 l0 x19_1).f1))).trans hx160_0; replace hx160_1 := (cell_far (p := ⟨gb159, 1, none⟩) (by first | (rw [add_block]; exact hn160_1) | (show (Addr.add _ _).block ≠ _; rw [add_block]; exact hn160_1) | exact hn160_1) (.int .u64 ((rd_T55 l0 x19_1).f1))).trans hx160_1; replace hx160_2 := (cell_far (p := ⟨gb159, 1, none⟩) (by first | (rw [add_block]; exact hn160_1) | (show (Addr.add _ _).block ≠ _; rw [add_block]; exact hn160_1) | exact hn160_1) (.int .u64 ((rd_T55 l0 x19_1).f1))).trans hx160_2; replace hx160_0 := (cell_far (p := ⟨gb159, 2, none⟩) (by first | (rw [add_block]; exact hn160_2) | (show (Addr.add _ _).block ≠ _; rw [add_block]; exact hn160_2) | exact hn160_2) (.string ((rd_T55 l0 x19_1).f2))).trans hx160_0; replace hx160_1 := (cell_far (p := ⟨gb159, 2, none⟩) (by first | (rw [add_block]; exact hn160_2) | (show (Addr.add _ _).block ≠ _; rw [add_block]; exact hn160_2) | exact hn160_2) (.string ((rd_T55 l0 x19_1).f2))).trans hx160_1; replace hx160_2 := (cell_far (p := ⟨gb159, 2, none⟩) (by first | (rw [add_block]; exact hn160_2) | (show (Addr.add _ _).block ≠ _; rw [add_block]; exact hn160_2) | exact hn160_2) (.string ((rd_T55 l0 x19_1).f2))).trans hx160_2; clear hn160_0; clear hn160_1; clear hn160_2; replace p160 := eq_true p160; replace q160 := eq_true q160) | ((with_reducible refine gate_dst (N := 9) rfl ?_); refine box_event ?hg (N := 9) ?hd (cs := #[.bool false, .int .u64 0, .string (⟨#[]⟩ : ByteArray)]) (t := 78) ?hr ?_; (case hd => rfl); (case hg => rfl); (case hr => first | (go_simp; done) | (go_simp; rfl)); intro gb161 hg w28 hbox hb; have n0_ := Aside0.mk (blk_below (g := gb159) (o := .cells #[.bool ((rd_T55 l0 x19_1).f0), .int .u64 ((rd_T55 l0 x19_1).f1), .string ((rd_T55 l0 x19_1).f2)] 55 (0, 0)) (by (with_reducible repeat (first | refine blk_drewN ?_ _ | refine blk_drew ?_ | refine blk_alloc ?_ _)); refine blk_put (cs := #[.bool ((rd_T55 l0 x19_1).f0), .int .u64 ((rd_T55 l0 x19_1).f1), .string (⟨#[]⟩ : ByteArray)]) ?_ 2 _ rfl; (with_reducible repeat (first | refine blk_drewN ?_ _ | refine blk_drew ?_ | refine blk_alloc ?_ _)); refine blk_put (cs := #[.bool ((rd_T55 l0 x19_1).f0), .int .u64 0, .string (⟨#[]⟩ : ByteArray)]) ?_ 1 _ rfl; (with_reducible repeat (first | refine blk_drewN ?_ _ | refine blk_drew ?_ | refine blk_alloc ?_ _)); refine blk_put (cs := #[.bool false, .int .u64 0, .string (⟨#[]⟩ : ByteArray)]) ?_ 0 _ rfl; (with_reducible repeat (first | refine blk_drewN ?_ _ | refine blk_drew ?_ | refine blk_alloc ?_ _)); exact BK159.out) hb); have n1_ := Aside0.mk (below_step (by repeat (first | (with_reducible first | exact HB.out | apply below_alloc | apply pw_below_drewN | apply below_drew1 | refine below_set ?_ GE159.out) | exact HB.out)) hb); have n2_ := Aside0.mk (hbox); have n3_ := Aside0.mk ((by rw [hg]; exact (below_size (by repeat (first | (with_reducible first | exact HB.out | apply below_alloc | apply pw_below_drewN | apply below_drew1 | refine below_set ?_ GE159.out) | exact HB.out))) : w.heap.size ≤ gb161)); have n4_ := Aside0.mk ((by rw [hg]; exact (below_size (by repeat (first | (with_reducible first | exact HB.out | apply below_alloc | apply pw_below_drewN | apply below_drew1 | refine below_set ?_ GE159.out) | exact HB.out))) : w.heap.size ≤ gb161)); have n5_ := Aside0.mk ((by rw [hg]; exact Nat.ne_of_lt (blk_lt (g := gb159) (o := .cells #[.bool ((rd_T55 l0 x19_1).f0), .int .u64 ((rd_T55 l0 x19_1).f1), .string ((rd_T55 l0 x19_1).f2)] 55 (0, 0)) (by (with_reducible repeat (first | refine blk_drewN ?_ _ | refine blk_drew ?_ | refine blk_alloc ?_ _)); refine blk_put (cs := #[.bool ((rd_T55 l0 x19_1).f0), .int .u64 ((rd_T55 l0 x19_1).f1), .string (⟨#[]⟩ : ByteArray)]) ?_ 2 _ rfl; (with_reducible repeat (first | refine blk_drewN ?_ _ | refine blk_drew ?_ | refine blk_alloc ?_ _)); refine blk_put (cs := #[.bool ((rd_T55 l0 x19_1).f0), .int .u64 0, .string (⟨#[]⟩ : ByteArray)]) ?_ 1 _ rfl; (with_reducible repeat (first | refine blk_drewN ?_ _ | refine blk_drew ?_ | refine blk_alloc ?_ _)); refine blk_put (cs := #[.bool false, .int .u64 0, .string (⟨#[]⟩ : ByteArray)]) ?_ 0 _ rfl; (with_reducible repeat (first | refine blk_drewN ?_ _ | refine blk_drew ?_ | refine blk_alloc ?_ _)); exact BK159.out)) : gb159 ≠ gb161)); have n6_ := Aside0.mk ((by rw [hg]; exact Nat.ne_of_gt (blk_lt (g := gb159) (o := .cells #[.bool ((rd_T55 l0 x19_1).f0), .int .u64 ((rd_T55 l0 x19_1).f1), .string ((rd_T55 l0 x19_1).f2)] 55 (0, 0)) (by (with_reducible repeat (first | refine blk_drewN ?_ _ | refine blk_drew ?_ | refine blk_alloc ?_ _)); refine blk_put (cs := #[.bool ((rd_T55 l0 x19_1).f0), .int .u64 ((rd_T55 l0 x19_1).f1), .string (⟨#[]⟩ : ByteArray)]) ?_ 2 _ rfl; (with_reducible repeat (first | refine blk_drewN ?_ _ | refine blk_drew ?_ | refine blk_alloc ?_ _)); refine blk_put (cs := #[.bool ((rd_T55 l0 x19_1).f0), .int .u64 0, .string (⟨#[]⟩ : ByteArray)]) ?_ 1 _ rfl; (with_reducible repeat (first | refine blk_drewN ?_ _ | refine blk_drew ?_ | refine blk_alloc ?_ _)); refine blk_put (cs := #[.bool false, .int .u64 0, .string (⟨#[]⟩ : ByteArray)]) ?_ 0 _ rfl; (with_reducible repeat (first | refine blk_drewN ?_ _ | refine blk_drew ?_ | refine blk_alloc ?_ _)); exact BK159.out)) : gb161 ≠ gb159)); clear BK159; clear HB; have BK159 := n0_; have HB := n1_; have BK161 := n2_; have GW161 := n3_; have GE161 := n4_; have NB159_161 := n5_; have NB161_159 := n6_; clear n0_ n1_ n2_ n3_ n4_ n5_ n6_; clear hb hbox hg; have hnb29 := NB161_159.out; have hnc29 := NB159_161.out; have hcz30_0 : w28.cell? ⟨gb161, 0, none⟩ = some (.bool false) := (blk_cell BK161.out 0).trans rfl; have hcz30_1 : w28.cell? ⟨gb161, 1, none⟩ = some (.int .u64 0) := (blk_cell BK161.out 1).trans rfl; have hcz30_2 : w28.cell? ⟨gb161, 2, none⟩ = some (.string (⟨#[]⟩ : ByteArray)) := (blk_cell BK161.out 2).trans rfl; have hfz30_0 := blk_frozen BK161.out 0; have hfz30_1 := blk_frozen BK161.out 1; have hfz30_2 := blk_frozen BK161.out 2; have hcz31_0 : w28.cell? ⟨gb159, 0, none⟩ = some (.bool ((rd_T55 l0 x19_1).f0)) := (blk_cell BK159.out 0).trans rfl; have hcz31_1 : w28.cell? ⟨gb159, 1, none⟩ = some (.int .u64 ((rd_T55 l0 x19_1).f1)) := (blk_cell BK159.out 1).trans rfl; have hcz31_2 : w28.cell? ⟨gb159, 2, none⟩ = some (.string ((rd_T55 l0 x19_1).f2)) := (blk_cell BK159.out 2).trans rfl; have hfz31_0 := blk_frozen BK159.out 0; have hfz31_1 := blk_frozen BK159.out 1; have hfz31_2 := blk_frozen BK159.out 2))
                        go_ret
                        exact ⟨by first | rfl | (simp [errW_none, errW_some] <;> rfl) | (simp only [← hji8]; first | rfl | (simp [errW_none, errW_some] <;> rfl)) | (simp [*, errW_none, errW_some] <;> rfl), by repeat (first | (with_reducible first | exact HB.out | apply below_alloc | apply pw_below_drewN | apply below_drew1 | refine below_set ?_ GE159.out | refine below_set ?_ GE161.out) | exact HB.out)⟩
                    · rw [if_neg c18] at H
                      have c18b0 : (((rd_T55 l0 x19_1).f1) == ((rd_T78 l1 (ji8)).f1)) = false := beq_eq_false_iff_ne.mpr c18
                      have c18b1 : (((rd_T55 l0 x19_1).f1) != ((rd_T78 l1 (ji8)).f1)) = true := bne_iff_ne.mpr c18
                      obtain rfl := Option.some.inj H
                      have p158 : 0 ≤ (x19_1 : Int) := of_decide_eq_true (by first | (with_reducible assumption) | assumption)
                      have q158 : x19_1 < (l0.length : Int) := of_decide_eq_true (by first | (with_reducible assumption) | assumption)
                      obtain ⟨ad158, e158, hx158_0, hx158_1, hx158_2⟩ := at_T55 HR0.out x19_1 p158 q158
                      cases e158
                      replace hx158_0 := (HB.out.cell (World.block_lt_of_cell? w _ hx158_0)).trans hx158_0
                      replace hx158_1 := (HB.out.cell (World.block_lt_of_cell? w _ hx158_1)).trans hx158_1
                      replace hx158_2 := (HB.out.cell (World.block_lt_of_cell? w _ hx158_2)).trans hx158_2
                      replace p158 := eq_true p158
                      replace q158 := eq_true q158
                      go_wp2_with (first | ((with_reducible refine gate_dst (N := 8) rfl ?_); refine box_event ?hg (N := 8) ?hd (cs := #[.bool false, .int .u64 0, .string (⟨#[]⟩ : ByteArray)]) (t := 55) ?hr ?_; (case hd => rfl); (case hg => rfl); (case hr => first | (go_simp; done) | (go_simp; rfl)); intro gb159 hg w32 hbox hb; have n0_ := Aside0.mk (below_step (by repeat (first | (with_reducible first | exact HB.out | apply below_alloc | apply pw_below_drewN | apply below_drew1) | exact HB.out)) hb); have n1_ := Aside0.mk (hbox); have n2_ := Aside0.mk ((by rw [hg]; exact (below_size (by repeat (first | (with_reducible first | exact HB.out | apply below_alloc | apply pw_below_drewN | apply below_drew1) | exact HB.out))) : w.heap.size ≤ gb159)); have n3_ := Aside0.mk ((by rw [hg]; exact (below_size (by repeat (first | (with_reducible first | exact HB.out | apply below_alloc | apply pw_below_drewN | apply below_drew1) | exact HB.out))) : w.heap.size ≤ gb159)); clear HB; have HB := n0_; have BK159 := n1_; have GW159 := n2_; have GE159 := n3_; clear n0_ n1_ n2_ n3_; clear hb hbox hg; have hcz33_0 : w32.cell? ⟨gb159, 0, none⟩ = some (.bool false) := (blk_cell BK159.out 0).trans rfl; have hcz33_1 : w32.cell? ⟨gb159, 1, none⟩ = some (.int .u64 0) := (blk_cell BK159.out 1).trans rfl; have hcz33_2 : w32.cell? ⟨gb159, 2, none⟩ = some (.string (⟨#[]⟩ : ByteArray)) := (blk_cell BK159.out 2).trans rfl; have hfz33_0 := blk_frozen BK159.out 0; have hfz33_1 := blk_frozen BK159.out 1; have hfz33_2 := blk_frozen BK159.out 2; have p160 : 0 ≤ ((ji8) : Int) := of_decide_eq_true (by first | (with_reducible assumption) | assumption); have q160 : (ji8) < (l1.length : Int) := of_decide_eq_true (by first | (with_reducible assumption) | assumption); obtain ⟨ad160, e160, hx160_0, hx160_1, hx160_2⟩ := at_T78 HR1.out (ji8) p160 q160; cases e160; have hn160_0 : ad160.block ≠ gb159 := Nat.ne_of_lt (Nat.lt_of_lt_of_le (by have := World.block_lt_of_cell? _ _ hx160_0; first | rwa [add_block] at this | exact this) GW159.out); have hn160_1 : ad160.block ≠ gb159 := Nat.ne_of_lt (Nat.lt_of_lt_of_le (by have := World.block_lt_of_cell? _ _ hx160_0; first | rwa [add_block] at this | exact this) GW159.out); have hn160_2 : ad160.block ≠ gb159 := Nat.ne_of_lt (Nat.lt_of_lt_of_le (by have := World.block_lt_of_cell? _ _ hx160_0; first | rwa [add_block] at this | exact this) GW159.out); replace hx160_0 := (HB.out.cell (World.block_lt_of_cell? w _ hx160_0)).trans hx160_0; replace hx160_1 := (HB.out.cell (World.block_lt_of_cell? w _ hx160_1)).trans hx160_1; replace hx160_2 := (HB.out.cell (World.block_lt_of_cell? w _ hx160_2)).trans hx160_2; replace hx160_0 := (cell_far (p := ⟨gb159, 0, none⟩) (by first | (rw [add_block]; exact hn160_0) | (show (Addr.add _ _).block ≠ _; rw [add_block]; exact hn160_0) | exact hn160_0) (.bool ((rd_T55 l0 x19_1).f0))).trans hx160_0; replace hx160_1 := (cell_far (p := ⟨gb159, 0, none⟩) (by first | (rw [add_block]; exact hn160_0) | (show (Addr.add _ _).block ≠ _; rw [add_block]; exact hn160_0) | exact hn160_0) (.bool ((rd_T55 l0 x19_1).f0))).trans hx160_1; replace hx160_2 := (cell_far (p := ⟨gb159, 0, none⟩) (by first | (rw [add_block]; exact hn160_0) | (show (Addr.add _ _).block ≠ _; rw [add_block]; exact hn160_0) | exact hn160_0) (.bool ((rd_T55 l0 x19_1).f0))).trans hx160_2; replace hx160_0 := (cell_far (p := ⟨gb159, 1, none⟩) (by first | (rw [add_block]; exact hn160_1) | (show (Addr.add _ _).block ≠ _; rw [add_block]; exact hn160_1) | exact hn160_1) (.int .u64 ((rd_T55 l0 x19_1).f1))).trans hx160_0; replace hx160_1 := (cell_far (p := ⟨gb159, 1, none⟩) (by first | (rw [add_block]; exact hn160_1) | (show (Addr.add _ _).block ≠ _; rw [add_block]; exact hn160_1) | exact hn160_1) (.int .u64 ((rd_T55 l0 x19_1).f1))).trans hx160_1; replace hx160_2 := (cell_far (p := ⟨gb159, 1, none⟩) (by first | (rw [add_block]; exact hn160_1) | (show (Addr.add _ _).block ≠ _; rw [add_block]; exact hn160_1) | exact hn160_1) (.int .u64 ((rd_T55 l0 x19_1).f1))).trans hx160_2; replace hx160_0 := (cell_far (p := ⟨gb159, 2, none⟩) (by first | (rw [add_block]; exact hn160_2) | (show (Addr.add _ _).block ≠ _; rw [add_block]; exact hn160_2) | exact hn160_2) (.string ((rd_T55 l0 x19_1).f2))).trans hx160_0; replace hx160_1 := (cell_far (p := ⟨gb159, 2, none⟩) (by first | (rw [add_block]; exact hn160_2) | (show (Addr.add _ _).block ≠ _; rw [add_block]; exact hn160_2) | exact hn160_2) (.string ((rd_T55 l0 x19_1).f2))).trans hx160_1; replace hx160_2 := (cell_far (p := ⟨gb159, 2, none⟩) (by first | (rw [add_block]; exact hn160_2) | (show (Addr.add _ _).block ≠ _; rw [add_block]; exact hn160_2) | exact hn160_2) (.string ((rd_T55 l0 x19_1).f2))).trans hx160_2; clear hn160_0; clear hn160_1; clear hn160_2; replace p160 := eq_true p160; replace q160 := eq_true q160) | ((with_reducible refine gate_dst (N := 9) rfl ?_); refine box_event ?hg (N := 9) ?hd (cs := #[.bool false, .int .u64 0, .string (⟨#[]⟩ : ByteArray)]) (t := 78) ?hr ?_; (case hd => rfl); (case hg => rfl); (case hr => first | (go_simp; done) | (go_simp; rfl)); intro gb161 hg w34 hbox hb; have n0_ := Aside0.mk (blk_below (g := gb159) (o := .cells #[.bool ((rd_T55 l0 x19_1).f0), .int .u64 ((rd_T55 l0 x19_1).f1), .string ((rd_T55 l0 x19_1).f2)] 55 (0, 0)) (by (with_reducible repeat (first | refine blk_drewN ?_ _ | refine blk_drew ?_ | refine blk_alloc ?_ _)); refine blk_put (cs := #[.bool ((rd_T55 l0 x19_1).f0), .int .u64 ((rd_T55 l0 x19_1).f1), .string (⟨#[]⟩ : ByteArray)]) ?_ 2 _ rfl; (with_reducible repeat (first | refine blk_drewN ?_ _ | refine blk_drew ?_ | refine blk_alloc ?_ _)); refine blk_put (cs := #[.bool ((rd_T55 l0 x19_1).f0), .int .u64 0, .string (⟨#[]⟩ : ByteArray)]) ?_ 1 _ rfl; (with_reducible repeat (first | refine blk_drewN ?_ _ | refine blk_drew ?_ | refine blk_alloc ?_ _)); refine blk_put (cs := #[.bool false, .int .u64 0, .string (⟨#[]⟩ : ByteArray)]) ?_ 0 _ rfl; (with_reducible repeat (first | refine blk_drewN ?_ _ | refine blk_drew ?_ | refine blk_alloc ?_ _)); exact BK159.out) hb); have n1_ := Aside0.mk (below_step (by repeat (first | (with_reducible first | exact HB.out | apply below_alloc | apply pw_below_drewN | apply below_drew1 | refine below_set ?_ GE159.out) | exact HB.out)) hb); have n2_ := Aside0.mk (hbox); have n3_ := Aside0.mk ((by rw [hg]; exact (below_size (by repeat (first | (with_reducible first | exact HB.out | apply below_alloc | apply pw_below_drewN | apply below_drew1 | refine below_set ?_ GE159.out) | exact HB.out))) : w.heap.size ≤ gb161)); have n4_ := Aside0.mk ((by rw [hg]; exact (below_size (by repeat (first | (with_reducible first | exact HB.out | apply below_alloc | apply pw_below_drewN | apply below_drew1 | refine below_set ?_ GE159.out) | exact HB.out))) : w.heap.size ≤ gb161)); have n5_ := Aside0.mk ((by rw [hg]; exact Nat.ne_of_lt (blk_lt (g := gb159) (o := .cells #[.bool ((rd_T55 l0 x19_1).f0), .int .u64 ((rd_T55 l0 x19_1).f1), .string ((rd_T55 l0 x19_1).f2)] 55 (0, 0)) (by (with_reducible repeat (first | refine blk_drewN ?_ _ | refine blk_drew ?_ | refine blk_alloc ?_ _)); refine blk_put (cs := #[.bool ((rd_T55 l0 x19_1).f0), .int .u64 ((rd_T55 l0 x19_1).f1), .string (⟨#[]⟩ : ByteArray)]) ?_ 2 _ rfl; (with_reducible repeat (first | refine blk_drewN ?_ _ | refine blk_drew ?_ | refine blk_alloc ?_ _)); refine blk_put (cs := #[.bool ((rd_T55 l0 x19_1).f0), .int .u64 0, .string (⟨#[]⟩ : ByteArray)]) ?_ 1 _ rfl; (with_reducible repeat (first | refine blk_drewN ?_ _ | refine blk_drew ?_ | refine blk_alloc ?_ _)); refine blk_put (cs := #[.bool false, .int .u64 0, .string (⟨#[]⟩ : ByteArray)]) ?_ 0 _ rfl; (with_reducible repeat (first | refine blk_drewN ?_ _ | refine blk_drew ?_ | refine blk_alloc ?_ _)); exact BK159.out)) : gb159 ≠ gb161)); have n6_ := Aside0.mk ((by rw [hg]; exact Nat.ne_of_gt (blk_lt (g := gb159) (o := .cells #[.bool ((rd_T55 l0 x19_1).f0), .int .u64 ((rd_T55 l0 x19_1).f1), .string ((rd_T55 l0 x19_1).f2)] 55 (0, 0)) (by (with_reducible repeat (first | refine blk_drewN ?_ _ | refine blk_drew ?_ | refine blk_alloc ?_ _)); refine blk_put (cs := #[.bool ((rd_T55 l0 x19_1).f0), .int .u64 ((rd_T55 l0 x19_1).f1), .string (⟨#[]⟩ : ByteArray)]) ?_ 2 _ rfl; (with_reducible repeat (first | refine blk_drewN ?_ _ | refine blk_drew ?_ | refine blk_alloc ?_ _)); refine blk_put (cs := #[.bool ((rd_T55 l0 x19_1).f0), .int .u64 0, .string (⟨#[]⟩ : ByteArray)]) ?_ 1 _ rfl; (with_reducible repeat (first | refine blk_drewN ?_ _ | refine blk_drew ?_ | refine blk_alloc ?_ _)); refine blk_put (cs := #[.bool false, .int .u64 0, .string (⟨#[]⟩ : ByteArray)]) ?_ 0 _ rfl; (with_reducible repeat (first | refine blk_drewN ?_ _ | refine blk_drew ?_ | refine blk_alloc ?_ _)); exact BK159.out)) : gb161 ≠ gb159)); clear BK159; clear HB; have BK159 := n0_; have HB := n1_; have BK161 := n2_; have GW161 := n3_; have GE161 := n4_; have NB159_161 := n5_; have NB161_159 := n6_; clear n0_ n1_ n2_ n3_ n4_ n5_ n6_; clear hb hbox hg; have hnb35 := NB161_159.out; have hnc35 := NB159_161.out; have hcz36_0 : w34.cell? ⟨gb161, 0, none⟩ = some (.bool false) := (blk_cell BK161.out 0).trans rfl; have hcz36_1 : w34.cell? ⟨gb161, 1, none⟩ = some (.int .u64 0) := (blk_cell BK161.out 1).trans rfl; have hcz36_2 : w34.cell? ⟨gb161, 2, none⟩ = some (.string (⟨#[]⟩ : ByteArray)) := (blk_cell BK161.out 2).trans rfl; have hfz36_0 := blk_frozen BK161.out 0; have hfz36_1 := blk_frozen BK161.out 1; have hfz36_2 := blk_frozen BK161.out 2; have hcz37_0 : w34.cell? ⟨gb159, 0, none⟩ = some (.bool ((rd_T55 l0 x19_1).f0)) := (blk_cell BK159.out 0).trans rfl; have hcz37_1 : w34.cell? ⟨gb159, 1, none⟩ = some (.int .u64 ((rd_T55 l0 x19_1).f1)) := (blk_cell BK159.out 1).trans rfl; have hcz37_2 : w34.cell? ⟨gb159, 2, none⟩ = some (.string ((rd_T55 l0 x19_1).f2)) := (blk_cell BK159.out 2).trans rfl; have hfz37_0 := blk_frozen BK159.out 0; have hfz37_1 := blk_frozen BK159.out 1; have hfz37_2 := blk_frozen BK159.out 2))
                      go_ret
                      exact ⟨by first | rfl | (simp [errW_none, errW_some] <;> rfl) | (simp only [← hji8]; first | rfl | (simp [errW_none, errW_some] <;> rfl)) | (simp [*, errW_none, errW_some] <;> rfl), by repeat (first | (with_reducible first | exact HB.out | apply below_alloc | apply pw_below_drewN | apply below_drew1 | refine below_set ?_ GE159.out | refine below_set ?_ GE161.out) | exact HB.out)⟩
                · rw [if_neg c10] at H
                  exact absurd H (by simp)
              · rw [if_neg c9] at H
                exact absurd H (by simp)
            · rw [if_neg c7] at H
              exact absurd H (by simp)
          · rw [if_neg c6] at H
            exact absurd H (by simp)
        · rw [if_neg c5] at H
          have c5b0 : decide (x19_1 < (l0.length : Int)) = false := decide_eq_false c5
          clear c5
          obtain rfl := Option.some.inj H
          go_wp2
          go_ret
          exact ⟨by first | rfl | (simp [errW_none, errW_some] <;> rfl) | (simp [*, errW_none, errW_some] <;> rfl), by repeat (first | (with_reducible first | exact HB.out | apply below_alloc | apply pw_below_drewN | apply below_drew1) | exact HB.out)⟩
  · rw [if_neg c4] at H
    have c4b0 : ((wrap64 ((l1.length : Int) - a2)) == (l0.length : Int)) = false := beq_eq_false_iff_ne.mpr c4
    have c4b1 : ((wrap64 ((l1.length : Int) - a2)) != (l0.length : Int)) = true := bne_iff_ne.mpr c4
    obtain rfl := Option.some.inj H
    go_enter Try.func22, Try.ntmps22
    go_wp2
    go_ret
    exact ⟨by first | rfl | (simp [errW_none, errW_some] <;> rfl) | (simp [*, errW_none, errW_some] <;> rfl), by repeat (first | (with_reducible first | exact HB.out | apply below_alloc | apply pw_below_drewN | apply below_drew1) | exact HB.out)⟩

end Go.Proofs.Ytnilogameaaooaa.Q
