/- Texts of this claim, put together: ReaderTake, ReaderByte, FeedPure, FeedStep, FeedWf, FeedWalk, ReaderClose, ReaderNew, Tail, ExtSplit, SplitPure, Q4, ExtInt, Ev, RefInt, ExtRefText, SplitParse. -/
import Derived.Test.YtnilogameaaooaaCWireKeeps1
import Derived.StillTailTactics
import Derived.IntWalk
import Derived.Laws.Bits64b
import Derived.Deep.QuietTactic
import Derived.BigQuiet
import Derived.Test.YtnilogameaaooaaWWords
import Derived.Test.YtnilogameaaooaaWLast
import Derived.Test.YtnilogameaaooaaWMore
import Derived.ArgAppend
import Derived.Lib.ConvBytes
import Derived.WalkMore
/- wire.Reader.take, walked by hand, case by case. -/
namespace Go.Proofs.Ytnilogameaaooaa.Rdr
open Go.RowKit Go.Proofs.Ytnilogameaaooaa.Q Go.Proofs.YtnilogameaaooaaW.PrintWords Go.Proofs.YtnilogameaaooaaW.PrintLast Go.Proofs.YtnilogameaaooaaW.PrintMore Go.Proofs.Ytnilogameaaooaa.Bytes
set_option linter.unusedVariables false
set_option linter.unusedSimpArgs false

theorem Turned.drew1 {w w' : World} {b : Nat} {r : Rd} (h : Turned w w' b r) : Turned w w'.drew b r := ⟨h.1, ⟨h.2.os, h.2.tape, h.2.output, h.2.size, h.2.block⟩⟩
/-- The number with one byte more, in the model's own words. -/
def orNum (num c need : Int) : Int := Go.bits .or .u64 num (IntKind.u64.wrap (c * 2 ^ (8 * (8 - need)).toNat))
set_option maxHeartbeats 4000000 in
set_option maxRecDepth 100000 in
theorem take_more (r : Rd) (w : World) (b : Nat) (h : r.At w b) (c : Int) (hc : 0 ≤ c ∧ c < 256) (hs : r.state = 0) (hn : 1 ≤ r.need ∧ r.need ≤ 8) (h1 : r.need ≠ 1) :
    Calls Try.prog 39 #[.pointer (some ⟨b, 0, none⟩), .int .u8 c] w fun e w' => e = .returned (.bool true) ∧ Turned w w' b { r with num := orNum r.num c r.need, need := r.need - 1 } := by
  have H := Aside0.mk h
  obtain ⟨taken, code, place, shut, plan, most, item, start, state, num, need, v⟩ := r
  simp only at hs hn h1
  subst hs
  have c8 := h.c8
  simp only at c8
  have n0 : 0 ≤ 8 * (8 - need) := by omega
  have n1 : 8 * (8 - need) ≤ 64 := by omega
  have k1 : IntKind.i64.wrap (8 - need) = 8 - need := IntWalk.i64_in _ (by omega)
  have k2 : IntKind.i64.wrap (8 * (8 - need)) = 8 * (8 - need) := IntWalk.i64_in _ (by omega)
  have k3 : IntKind.u64.wrap c = c := by
    have : IntKind.u64.wrap c = c % 18446744073709551616 := rfl
    omega
  have b1 : (need == 1) = false := beq_eq_false_iff_ne.2 h1
  clear h
  go_enter Try.func39, Try.ntmps39
  go_wp2
  clear c8
  have H1 := Turned.refl H.out
  refine wp_region_still_tail 16 (by kernel_rfl) (by kernel_rfl) ?_
  change wpStill _ _ (World.drew w) (fun a' => wpList _ _ _ _ a' (World.drew w)) _ _
  have H2 := Turned.drew1 H1
  generalize World.drew w = w2 at H2 ⊢
  have c9 := H2.1.c9
  have c10 := H2.1.c10
  have f9 := H2.1.fro 9
  simp only at c9 c10
  replace H2 := Aside0.mk H2
  simp only [List.take_succ_cons, List.take_zero, List.drop_succ_cons, List.drop_zero]
  repeat still_step
  refine wpStill_nil ?_
  change wpList _ _ _ _ _ w2
  go_wp2
  clear c9 c10 f9
  have H3 := (H2.out).set 9 (.int .u64 (orNum num c need)) (r' := ⟨taken, code, place, shut, plan, most, item, start, 0, orNum num c need, need, v⟩) rfl
  clear H1 H2
  change Code.wp _ _ _ _ (World.setCell w2 _ (.int .u64 (orNum num c need)))
  obtain ⟨N, hN⟩ : ∃ N, orNum num c need = N := ⟨_, rfl⟩
  rw [hN] at H3 ⊢
  have HN := Aside0.mk hN
  clear hN
  generalize World.setCell w2 _ (.int .u64 N) = w3 at H3 ⊢
  have c10 := H3.1.c10
  have f10 := H3.1.fro 10
  simp only at c10
  replace H3 := Aside0.mk H3
  have k4 : IntKind.i64.wrap (need - 1) = need - 1 := IntWalk.i64_in _ (by omega)
  go_quiet (fail)
  go_wp2
  go_ret
  obtain rfl := HN.out
  exact ⟨rfl, (H3.out.drewN _).set 10 _ rfl⟩
set_option maxHeartbeats 4000000 in
set_option maxRecDepth 100000 in
theorem take_last_i (r : Rd) (w : World) (b : Nat) (h : r.At w b) (c : Int) (hc : 0 ≤ c ∧ c < 256) (hs : r.state = 0) (hn : 1 ≤ r.need ∧ r.need ≤ 8) (h1 : r.need = 1) (k : Nat) (hk : r.item = (k : Int)) (hk1 : k < r.plan.size) (hk2 : r.plan.size ≤ 140737488355328) (ht : r.plan[k]'hk1 ≠ 116) :
    Calls Try.prog 39 #[.pointer (some ⟨b, 0, none⟩), .int .u8 c] w fun e w' => e = .returned (.bool true) ∧ Turned w w' b { r with num := orNum r.num c r.need, need := r.need - 1 } := by
  have H := Aside0.mk h
  obtain ⟨taken, code, place, shut, plan, most, item, start, state, num, need, v⟩ := r
  simp only at hs hn h1 hk hk1 hk2 ht
  subst hs
  have c8 := h.c8
  simp only at c8
  have n0 : 0 ≤ 8 * (8 - need) := by omega
  have n1 : 8 * (8 - need) ≤ 64 := by omega
  have k1 : IntKind.i64.wrap (8 - need) = 8 - need := IntWalk.i64_in _ (by omega)
  have k2 : IntKind.i64.wrap (8 * (8 - need)) = 8 * (8 - need) := IntWalk.i64_in _ (by omega)
  have k3 : IntKind.u64.wrap c = c := by
    have : IntKind.u64.wrap c = c % 18446744073709551616 := rfl
    omega
  have B1 := Aside0.mk (show (need == 1) = true from beq_iff_eq.2 h1)
  subst hk
  clear h1
  have hcb : (((plan[k]'hk1).toNat : Int) == 116) = false := by rw [beq_eq_false_iff_ne]; intro e; exact ht ((byte_eq_iff _ 116).1 e)
  clear ht
  clear h
  go_enter Try.func39, Try.ntmps39
  go_wp2
  clear c8
  have H1 := Turned.refl H.out
  refine wp_region_still_tail 16 (by kernel_rfl) (by kernel_rfl) ?_
  change wpStill _ _ (World.drew w) (fun a' => wpList _ _ _ _ a' (World.drew w)) _ _
  have H2 := Turned.drew1 H1
  generalize World.drew w = w2 at H2 ⊢
  have c9 := H2.1.c9
  have c10 := H2.1.c10
  have f9 := H2.1.fro 9
  simp only at c9 c10
  replace H2 := Aside0.mk H2
  simp only [List.take_succ_cons, List.take_zero, List.drop_succ_cons, List.drop_zero]
  repeat still_step
  refine wpStill_nil ?_
  change wpList _ _ _ _ _ w2
  go_wp2
  clear c9 c10 f9
  have H3 := (H2.out).set 9 (.int .u64 (orNum num c need)) (r' := ⟨taken, code, place, shut, plan, most, (k : Int), start, 0, orNum num c need, need, v⟩) rfl
  clear H1 H2
  change Code.wp _ _ _ _ (World.setCell w2 _ (.int .u64 (orNum num c need)))
  obtain ⟨N, hN⟩ : ∃ N, orNum num c need = N := ⟨_, rfl⟩
  rw [hN] at H3 ⊢
  have HN := Aside0.mk hN
  clear hN
  generalize World.setCell w2 _ (.int .u64 N) = w3 at H3 ⊢
  have c4 := H3.1.c4
  have c6 := H3.1.c6
  have c10 := H3.1.c10
  have f10 := H3.1.fro 10
  simp only at c4 c6 c10
  replace H3 := Aside0.mk H3
  have k4 : IntKind.i64.wrap (need - 1) = need - 1 := IntWalk.i64_in _ (by omega)
  have b1 := B1.out
  go_quiet (fail)
  go_wp2
  go_ret
  obtain rfl := HN.out
  exact ⟨rfl, (H3.out.drewN _).set 10 _ rfl⟩
set_option maxHeartbeats 4000000 in
set_option maxRecDepth 100000 in
theorem take_last_t (r : Rd) (w : World) (b : Nat) (h : r.At w b) (c : Int) (hc : 0 ≤ c ∧ c < 256) (hs : r.state = 0) (hn : 1 ≤ r.need ∧ r.need ≤ 8) (h1 : r.need = 1) (k : Nat) (hk : r.item = (k : Int)) (hk1 : k < r.plan.size) (hk2 : r.plan.size ≤ 140737488355328) (ht : r.plan[k]'hk1 = 116) (hm : 0 ≤ r.most ∧ r.most ≤ 9223372036854775807) (hle : orNum r.num c r.need ≤ r.most) :
    Calls Try.prog 39 #[.pointer (some ⟨b, 0, none⟩), .int .u8 c] w fun e w' => e = .returned (.bool true) ∧ Turned w w' b { r with num := orNum r.num c r.need, need := r.need - 1 } := by
  have H := Aside0.mk h
  obtain ⟨taken, code, place, shut, plan, most, item, start, state, num, need, v⟩ := r
  simp only at hs hn h1 hk hk1 hk2 ht hm hle
  subst hs
  have c8 := h.c8
  simp only at c8
  have n0 : 0 ≤ 8 * (8 - need) := by omega
  have n1 : 8 * (8 - need) ≤ 64 := by omega
  have k1 : IntKind.i64.wrap (8 - need) = 8 - need := IntWalk.i64_in _ (by omega)
  have k2 : IntKind.i64.wrap (8 * (8 - need)) = 8 * (8 - need) := IntWalk.i64_in _ (by omega)
  have k3 : IntKind.u64.wrap c = c := by
    have : IntKind.u64.wrap c = c % 18446744073709551616 := rfl
    omega
  have B1 := Aside0.mk (show (need == 1) = true from beq_iff_eq.2 h1)
  subst hk
  clear h1
  have hcb : (((plan[k]'hk1).toNat : Int) == 116) = true := by rw [ht]; rfl
  clear ht
  have k5 : IntKind.u64.wrap most = most := by
    have : IntKind.u64.wrap most = most % 18446744073709551616 := rfl
    omega
  clear h
  go_enter Try.func39, Try.ntmps39
  go_wp2
  clear c8
  have H1 := Turned.refl H.out
  refine wp_region_still_tail 16 (by kernel_rfl) (by kernel_rfl) ?_
  change wpStill _ _ (World.drew w) (fun a' => wpList _ _ _ _ a' (World.drew w)) _ _
  have H2 := Turned.drew1 H1
  generalize World.drew w = w2 at H2 ⊢
  have c9 := H2.1.c9
  have c10 := H2.1.c10
  have f9 := H2.1.fro 9
  simp only at c9 c10
  replace H2 := Aside0.mk H2
  simp only [List.take_succ_cons, List.take_zero, List.drop_succ_cons, List.drop_zero]
  repeat still_step
  refine wpStill_nil ?_
  change wpList _ _ _ _ _ w2
  go_wp2
  clear c9 c10 f9
  have H3 := (H2.out).set 9 (.int .u64 (orNum num c need)) (r' := ⟨taken, code, place, shut, plan, most, (k : Int), start, 0, orNum num c need, need, v⟩) rfl
  clear H1 H2
  change Code.wp _ _ _ _ (World.setCell w2 _ (.int .u64 (orNum num c need)))
  obtain ⟨N, hN⟩ : ∃ N, orNum num c need = N := ⟨_, rfl⟩
  rw [hN] at H3 ⊢
  have hd : decide (most < N) = false := decide_eq_false (by omega)
  have HN := Aside0.mk hN
  clear hN
  generalize World.setCell w2 _ (.int .u64 N) = w3 at H3 ⊢
  have c4 := H3.1.c4
  have c5 := H3.1.c5
  have c6 := H3.1.c6
  have c9 := H3.1.c9
  have c10 := H3.1.c10
  have f10 := H3.1.fro 10
  simp only at c4 c5 c6 c9 c10
  replace H3 := Aside0.mk H3
  have k4 : IntKind.i64.wrap (need - 1) = need - 1 := IntWalk.i64_in _ (by omega)
  have b1 := B1.out
  go_quiet (fail)
  go_wp2
  go_ret
  obtain rfl := HN.out
  exact ⟨rfl, (H3.out.drewN _).set 10 _ rfl⟩
set_option maxHeartbeats 4000000 in
set_option maxRecDepth 100000 in
theorem take_long (r : Rd) (w : World) (b : Nat) (h : r.At w b) (c : Int) (hc : 0 ≤ c ∧ c < 256) (hs : r.state = 0) (hn : 1 ≤ r.need ∧ r.need ≤ 8) (h1 : r.need = 1) (k : Nat) (hk : r.item = (k : Int)) (hk1 : k < r.plan.size) (hk2 : r.plan.size ≤ 140737488355328) (ht : r.plan[k]'hk1 = 116) (hm : 0 ≤ r.most ∧ r.most ≤ 9223372036854775807) (hle : r.most < orNum r.num c r.need) :
    Calls Try.prog 39 #[.pointer (some ⟨b, 0, none⟩), .int .u8 c] w fun e w' => e = .returned (.bool false) ∧ Turned w w' b { r with num := orNum r.num c r.need, code := 6, place := r.start } := by
  have H := Aside0.mk h
  obtain ⟨taken, code, place, shut, plan, most, item, start, state, num, need, v⟩ := r
  simp only at hs hn h1 hk hk1 hk2 ht hm hle
  subst hs
  have c8 := h.c8
  simp only at c8
  have n0 : 0 ≤ 8 * (8 - need) := by omega
  have n1 : 8 * (8 - need) ≤ 64 := by omega
  have k1 : IntKind.i64.wrap (8 - need) = 8 - need := IntWalk.i64_in _ (by omega)
  have k2 : IntKind.i64.wrap (8 * (8 - need)) = 8 * (8 - need) := IntWalk.i64_in _ (by omega)
  have k3 : IntKind.u64.wrap c = c := by
    have : IntKind.u64.wrap c = c % 18446744073709551616 := rfl
    omega
  have B1 := Aside0.mk (show (need == 1) = true from beq_iff_eq.2 h1)
  subst hk
  clear h1
  have hcb : (((plan[k]'hk1).toNat : Int) == 116) = true := by rw [ht]; rfl
  clear ht
  have k5 : IntKind.u64.wrap most = most := by
    have : IntKind.u64.wrap most = most % 18446744073709551616 := rfl
    omega
  clear h
  go_enter Try.func39, Try.ntmps39
  go_wp2
  clear c8
  have H1 := Turned.refl H.out
  refine wp_region_still_tail 16 (by kernel_rfl) (by kernel_rfl) ?_
  change wpStill _ _ (World.drew w) (fun a' => wpList _ _ _ _ a' (World.drew w)) _ _
  have H2 := Turned.drew1 H1
  generalize World.drew w = w2 at H2 ⊢
  have c9 := H2.1.c9
  have c10 := H2.1.c10
  have f9 := H2.1.fro 9
  simp only at c9 c10
  replace H2 := Aside0.mk H2
  simp only [List.take_succ_cons, List.take_zero, List.drop_succ_cons, List.drop_zero]
  repeat still_step
  refine wpStill_nil ?_
  change wpList _ _ _ _ _ w2
  go_wp2
  clear c9 c10 f9
  have H3 := (H2.out).set 9 (.int .u64 (orNum num c need)) (r' := ⟨taken, code, place, shut, plan, most, (k : Int), start, 0, orNum num c need, need, v⟩) rfl
  clear H1 H2
  change Code.wp _ _ _ _ (World.setCell w2 _ (.int .u64 (orNum num c need)))
  obtain ⟨N, hN⟩ : ∃ N, orNum num c need = N := ⟨_, rfl⟩
  rw [hN] at H3 ⊢
  have hd : decide (most < N) = true := decide_eq_true (by omega)
  have HN := Aside0.mk hN
  clear hN
  generalize World.setCell w2 _ (.int .u64 N) = w3 at H3 ⊢
  have c4 := H3.1.c4
  have c5 := H3.1.c5
  have c6 := H3.1.c6
  have c9 := H3.1.c9
  have c10 := H3.1.c10
  have f10 := H3.1.fro 10
  simp only at c4 c5 c6 c9 c10
  replace H3 := Aside0.mk H3
  have k4 : IntKind.i64.wrap (need - 1) = need - 1 := IntWalk.i64_in _ (by omega)
  have b1 := B1.out
  go_quiet (fail)
  go_wp2
  have H4 := H3.out.drewN nq
  generalize World.drewN w3 nq = w4 at H4 ⊢
  clear c4 c5 c6 c9 c10 f10
  refine wp_region_still_tail 7 (by kernel_rfl) (by kernel_rfl) ?_
  change wpStill _ _ (World.drew w4) (fun a' => wpList _ _ _ _ a' (World.drew w4)) _ _
  have H5 := Turned.drew1 H4
  generalize World.drew w4 = w5 at H5 ⊢
  have c7 := H5.1.c7
  simp only at c7
  replace H5 := Aside0.mk H5
  simp only [List.take_succ_cons, List.take_zero, List.drop_succ_cons, List.drop_zero]
  repeat still_step
  refine wpStill_nil ?_
  change wpList _ _ _ _ _ w5
  go_wp2_with (go_at_call 37; refine (fail_calls _ _ b H5.out.1 6 start).mono ?_; rintro e w6 ⟨rfl, hT, hsz⟩)
  go_ret
  obtain rfl := HN.out
  exact ⟨rfl, H5.out.trans hT⟩
set_option maxHeartbeats 4000000 in
set_option maxRecDepth 100000 in
theorem take_pad (r : Rd) (w : World) (b : Nat) (h : r.At w b) (hs : r.state = 2) (hn : 1 ≤ r.need ∧ r.need ≤ 9223372036854775807) :
    Calls Try.prog 39 #[.pointer (some ⟨b, 0, none⟩), .int .u8 0] w fun e w' => e = .returned (.bool true) ∧ Turned w w' b { r with need := r.need - 1 } := by
  have H := Aside0.mk h
  obtain ⟨taken, code, place, shut, plan, most, item, start, state, num, need, v⟩ := r
  simp only at hs hn
  subst hs
  have c8 := h.c8
  have c10 := h.c10
  have f10 := h.fro 10
  simp only at c8 c10
  clear h
  go_enter Try.func39, Try.ntmps39
  go_wp2
  go_ret
  exact ⟨rfl, (Turned.refl H.out).set 10 _ rfl⟩
set_option maxHeartbeats 4000000 in
set_option maxRecDepth 100000 in
theorem take_bad (r : Rd) (w : World) (b : Nat) (h : r.At w b) (c : Int) (hc : c ≠ 0) (hs : r.state = 2) (hn : 1 ≤ r.need ∧ r.need ≤ 9223372036854775807) :
    Calls Try.prog 39 #[.pointer (some ⟨b, 0, none⟩), .int .u8 c] w fun e w' => e = .returned (.bool false) ∧ Turned w w' b { r with code := 7, place := r.taken } := by
  have H := Aside0.mk h
  obtain ⟨taken, code, place, shut, plan, most, item, start, state, num, need, v⟩ := r
  simp only at hs hn
  subst hs
  have c8 := h.c8
  simp only at c8
  have hcb : (c != 0) = true := bne_iff_ne.2 hc
  have H4 := Turned.refl h
  clear h hc
  go_enter Try.func39, Try.ntmps39
  go_wp2
  clear c8
  refine wp_region_still_tail 8 (by kernel_rfl) (by kernel_rfl) ?_
  change wpStill _ _ (World.drew w) (fun a' => wpList _ _ _ _ a' (World.drew w)) _ _
  have H5 := Turned.drew1 H4
  generalize World.drew w = w5 at H5 ⊢
  have c0 := H5.1.c0
  simp only at c0
  replace H5 := Aside0.mk H5
  simp only [List.take_succ_cons, List.take_zero, List.drop_succ_cons, List.drop_zero]
  repeat still_step
  refine wpStill_nil ?_
  change wpList _ _ _ _ _ w5
  go_wp2_with (go_at_call 37; refine (fail_calls _ _ b H5.out.1 7 taken).mono ?_; rintro e w6 ⟨rfl, hT, hsz⟩)
  go_ret
  exact ⟨rfl, H5.out.trans hT⟩
end Go.Proofs.Ytnilogameaaooaa.Rdr
/- wire.Reader.take, walked by hand, a text's byte. -/
namespace Go.Proofs.Ytnilogameaaooaa.Rdr
open Go.RowKit Go.Proofs.Ytnilogameaaooaa.Q Go.Proofs.YtnilogameaaooaaW.PrintWords Go.Proofs.YtnilogameaaooaaW.PrintLast Go.Proofs.YtnilogameaaooaaW.PrintMore Go.Proofs.Ytnilogameaaooaa.Bytes
set_option linter.unusedVariables false
set_option linter.unusedSimpArgs false

/-- What a method leaves that turns the reader and the row of its text. -/
structure Touch (w w' : World) (b : Nat) (v : Value) : Prop where
  os : w'.os = w.os
  tape : w'.tape = w.tape
  output : w'.output = w.output
  size : w.heap.size ≤ w'.heap.size
  block : ∀ k, k < w.heap.size → k ≠ b → some k ≠ v.ownBlock → w'.heap[k]? = w.heap[k]?
theorem Turned.touch {w w' : World} {b : Nat} {r : Rd} (h : Turned w w' b r) (v : Value) : Touch w w' b v := ⟨h.2.os, h.2.tape, h.2.output, h.2.size, fun k hk hn _ => h.2.block k hk (fun e => hn (by injection e))⟩
theorem Kd_block {α : Type} {d : Kd α} {e : Nat} {w : World} {base : Nat} {ok : Nat → Prop} {v : Value} {xs : List α} (h : d.R e w base ok v xs) {b : Nat} (hb : ¬ ok b) : v.ownBlock ≠ some b := fun he => hb (h.1 b he)
set_option maxHeartbeats 4000000 in
set_option maxRecDepth 100000 in
theorem take_byte (r : Rd) (w : World) (b : Nat) (h : r.At w b) (c : Int) (hs : r.state = 1) (hn : 1 ≤ r.need ∧ r.need ≤ 9223372036854775807) (base : Nat) (ok : Nat → Prop) (xs : List Int) (HO : Kd.R (Kd.int .u8) 5 w base ok r.v xs)
    (hok : ∀ k, w.heap.size ≤ k → ok k) (hb : ¬ ok b) (hbase : base ≤ w.heap.size) (hl : xs.length + 1 ≤ 140737488355328) :
    Calls Try.prog 39 #[.pointer (some ⟨b, 0, none⟩), .int .u8 c] w fun e w' => e = .returned (.bool true) ∧ ∃ v', Rd.At { r with need := r.need - 1, v := v' } w' b ∧ Kd.R (Kd.int .u8) 5 w' base ok v' (xs ++ [c]) ∧ Touch w w' b r.v := by
  have H := Aside0.mk h
  obtain ⟨taken, code, place, shut, plan, most, item, start, state, num, need, v⟩ := r
  simp only at hs hn HO
  subst hs
  have c8 := h.c8
  have c11 := h.c11
  simp only at c8 c11
  have hne := Kd_block HO hb
  have HL := Aside0.mk (show (xs ++ [c]).length = xs.length + 1 by simp)
  replace HO := Aside0.mk HO
  have hlt := h.lt
  clear h
  go_enter Try.func39, Try.ntmps39
  go_wp2_with ((with_reducible refine gate_builtin (b := .append) (xs := #[.tmp 70, .tmp 72]) rfl ?_); at_builtin; refine Kd.R_append (Kd.int .u8) (w0 := w) base rfl (.tmp 70) (.tmp 72) 48 5 (.int .u8 0) 1 rfl Try.underlying48 info5 rfl (by decide) (by omega) v xs c [.int .u8 c] ok (fun _ => False) rfl rfl rfl (fun _ hk => hk.elim) hok HO.out (Below.refl _ _) hbase (by omega) ?_; intro v1 w1 ho hbl hg hat; obtain ⟨A1, k1, e1⟩ := Kd.R_slice ho; rw [HL.out] at e1; subst e1; have H1 : Rd.At ⟨taken, code, place, shut, plan, most, item, start, 1, num, need, v⟩ w1 b := (hg.block b hlt (fun e => hne e.symm)).trans H.out; have c10 := H1.c10; have f10 := H1.fro 10; have c11' := H1.c11; have f11 := H1.fro 11; simp only at c10 c11'; replace H1 := Aside0.mk H1)
  go_ret
  have hset : ∀ u k, ok k → (((w1.setCell ⟨b, 11, none⟩ u).setCell ⟨b, 10, none⟩ (.int .i64 (need - 1))).heap[k]? = w1.heap[k]?) := fun u k hk => by
    have hkb : k ≠ b := fun e => hb (e ▸ hk)
    rw [Below.heap_setCell _ _ _ k hkb, Below.heap_setCell _ _ _ k hkb]
  refine ⟨rfl, _, (H1.out.set 11 _ ⟨taken, code, place, shut, plan, most, item, start, 1, num, need, .slice A1 (xs.length + 1) k1⟩ rfl).set 10 (.int .i64 (need - 1)) ⟨taken, code, place, shut, plan, most, item, start, 1, num, need - 1, .slice A1 (xs.length + 1) k1⟩ rfl, Kd.R_move ho (hset _), hg.os, hg.tape, hg.output, ?_, fun k hk hkb hkv => ?_⟩
  · have := hg.size
    simpa [World.setCell] using this
  · rw [Below.heap_setCell _ _ _ k hkb, Below.heap_setCell _ _ _ k hkb]
    exact hg.block k hk hkv
end Go.Proofs.Ytnilogameaaooaa.Rdr
/- What wire.Reader does, as plain Lean: the reader's state, byte by byte; and each method's contract in its words. -/
namespace Go.Proofs.Ytnilogameaaooaa.Rdr
open Go.RowKit Go.Proofs.Ytnilogameaaooaa.Q Go.Proofs.YtnilogameaaooaaW.PrintWords Go.Proofs.YtnilogameaaooaaW.PrintLast Go.Proofs.YtnilogameaaooaaW.PrintMore Go.Proofs.Ytnilogameaaooaa.Bytes
set_option linter.unusedVariables false
set_option linter.unusedSimpArgs false

structure Ps where
  taken : Int
  code : Int
  place : Int
  shut : Bool
  plan : ByteArray
  most : Int
  item : Int
  start : Int
  state : Int
  num : Int
  need : Int
  text : List Int
def Ps.rd (p : Ps) (v : Value) : Rd := ⟨p.taken, p.code, p.place, p.shut, p.plan, p.most, p.item, p.start, p.state, p.num, p.need, v⟩
def Ps.stopped (p : Ps) : Bool := p.shut || p.code != 0
def Ps.next (p : Ps) : Ps := { p with item := p.item + 1, start := p.taken, state := 0, need := 8, num := 0, text := [] }
/-- One byte taken in. -/
def tk (p : Ps) (c : Int) : Bool × Ps :=
  if p.state = 0 then
    if p.need = 1 ∧ bt p.plan p.item = 116 ∧ p.most < orNum p.num c p.need then (false, { p with num := orNum p.num c p.need, code := 6, place := p.start })
    else (true, { p with num := orNum p.num c p.need, need := p.need - 1 })
  else if p.state = 1 then (true, { p with need := p.need - 1, text := p.text ++ [c] })
  else if c = 0 then (true, { p with need := p.need - 1 })
  else (false, { p with code := 7, place := p.taken })
/-- A phase is done. -/
def nx (p : Ps) : Option S55 × Ps :=
  if bt p.plan p.item = 105 then (some ⟨true, p.num, ⟨#[]⟩⟩, p.next)
  else if p.state = 0 ∧ 0 < p.num then (none, { p with state := 1, need := p.num })
  else if p.state = 1 ∧ p.num % 8 ≠ 0 then (none, { p with state := 2, need := 8 - p.num % 8 })
  else (some ⟨false, 0, strOfNums p.text⟩, p.next)
def feed : Ps → List Int → Ps × List S55
  | p, [] => (p, [])
  | p, c :: cs =>
    if p.stopped = true then (p, [])
    else if p.item = (p.plan.size : Int) then ({ p with code := 5, place := p.taken }, [])
    else if (tk p c).1 = true then
      let q : Ps := { (tk p c).2 with taken := (tk p c).2.taken + 1 }
      if 0 < q.need then feed q cs
      else ((feed (nx q).2 cs).1, (nx q).1.toList ++ (feed (nx q).2 cs).2)
    else ((tk p c).2, [])
def close (p : Ps) : Ps := if p.stopped = true then { p with shut := true } else if p.item < (p.plan.size : Int) then { p with code := 4, place := p.taken, shut := true } else { p with shut := true }
/-- What holds of a reader that reads. -/
structure Wf (p : Ps) : Prop where
  most : 0 ≤ p.most ∧ p.most ≤ 9223372036854775807
  taken : 0 ≤ p.taken
  len : (p.text.length : Int) ≤ p.taken
  plan : p.plan.size ≤ 140737488355328
  item : 0 ≤ p.item ∧ p.item ≤ (p.plan.size : Int)
  need : 1 ≤ p.need
  letters : p.code = 0 → ∀ k : Nat, k < p.plan.size → bt p.plan (k : Int) = 105 ∨ bt p.plan (k : Int) = 116
  phase : p.state = 0 ∧ p.need ≤ 8 ∧ 0 ≤ p.num ∧ p.num < 256 ^ (8 - p.need).toNat ∨ p.state = 1 ∧ p.need ≤ 9223372036854775807 ∧ 0 ≤ p.num ∧ p.num ≤ 9223372036854775807 ∧ p.item < (p.plan.size : Int) ∧ bt p.plan p.item ≠ 105 ∨ p.state = 2 ∧ p.need ≤ 7 ∧ 0 ≤ p.num ∧ p.num ≤ 9223372036854775807 ∧ p.item < (p.plan.size : Int) ∧ bt p.plan p.item ≠ 105

/-- What is kept beside the reader and its text. -/
structure Frame (ok : Nat → Prop) (b : Nat) (w w' : World) : Prop where
  os : w'.os = w.os
  tape : w'.tape = w.tape
  output : w'.output = w.output
  size : w.heap.size ≤ w'.heap.size
  block : ∀ k, k < w.heap.size → k ≠ b → (¬ ok k ∨ ¬ ∃ cs, w.heap[k]? = some (.cells cs 5 (0, 0))) → w'.heap[k]? = w.heap[k]?
section
variable {ok : Nat → Prop} {b : Nat} {w w1 w2 : World}
theorem Frame.refl (ok : Nat → Prop) (b : Nat) (w : World) : Frame ok b w w := ⟨rfl, rfl, rfl, Nat.le_refl _, fun _ _ _ _ => rfl⟩
theorem Frame.trans (h : Frame ok b w w1) (k : Frame ok b w1 w2) : Frame ok b w w2 :=
  ⟨k.os.trans h.os, k.tape.trans h.tape, k.output.trans h.output, Nat.le_trans h.size k.size, fun i hi hb hn => by
    have e := h.block i hi hb hn
    exact (k.block i (Nat.lt_of_lt_of_le hi h.size) hb (by rw [e]; exact hn)).trans e⟩
theorem Frame.grown (h : Frame ok b w w1) {row : Option Nat} (hg : w1.grownBy w2 row) (hr : ∀ k, row = some k → k = b ∨ w.heap.size ≤ k) : Frame ok b w w2 :=
  ⟨hg.os.trans h.os, hg.tape.trans h.tape, hg.output.trans h.output, Nat.le_trans h.size hg.size, fun i hi hb hn =>
    (hg.block i (Nat.lt_of_lt_of_le hi h.size) (fun e => by
      rcases hr i e.symm with h1 | h1
      · exact hb h1
      · omega)).trans (h.block i hi hb hn)⟩
theorem Frame.turned {r : Rd} (h : Turned w w1 b r) : Frame ok b w w1 := (Frame.refl ok b w).grown h.2 (fun k hk => .inl (by injection hk with hk; exact hk.symm))
theorem Frame.touch {v : Value} {base : Nat} {xs : List Int} (hR : Kd.R (Kd.int .u8) 5 w base ok v xs) (h : Touch w w1 b v) : Frame ok b w w1 :=
  ⟨h.os, h.tape, h.output, h.size, fun k hk hb hn => h.block k hk hb (fun e => by
    rcases hn with hn | hn
    · exact hn (hR.1 k e.symm)
    · obtain ⟨inner, ho, _⟩ := hR.2
      exact hn (own_typed ho k e.symm))⟩
theorem Frame.out (h : Frame ok b w w1) {r : Rd} (hA : r.At w b) {base : Nat} {v : Value} {its : List S55} (hO : Kd.R k55 55 w base (fun _ => True) v its) : Kd.R k55 55 w1 base (fun _ => True) v its := by
  refine Kd.R_mono (Kd.R_move (Kd.R_bound hO) ?_) (fun _ _ => trivial)
  rintro k ⟨_, _, hk, q, hq, cells, hc⟩
  have hq' : q = 55 := by
    rcases List.mem_cons.1 hq with e | e
    · exact e
    · exact absurd e (by simp [k55, Kd.iso, Kd.pair, Kd.int, Kd.bool, Kd.string, Kd.scalar])
  subst hq'
  unfold Rd.At at hA
  refine h.block k hk ?_ (.inr ?_)
  · rintro rfl
    rw [hc] at hA
    simp at hA
  · rintro ⟨cs, hcs⟩
    rw [hc] at hcs
    simp at hcs
end
/-- A reader that stands in memory. -/
def Rep (p : Ps) (w : World) (b base : Nat) (ok : Nat → Prop) : Prop := ∃ v, (p.rd v).At w b ∧ Kd.R (Kd.int .u8) 5 w base ok v p.text
end Go.Proofs.Ytnilogameaaooaa.Rdr
/- take, next and close, in the words of the plain reader. -/
namespace Go.Proofs.Ytnilogameaaooaa.Rdr
open Go.RowKit Go.Proofs.Ytnilogameaaooaa.Q Go.Proofs.YtnilogameaaooaaW.PrintWords Go.Proofs.YtnilogameaaooaaW.PrintLast Go.Proofs.YtnilogameaaooaaW.PrintMore Go.Proofs.Ytnilogameaaooaa.Bytes
set_option linter.unusedVariables false
set_option linter.unusedSimpArgs false

theorem bt_get (s : ByteArray) (k : Nat) (h : k < s.size) : bt s (k : Int) = ((s[k]'h).toNat : Int) := by
  rw [bt_bs, Int.toNat_natCast]
  have hl : k < (bs s).length := by rw [← size_bs]; exact h
  rw [List.getD_eq_getElem?_getD, List.getElem?_eq_getElem hl]
  rfl
theorem bt_is (s : ByteArray) (k : Nat) (h : k < s.size) (n : UInt8) : (bt s (k : Int) = (n.toNat : Int)) ↔ s[k]'h = n := by
  rw [bt_get s k h]; exact byte_eq_iff _ _
section
variable {ok : Nat → Prop} {b base : Nat} {w w1 : World}
theorem own_turned {v : Value} {xs : List Int} {r : Rd} (hT : Turned w w1 b r) (hb : ¬ ok b) (h : Kd.R (Kd.int .u8) 5 w base ok v xs) : Kd.R (Kd.int .u8) 5 w1 base ok v xs :=
  Kd.R_mono (Kd.R_move (Kd.R_bound h) (fun k hk => hT.2.block k hk.2.2.1 (fun e => hb (by injection e with e; exact e ▸ hk.1)))) (fun _ hk => hk.1)
theorem rep_turned {p q : Ps} {v : Value} {r : Rd} (hO : Kd.R (Kd.int .u8) 5 w base ok v p.text) (hb : ¬ ok b) (hT : Turned w w1 b r) (hr : r = q.rd v) (ht : q.text = p.text) : Rep q w1 b base ok := by
  subst hr
  exact ⟨v, hT.1, ht ▸ own_turned hT hb hO⟩
theorem rep_next {p q : Ps} {r : Rd} (hT : Turned w w1 b r) (hr : r = q.rd (.slice none 0 0)) (ht : q.text = []) : Rep q w1 b base ok := by
  subst hr
  exact ⟨_, hT.1, ht ▸ Kd.R_nil _ _ _ _ _⟩
end
theorem take_ps (p : Ps) (w : World) (b base : Nat) (ok : Nat → Prop) (hR : Rep p w b base ok) (hW : Wf p) (hrun : p.item < (p.plan.size : Int)) (c : Int) (hc : 0 ≤ c ∧ c < 256)
    (hok : ∀ k, w.heap.size ≤ k → ok k) (hb : ¬ ok b) (hbase : base ≤ w.heap.size) (hl : p.text.length + 1 ≤ 140737488355328) :
    Calls Try.prog 39 #[.pointer (some ⟨b, 0, none⟩), .int .u8 c] w fun e w' => e = .returned (.bool (tk p c).1) ∧ Rep (tk p c).2 w' b base ok ∧ Frame ok b w w' := by
  obtain ⟨v, hA, hO⟩ := hR
  obtain ⟨k, hk⟩ := Int.eq_ofNat_of_zero_le hW.item.1
  have hk1 : k < p.plan.size := by omega
  have hn1 := hW.need
  rcases hW.phase with ⟨hs, hn, hnum⟩ | ⟨hs, hn, hnum⟩ | ⟨hs, hn, hnum⟩
  · have e : tk p c = if p.need = 1 ∧ bt p.plan p.item = 116 ∧ p.most < orNum p.num c p.need then (false, { p with num := orNum p.num c p.need, code := 6, place := p.start }) else (true, { p with num := orNum p.num c p.need, need := p.need - 1 }) := by unfold tk; rw [if_pos hs]
    rw [e]
    by_cases h1 : p.need = 1
    · by_cases ht : p.plan[k]'hk1 = 116
      · by_cases hle : p.most < orNum p.num c p.need
        · rw [if_pos ⟨h1, by rw [hk]; exact (bt_is _ _ hk1 116).2 ht, hle⟩]
          refine (take_long (p.rd v) w b hA c hc hs ⟨hn1, hn⟩ h1 k hk hk1 hW.plan ht hW.most hle).mono ?_
          rintro e w' ⟨rfl, hT⟩
          exact ⟨rfl, rep_turned hO hb hT rfl rfl, Frame.turned hT⟩
        · rw [if_neg (fun q => hle q.2.2)]
          refine (take_last_t (p.rd v) w b hA c hc hs ⟨hn1, hn⟩ h1 k hk hk1 hW.plan ht hW.most (by show orNum p.num c p.need ≤ p.most; omega)).mono ?_
          rintro e w' ⟨rfl, hT⟩
          exact ⟨rfl, rep_turned hO hb hT rfl rfl, Frame.turned hT⟩
      · rw [if_neg (fun q => ht ((bt_is _ _ hk1 116).1 (by rw [← hk]; exact q.2.1)))]
        refine (take_last_i (p.rd v) w b hA c hc hs ⟨hn1, hn⟩ h1 k hk hk1 hW.plan ht).mono ?_
        rintro e w' ⟨rfl, hT⟩
        exact ⟨rfl, rep_turned hO hb hT rfl rfl, Frame.turned hT⟩
    · rw [if_neg (fun q => h1 q.1)]
      refine (take_more (p.rd v) w b hA c hc hs ⟨hn1, hn⟩ h1).mono ?_
      rintro e w' ⟨rfl, hT⟩
      exact ⟨rfl, rep_turned hO hb hT rfl rfl, Frame.turned hT⟩
  · have e : tk p c = (true, { p with need := p.need - 1, text := p.text ++ [c] }) := by unfold tk; rw [if_neg (by omega), if_pos hs]
    rw [e]
    refine (take_byte (p.rd v) w b hA c hs ⟨hn1, hn⟩ base ok p.text hO hok hb hbase hl).mono ?_
    rintro e w' ⟨rfl, v', hA', hO', hT⟩
    exact ⟨rfl, ⟨v', hA', hO'⟩, Frame.touch hO hT⟩
  · by_cases h0 : c = 0
    · have e : tk p c = (true, { p with need := p.need - 1 }) := by unfold tk; rw [if_neg (by omega), if_neg (by omega), if_pos h0]
      rw [e, h0]
      refine (take_pad (p.rd v) w b hA hs ⟨hn1, by show p.need ≤ _; omega⟩).mono ?_
      rintro e w' ⟨rfl, hT⟩
      exact ⟨rfl, rep_turned hO hb hT rfl rfl, Frame.turned hT⟩
    · have e : tk p c = (false, { p with code := 7, place := p.taken }) := by unfold tk; rw [if_neg (by omega), if_neg (by omega), if_neg h0]
      rw [e]
      refine (take_bad (p.rd v) w b hA c h0 hs ⟨hn1, by show p.need ≤ _; omega⟩).mono ?_
      rintro e w' ⟨rfl, hT⟩
      exact ⟨rfl, rep_turned hO hb hT rfl rfl, Frame.turned hT⟩
/-- The item that next answers, whole or not. -/
def itemOf (o : Option S55) : S55 := o.getD ⟨false, 0, ⟨#[]⟩⟩
theorem next_ps (p : Ps) (w : World) (b base : Nat) (ok : Nat → Prop) (hR : Rep p w b base ok) (h0 : 0 ≤ p.item) (hrun : p.item < (p.plan.size : Int)) (hplan : p.plan.size ≤ 140737488355328) (hb : ¬ ok b)
    (hn : bt p.plan p.item ≠ 105 → 0 ≤ p.num ∧ p.num ≤ 9223372036854775807) (hs : p.state = 0 ∨ p.state = 1 ∨ p.state = 2) :
    Calls Try.prog 40 #[.pointer (some ⟨b, 0, none⟩)] w fun e w' => e = .returned (.tuple #[.agg #[.bool (itemOf (nx p).1).f0, .int .u64 (itemOf (nx p).1).f1, .string (itemOf (nx p).1).f2], .bool (nx p).1.isSome]) ∧ Rep (nx p).2 w' b base ok ∧ Frame ok b w w' := by
  obtain ⟨v, hA, hO⟩ := hR
  obtain ⟨k, hk⟩ := Int.eq_ofNat_of_zero_le h0
  have hk1 : k < p.plan.size := by omega
  by_cases hc : bt p.plan p.item = 105
  · have e : nx p = (some ⟨true, p.num, ⟨#[]⟩⟩, p.next) := by unfold nx; rw [if_pos hc]
    rw [e]
    refine (next_int (p.rd v) w b hA k hk hk1 hplan ((bt_is _ _ hk1 105).1 (by rw [← hk]; exact hc))).mono ?_
    rintro e w' ⟨rfl, hT⟩
    exact ⟨rfl, rep_next (p := p) hT rfl rfl, Frame.turned hT⟩
  · have hn := hn hc
    have hc' : p.plan[k]'hk1 ≠ 105 := fun q => hc (by rw [hk]; exact (bt_is _ _ hk1 105).2 q)
    by_cases h1 : p.state = 0 ∧ 0 < p.num
    · have e : nx p = (none, { p with state := 1, need := p.num }) := by unfold nx; rw [if_neg hc, if_pos h1]
      rw [e]
      refine (next_head (p.rd v) w b hA k hk hk1 hplan hc' h1.1 ⟨h1.2, hn.2⟩).mono ?_
      rintro e w' ⟨rfl, hT⟩
      exact ⟨rfl, rep_turned hO hb hT rfl rfl, Frame.turned hT⟩
    · by_cases h2 : p.state = 1 ∧ p.num % 8 ≠ 0
      · have e : nx p = (none, { p with state := 2, need := 8 - p.num % 8 }) := by unfold nx; rw [if_neg hc, if_neg h1, if_pos h2]
        rw [e]
        refine (next_pad (p.rd v) w b hA k hk hk1 hplan hc' h2.1 ⟨by show 0 < p.num; have := h2.2; omega, hn.2⟩ h2.2).mono ?_
        rintro e w' ⟨rfl, hT⟩
        exact ⟨rfl, rep_turned hO hb hT rfl rfl, Frame.turned hT⟩
      · have e : nx p = (some ⟨false, 0, strOfNums p.text⟩, p.next) := by unfold nx; rw [if_neg hc, if_neg h1, if_neg h2]
        rw [e]
        refine (next_text (p.rd v) w b hA k hk hk1 hplan hc' hn (show (p.state = 0 ∧ p.num = 0) ∨ (p.state = 1 ∧ p.num % 8 = 0) ∨ p.state = 2 by omega) base ok p.text hO).mono ?_
        rintro e w' ⟨rfl, hT⟩
        exact ⟨rfl, rep_next (p := p) hT rfl rfl, Frame.turned hT⟩
end Go.Proofs.Ytnilogameaaooaa.Rdr
/- A reader that reads goes on being one. -/
namespace Go.Proofs.Ytnilogameaaooaa.Rdr
open Go.RowKit Go.Proofs.Ytnilogameaaooaa.Q Go.Proofs.YtnilogameaaooaaW.PrintWords Go.Proofs.YtnilogameaaooaaW.PrintLast Go.Proofs.YtnilogameaaooaaW.PrintMore Go.Proofs.Ytnilogameaaooaa.Bytes
set_option linter.unusedVariables false
set_option linter.unusedSimpArgs false

/-- The number with one byte more. -/
theorem orNum_add (num c need : Int) (h0 : 0 ≤ num) (h1 : num < 256 ^ (8 - need).toNat) (c0 : 0 ≤ c) (c1 : c < 256) (n0 : 1 ≤ need) (n1 : need ≤ 8) :
    orNum num c need = num + c * 256 ^ (8 - need).toNat ∧ num + c * 256 ^ (8 - need).toNat < 256 ^ (9 - need).toNat := by
  obtain ⟨a, rfl⟩ := Int.eq_ofNat_of_zero_le h0
  obtain ⟨d, rfl⟩ := Int.eq_ofNat_of_zero_le c0
  obtain ⟨j, hj⟩ : ∃ j : Nat, 8 - need = (j : Int) := Int.eq_ofNat_of_zero_le (by omega)
  have hj7 : j ≤ 7 := by omega
  have e1 : (8 - need).toNat = j := by omega
  have e2 : (9 - need).toNat = j + 1 := by omega
  have e3 : (8 * (8 - need)).toNat = 8 * j := by omega
  have hp : (2 : Int) ^ (8 * j) = 256 ^ j := by rw [Int.pow_mul]; rfl
  rw [e1] at h1 ⊢
  rw [e2]
  have hpn : (256 : Int) ^ j = ((256 ^ j : Nat) : Int) := by simp
  have hps : (256 : Int) ^ (j + 1) = ((256 ^ (j + 1) : Nat) : Int) := by simp
  have ha : a < 256 ^ j := by rw [hpn] at h1; exact Int.ofNat_lt.1 h1
  have hd : d < 256 := by omega
  have hle : 256 ^ (j + 1) ≤ 256 ^ 8 := Nat.pow_le_pow_right (by omega) (by omega)
  have h8 : (256 : Nat) ^ 8 = 18446744073709551616 := by decide
  have hs : 256 ^ (j + 1) = 256 ^ j * 256 := Nat.pow_succ ..
  have hm : d * 256 ^ j + 256 ^ j ≤ 256 ^ (j + 1) := by
    have := Nat.mul_le_mul_right (256 ^ j) (show d + 1 ≤ 256 by omega)
    rw [hs, Nat.mul_comm (256 ^ j) 256]
    rw [Nat.add_mul, Nat.one_mul] at this
    exact this
  have hsum : a + d * 256 ^ j < 256 ^ (j + 1) := by omega
  refine ⟨?_, ?_⟩
  · unfold orNum
    rw [e3, hp, hpn]
    have hcast : ((d : Int) * ((256 ^ j : Nat) : Int)) = ((d * 256 ^ j : Nat) : Int) := by simp
    rw [hcast]
    have hw : IntKind.u64.wrap ((d * 256 ^ j : Nat) : Int) = ((d * 256 ^ j : Nat) : Int) := by
      have : IntKind.u64.wrap ((d * 256 ^ j : Nat) : Int) = ((d * 256 ^ j : Nat) : Int) % 18446744073709551616 := rfl
      rw [this]
      omega
    rw [hw, bits_or_u64_nat a (d * 256 ^ j) (by omega) (by omega)]
    have hpp : 256 ^ j = 2 ^ (8 * j) := by rw [Nat.pow_mul]
    have hor : a ||| d * 256 ^ j = d * 256 ^ j + a := by
      rw [hpp, Nat.mul_comm d, Nat.or_comm]
      exact (Nat.two_pow_add_eq_or_of_lt (by rw [← hpp]; exact ha) d).symm
    rw [hor]
    omega
  · rw [hpn, hps]
    have hcast : ((d : Int) * ((256 ^ j : Nat) : Int)) = ((d * 256 ^ j : Nat) : Int) := by simp
    rw [hcast]
    omega

/-- The reader with one byte more, as Feed has it. -/
def tick (p : Ps) (c : Int) : Ps := { (tk p c).2 with taken := (tk p c).2.taken + 1 }
theorem tk_head {p : Ps} {c : Int} (hs : p.state = 0) (h : (tk p c).1 = true) : tk p c = (true, { p with num := orNum p.num c p.need, need := p.need - 1 }) ∧ ¬ (p.need = 1 ∧ bt p.plan p.item = 116 ∧ p.most < orNum p.num c p.need) := by
  unfold tk at h ⊢
  rw [if_pos hs] at h ⊢
  by_cases q : p.need = 1 ∧ bt p.plan p.item = 116 ∧ p.most < orNum p.num c p.need
  · rw [if_pos q] at h; exact absurd h (by simp)
  · rw [if_neg q]; exact ⟨rfl, q⟩
theorem tk_text {p : Ps} {c : Int} (hs : p.state = 1) : tk p c = (true, { p with need := p.need - 1, text := p.text ++ [c] }) := by
  unfold tk
  rw [if_neg (by omega), if_pos hs]
theorem tk_pad {p : Ps} {c : Int} (hs : p.state = 2) (h : (tk p c).1 = true) : tk p c = (true, { p with need := p.need - 1 }) ∧ c = 0 := by
  unfold tk at h ⊢
  rw [if_neg (by omega), if_neg (by omega)] at h ⊢
  by_cases q : c = 0
  · rw [if_pos q]; exact ⟨rfl, q⟩
  · rw [if_neg q] at h; exact absurd h (by simp)
theorem tick_head {p : Ps} {c : Int} (hs : p.state = 0) (h : (tk p c).1 = true) : tick p c = { p with num := orNum p.num c p.need, need := p.need - 1, taken := p.taken + 1 } := by
  unfold tick; rw [(tk_head hs h).1]
theorem tick_text {p : Ps} {c : Int} (hs : p.state = 1) : tick p c = { p with need := p.need - 1, text := p.text ++ [c], taken := p.taken + 1 } := by
  unfold tick; rw [tk_text hs]
theorem tick_pad {p : Ps} {c : Int} (hs : p.state = 2) (h : (tk p c).1 = true) : tick p c = { p with need := p.need - 1, taken := p.taken + 1 } := by
  unfold tick; rw [(tk_pad hs h).1]
theorem wf_tick {p : Ps} {c : Int} (hW : Wf p) (hc : 0 ≤ c ∧ c < 256) (h : (tk p c).1 = true) (hn : 0 < (tick p c).need) : Wf (tick p c) := by
  obtain ⟨w1, w2, w3, w4, w5, w6, w7, w8⟩ := hW
  rcases w8 with ⟨hs, a1, a2, a3⟩ | ⟨hs, a⟩ | ⟨hs, a⟩
  · rw [tick_head hs h] at hn ⊢
    obtain ⟨o1, o2⟩ := orNum_add p.num c p.need a2 a3 hc.1 hc.2 w6 a1
    have hp : (0 : Int) ≤ 256 ^ (8 - p.need).toNat := Int.pow_nonneg (by omega)
    refine ⟨w1, by show 0 ≤ p.taken + 1; omega, by show (p.text.length : Int) ≤ p.taken + 1; omega, w4, w5, by simp only at hn ⊢; omega, w7, .inl ⟨hs, by simp only; omega, ?_, ?_⟩⟩
    · simp only
      rw [o1]
      have := Int.mul_nonneg hc.1 hp
      omega
    · simp only
      rw [o1, show 8 - (p.need - 1) = 9 - p.need by omega]
      exact o2
  · rw [tick_text hs] at hn ⊢
    refine ⟨w1, by show 0 ≤ p.taken + 1; omega, by show ((p.text ++ [c]).length : Int) ≤ p.taken + 1; rw [List.length_append]; simp; omega, w4, w5, by simp only at hn ⊢; omega, w7, .inr (.inl ⟨hs, by simp only; omega, a.2⟩)⟩
  · rw [tick_pad hs h] at hn ⊢
    refine ⟨w1, by show 0 ≤ p.taken + 1; omega, by show (p.text.length : Int) ≤ p.taken + 1; omega, w4, w5, by simp only at hn ⊢; omega, w7, .inr (.inr ⟨hs, by simp only; omega, a.2⟩)⟩
/-- What holds when a phase is done. -/
structure Done (p : Ps) : Prop where
  num : bt p.plan p.item ≠ 105 → 0 ≤ p.num ∧ p.num ≤ 9223372036854775807
  state : p.state = 0 ∨ p.state = 1 ∨ p.state = 2
theorem done_tick {p : Ps} {c : Int} (hW : Wf p) (hcode : p.code = 0) (hrun : p.item < (p.plan.size : Int)) (hc : 0 ≤ c ∧ c < 256) (h : (tk p c).1 = true) (hn : ¬ 0 < (tick p c).need) : Done (tick p c) := by
  obtain ⟨w1, w2, w3, w4, w5, w6, w7, w8⟩ := hW
  rcases w8 with ⟨hs, a1, a2, a3⟩ | ⟨hs, a⟩ | ⟨hs, a⟩
  · have hno := (tk_head hs h).2
    rw [tick_head hs h] at hn ⊢
    obtain ⟨o1, o2⟩ := orNum_add p.num c p.need a2 a3 hc.1 hc.2 w6 a1
    have hp : (0 : Int) ≤ 256 ^ (8 - p.need).toNat := Int.pow_nonneg (by omega)
    refine ⟨fun h105 => ?_, .inl hs⟩
    have h1 : p.need = 1 := by simp only at hn; omega
    obtain ⟨k, hk⟩ := Int.eq_ofNat_of_zero_le w5.1
    have h116 : bt p.plan p.item = 116 := by
      rcases w7 hcode k (by omega) with q | q
      · exact absurd (by rw [hk]; exact q) h105
      · rw [hk]; exact q
    have hle : orNum p.num c p.need ≤ p.most := by
      by_cases q : p.most < orNum p.num c p.need
      · exact absurd ⟨h1, h116, q⟩ hno
      · omega
    have := Int.mul_nonneg hc.1 hp
    simp only
    omega
  · rw [tick_text hs]
    exact ⟨fun _ => ⟨a.2.1, a.2.2.1⟩, .inr (.inl hs)⟩
  · rw [tick_pad hs h]
    exact ⟨fun _ => ⟨a.2.1, a.2.2.1⟩, .inr (.inr hs)⟩
theorem tick_same {p : Ps} {c : Int} (hW : Wf p) (h : (tk p c).1 = true) : (tick p c).plan = p.plan ∧ (tick p c).item = p.item ∧ (tick p c).code = p.code ∧ (tick p c).most = p.most ∧ (tick p c).taken = p.taken + 1 ∧ ((tick p c).text.length : Int) ≤ (tick p c).taken ∧ (tick p c).shut = p.shut := by
  have w3 := hW.len
  rcases hW.phase with ⟨hs, a⟩ | ⟨hs, a⟩ | ⟨hs, a⟩
  · rw [tick_head hs h]; exact ⟨rfl, rfl, rfl, rfl, rfl, by simp only; omega, rfl⟩
  · rw [tick_text hs]; exact ⟨rfl, rfl, rfl, rfl, rfl, by simp only [List.length_append, List.length_cons, List.length_nil]; omega, rfl⟩
  · rw [tick_pad hs h]; exact ⟨rfl, rfl, rfl, rfl, rfl, by simp only; omega, rfl⟩
theorem wf_nx {p : Ps} {c : Int} (hW : Wf p) (hrun : p.item < (p.plan.size : Int)) (h : (tk p c).1 = true) (hD : Done (tick p c)) : Wf (nx (tick p c)).2 := by
  obtain ⟨e1, e2, e3, e4, e5, e6, e7⟩ := tick_same hW h
  obtain ⟨w1, w2, w3, w4, w5, w6, w7, w8⟩ := hW
  generalize tick p c = q at *
  have hnext : Wf q.next := by
    refine ⟨by rw [← e4] at w1; exact w1, by show 0 ≤ q.taken; omega, by show (([] : List Int).length : Int) ≤ q.taken; simp; omega, by rw [← e1] at w4; exact w4, ?_, by show (1 : Int) ≤ 8; omega, ?_, .inl ⟨rfl, by show (8 : Int) ≤ 8; omega, by show (0 : Int) ≤ 0; omega, by show (0 : Int) < 256 ^ (8 - 8 : Int).toNat; decide⟩⟩
    · show 0 ≤ q.item + 1 ∧ q.item + 1 ≤ (q.plan.size : Int)
      rw [e1, e2]; omega
    · show q.code = 0 → ∀ k : Nat, k < q.plan.size → bt q.plan (k : Int) = 105 ∨ bt q.plan (k : Int) = 116
      rw [e1, e3]; exact w7
  unfold nx
  split
  · exact hnext
  · rename_i h105
    have hnum := hD.num h105
    split
    · rename_i hq
      refine ⟨by show 0 ≤ q.most ∧ q.most ≤ _; rw [e4]; exact w1, by show 0 ≤ q.taken; omega, e6, by show q.plan.size ≤ _; rw [e1]; exact w4, by show 0 ≤ q.item ∧ q.item ≤ (q.plan.size : Int); rw [e1, e2]; exact w5, by show 1 ≤ q.num; omega, by show q.code = 0 → ∀ k : Nat, k < q.plan.size → bt q.plan (k : Int) = 105 ∨ bt q.plan (k : Int) = 116; rw [e1, e3]; exact w7, .inr (.inl ⟨rfl, by show q.num ≤ _; omega, hnum.1, hnum.2, by show q.item < (q.plan.size : Int); rw [e1, e2]; exact hrun, h105⟩)⟩
    · split
      · rename_i hq
        have hm : 0 < q.num % 8 := by have := hq.2; omega
        refine ⟨by show 0 ≤ q.most ∧ q.most ≤ _; rw [e4]; exact w1, by show 0 ≤ q.taken; omega, e6, by show q.plan.size ≤ _; rw [e1]; exact w4, by show 0 ≤ q.item ∧ q.item ≤ (q.plan.size : Int); rw [e1, e2]; exact w5, by show 1 ≤ 8 - q.num % 8; omega, by show q.code = 0 → ∀ k : Nat, k < q.plan.size → bt q.plan (k : Int) = 105 ∨ bt q.plan (k : Int) = 116; rw [e1, e3]; exact w7, .inr (.inr ⟨rfl, by show 8 - q.num % 8 ≤ 7; omega, hnum.1, hnum.2, by show q.item < (q.plan.size : Int); rw [e1, e2]; exact hrun, h105⟩)⟩
      · exact hnext
theorem nx_taken (q : Ps) : (nx q).2.taken = q.taken := by
  unfold nx
  split
  · rfl
  · split
    · rfl
    · split
      · rfl
      · rfl
end Go.Proofs.Ytnilogameaaooaa.Rdr
/- wire.Reader.Feed, walked by hand. -/
namespace Go.Proofs.Ytnilogameaaooaa.Rdr
open Go.RowKit Go.Proofs.Ytnilogameaaooaa.Q Go.Proofs.YtnilogameaaooaaW.PrintWords Go.Proofs.YtnilogameaaooaaW.PrintLast Go.Proofs.YtnilogameaaooaaW.PrintMore Go.Proofs.Ytnilogameaaooaa.Bytes
set_option linter.unusedVariables false
set_option linter.unusedSimpArgs false

section
variable {ok : Nat → Prop} {b base : Nat} {w w1 : World}
theorem rep_grown {p : Ps} (h : Rep p w b base ok) {row : Option Nat} (hg : w.grownBy w1 row) (hr : ∀ k, row = some k → k ≠ b ∧ ¬ ∃ cs, w.heap[k]? = some (.cells cs 5 (0, 0))) : Rep p w1 b base ok := by
  obtain ⟨v, hA, hO⟩ := h
  refine ⟨v, (hg.block b hA.lt (fun e => (hr b e.symm).1 rfl)).trans hA, Kd.R_mono (Kd.R_move (Kd.R_bound hO) ?_) (fun _ hk => hk.1)⟩
  rintro k ⟨_, _, hk, q, hq, cells, hc⟩
  refine hg.block k hk (fun e => (hr k e.symm).2 ⟨cells, ?_⟩)
  have hq' : q = 5 := by
    rcases List.mem_cons.1 hq with e | e
    · exact e
    · exact absurd e (by simp [Kd.int, Kd.scalar])
  rw [hc, hq']
theorem rep_alloc {p : Ps} (h : Rep p w b base ok) (o : Obj) : Rep p (w.alloc o) b base ok := rep_grown h (World.grownBy_alloc w o none) (fun k hk => by cases hk)
theorem rep_drewN {p : Ps} (h : Rep p w b base ok) (n : Nat) : Rep p (w.drewN n) b base ok := by
  obtain ⟨v, hA, hO⟩ := h
  exact ⟨v, hA, Kd.R_drewN hO n⟩
theorem rep_drew {p : Ps} (h : Rep p w b base ok) : Rep p w.drew b base ok := by
  obtain ⟨v, hA, hO⟩ := h
  exact ⟨v, hA, Kd.R_drewN hO 1⟩
theorem rep_set {p q : Ps} (h : Rep p w b base ok) (hb : ¬ ok b) (i : Nat) (u : Value) (e : ∀ v, (q.rd v).cells = (p.rd v).cells.setIfInBounds i u) (ht : q.text = p.text) : Rep q (w.setCell ⟨b, i, none⟩ u) b base ok := by
  obtain ⟨v, hA, hO⟩ := h
  exact rep_turned (p := p) hO hb ((Turned.refl hA).set i u (r' := q.rd v) (e v)) rfl ht
end
theorem size_alloc (w : World) (o : Obj) : (w.alloc o).heap.size = w.heap.size + 1 := by simp [World.alloc, -World.alloc_eq]
theorem feed_stop {p : Ps} (h : p.stopped = true) : ∀ cs, feed p cs = (p, [])
  | [] => rfl
  | c :: cs => by simp only [feed]; rw [if_pos h]
theorem feed_trail {p : Ps} (h : ¬ p.stopped = true) (hi : p.item = (p.plan.size : Int)) (c : Int) (cs : List Int) : feed p (c :: cs) = ({ p with code := 5, place := p.taken }, []) := by simp only [feed]; rw [if_neg h, if_pos hi]
theorem feed_bad {p : Ps} (h : ¬ p.stopped = true) (hi : ¬ p.item = (p.plan.size : Int)) {c : Int} (ht : ¬ (tk p c).1 = true) (cs : List Int) : feed p (c :: cs) = ((tk p c).2, []) := by simp only [feed]; rw [if_neg h, if_neg hi, if_neg ht]
theorem feed_more {p : Ps} (h : ¬ p.stopped = true) (hi : ¬ p.item = (p.plan.size : Int)) {c : Int} (ht : (tk p c).1 = true) (hn : 0 < (tick p c).need) (cs : List Int) : feed p (c :: cs) = feed (tick p c) cs := by
  simp only [feed]; rw [if_neg h, if_neg hi, if_pos ht]
  exact if_pos hn
theorem feed_next {p : Ps} (h : ¬ p.stopped = true) (hi : ¬ p.item = (p.plan.size : Int)) {c : Int} (ht : (tk p c).1 = true) (hn : ¬ 0 < (tick p c).need) (cs : List Int) : feed p (c :: cs) = ((feed (nx (tick p c)).2 cs).1, (nx (tick p c)).1.toList ++ (feed (nx (tick p c)).2 cs).2) := by
  simp only [feed]; rw [if_neg h, if_neg hi, if_pos ht]
  exact if_neg hn
set_option maxHeartbeats 8000000 in
set_option maxRecDepth 100000 in
theorem feed_calls (p : Ps) (w : World) (b base : Nat) (ok : Nat → Prop) (hR : Rep p w b base ok) (hW : p.stopped = true ∨ Wf p) (hb : ¬ ok b) (hok : ∀ k, w.heap.size ≤ k → ok k) (hbase : base ≤ w.heap.size)
    (A : Option Addr) (n c : Nat) (cs : List Int) (hC : ReadsInt w .u8 A n cs) (hnc : n ≤ c) (hA : ∀ ad, A = some ad → ad.block ≠ b ∧ ad.block < w.heap.size ∧ ¬ ok ad.block) (hcs : ∀ x ∈ cs, 0 ≤ x ∧ x < 256) (hsz : p.taken + (n : Int) ≤ 1099511627776) (ht0 : 0 ≤ p.taken) :
    Calls Try.prog 28 #[.pointer (some ⟨b, 0, none⟩), .slice A n c] w fun e w' => ∃ v, e = .returned v ∧ Kd.R k55 55 w' w.heap.size (fun _ => True) v (feed p cs).2 ∧ Rep (feed p cs).1 w' b base ok ∧ Frame ok b w w' := by
  have HR := Aside0.mk hR
  have HA := Aside0.mk hA
  have HC := Aside0.mk hC
  have HS := Aside0.mk hcs
  have hn : cs.length = n := hC.1
  have HW := Aside0.mk hW
  have HK := Aside0.mk hok
  have hnn : 0 ≤ n := Nat.zero_le n
  have hN : n ≤ 1099511627776 := by omega
  clear hR hA hC hcs hW hok hn
  go_enter Try.func28, Try.ntmps28
  go_wp2
  repeat (go_step3; go_wp2)
  go_loopg [5, 12] n (fun g v5 v12 wx => ∃ (i : Nat) (q : Ps) (its : List S55), i + g = n ∧ v12 = .int .i64 (i : Int) ∧ Aside0 (Rep q wx b base ok) ∧ Aside0 (q.stopped = true ∨ Wf q) ∧ Aside0 (Frame ok b w wx) ∧ Aside0 (Kd.R k55 55 wx w.heap.size (fun _ => True) v5 its) ∧ Aside0 (feed p cs = ((feed q (cs.drop i)).1, its ++ (feed q (cs.drop i)).2)) ∧ Aside0 (0 ≤ q.taken ∧ q.taken + ((n - i : Nat) : Int) ≤ 1099511627776) ∧ Aside0 (its.length ≤ i))
  case atStart => exact ⟨0, p, [], by omega, rfl, ⟨HR.out⟩, ⟨HW.out⟩, ⟨Frame.refl _ _ _⟩, ⟨Kd.R_nil _ _ _ _ _⟩, ⟨by simp⟩, ⟨by omega⟩, ⟨Nat.le_refl _⟩⟩
  case round =>
    obtain ⟨i, q, its, hig, rfl, HR1, HW1, HF1, HO1, HE1, HT1, HL1⟩ := hrel
    cases gk with
    | zero =>
      obtain rfl : i = n := by omega
      have HE2 : feed p cs = (q, its) := by
        have := HE1.out
        rw [List.drop_of_length_le (by have := HC.out.1; omega)] at this
        simpa [feed] using this
      replace HE2 := Aside0.mk HE2
      clear HE1
      go_wp2
      rw [Exit.noGoto_ret]
      go_ret
      exact ⟨_, rfl, by rw [HE2.out]; exact HO1.out, by rw [HE2.out]; exact HR1.out, HF1.out⟩
    | succ g =>
      have hi : i < n := by omega
      obtain ⟨ad, rfl, hcell⟩ := HC.out.at_ (i : Int) (by omega) (by omega)
      obtain ⟨hb1, hb2, hb3⟩ := HA.out ad rfl
      have hlen := HC.out.1
      have hxd : cs.drop i = rd cs (i : Int) :: cs.drop (i + 1) := by
        rw [List.drop_eq_getElem_cons (by omega)]
        congr 1
        simp [rd, List.getD_eq_getElem?_getD, List.getElem?_eq_getElem (show i < cs.length by omega)]
      have hxr : 0 ≤ rd cs (i : Int) ∧ rd cs (i : Int) < 256 := by
        have hm : rd cs (i : Int) ∈ cs := List.mem_of_mem_drop (by rw [hxd]; exact List.mem_cons_self)
        exact HS.out _ hm
      rw [Int.toNat_natCast] at hcell
      have hcw : wr.cell? (ad.add i) = some (.int .u8 (rd cs (i : Int))) := by
        rw [← hcell]
        refine World.cell?_of_block ?_
        have hab : (ad.add i).block = ad.block := by unfold Addr.add; split <;> rfl
        rw [hab]
        exact HF1.out.block _ hb2 hb1 (.inl hb3)
      generalize rd cs (i : Int) = x at hxd hxr hcw
      have HE2 := HE1.out
      rw [hxd] at HE2
      replace HE2 := Aside0.mk HE2
      have HXR := Aside0.mk hxr
      clear hxd hxr hcell hb1 hb2 hb3 hlen HE1
      by_cases hst : q.stopped = true
      · have HE3 : feed p cs = (q, its) := by
          have := HE2.out
          rw [feed_stop hst] at this
          simpa using this
        replace HE3 := Aside0.mk HE3
        obtain ⟨v, hA1, hO1⟩ := HR1.out
        have HS1 := Aside0.mk (show ((q.rd v).shut || (q.rd v).code != 0) = true from hst)
        have HA1 := Aside0.mk hA1
        clear hst hA1 hO1
        go_wp2_with (go_at_call 38; refine (stopped_calls (q.rd v) _ b HA1.out).mono ?_; rintro e w1 ⟨rfl, hw⟩; rw [hw, HS1.out]; clear hw)
        rw [Exit.noGoto_ret]
        go_ret
        exact ⟨_, rfl, by rw [HE3.out]; exact HO1.out, by rw [HE3.out]; exact HR1.out, HF1.out⟩
      · have hW2 : Wf q := HW1.out.resolve_left hst
        have hcode : q.code = 0 := by
          have : ¬ (q.shut || q.code != 0) = true := hst
          simp only [Bool.or_eq_true, bne_iff_ne, ne_eq, not_or, Decidable.not_not] at this
          exact this.2
        by_cases hit : q.item = (q.plan.size : Int)
        · have HE3 : feed p cs = ({ q with code := 5, place := q.taken }, its) := by
            have := HE2.out
            rw [feed_trail hst hit] at this
            simpa using this
          replace HE3 := Aside0.mk HE3
          obtain ⟨v, hA1, hO1⟩ := HR1.out
          have HS1 := Aside0.mk (show ((q.rd v).shut || (q.rd v).code != 0) = false from Bool.eq_false_iff.2 hst)
          have HO2 := Aside0.mk hO1
          have heq : (q.item == (q.plan.size : Int)) = true := beq_iff_eq.2 hit
          have c0 := hA1.c0
          have c4 := hA1.c4
          have c6 := hA1.c6
          simp only [Ps.rd] at c0 c4 c6
          have HA1 := Aside0.mk hA1
          clear hst hA1 hO1 hit hW2 hcode
          go_wp2_with (go_at_call 38; refine (stopped_calls (q.rd v) _ b HA1.out).mono ?_; rintro e w1 ⟨rfl, hw⟩; rw [hw, HS1.out]; clear hw)
          go_quiet (fail)
          go_wp2
          have H4 := (Turned.refl HA1.out).drewN nq
          clear c0 c4 c6
          generalize World.drewN wr nq = w4 at H4 ⊢
          refine wp_region_still_tail 8 (by kernel_rfl) (by kernel_rfl) ?_
          change wpStill _ _ (World.drew w4) (fun a' => wpList _ _ _ _ a' (World.drew w4)) _ _
          have H5 := Turned.drew1 H4
          generalize World.drew w4 = w5 at H5 ⊢
          have c0 := H5.1.c0
          simp only [Ps.rd] at c0
          replace H5 := Aside0.mk H5
          simp only [List.take_succ_cons, List.take_zero, List.drop_succ_cons, List.drop_zero]
          repeat still_step
          refine wpStill_nil ?_
          change wpList _ _ _ _ _ w5
          go_wp2_with (go_at_call 37; refine (fail_calls (q.rd v) _ b H5.out.1 5 q.taken).mono ?_; rintro e w6 ⟨rfl, hT, hsz6⟩)
          rw [Exit.noGoto_ret]
          go_ret
          have hT2 := H5.out.trans hT
          exact ⟨_, rfl, by rw [HE3.out]; exact (Frame.turned (ok := ok) hT2).out HA1.out HO1.out, by rw [HE3.out]; exact rep_turned HO2.out hb hT2 rfl rfl, HF1.out.trans (Frame.turned hT2)⟩
        · have hrun : q.item < (q.plan.size : Int) := by have := hW2.item; omega
          have hlt := HT1.out
          have htl := hW2.len
          have HTL := Aside0.mk (show q.text.length + 1 ≤ 140737488355328 by omega)
          obtain ⟨v, hA1, hO1⟩ := HR1.out
          have HS1 := Aside0.mk (show ((q.rd v).shut || (q.rd v).code != 0) = false from Bool.eq_false_iff.2 hst)
          have heq : (q.item == (q.plan.size : Int)) = false := beq_eq_false_iff_ne.2 hit
          have HST := Aside0.mk hst
          have HIT := Aside0.mk hit
          have HRUN := Aside0.mk hrun
          have HW3 := Aside0.mk hW2
          have HCD := Aside0.mk hcode
          have HO2 := Aside0.mk hO1
          have hws := HF1.out.size
          have c4 := hA1.c4
          have c6 := hA1.c6
          simp only [Ps.rd] at c4 c6
          have HA1 := Aside0.mk hA1
          clear hst hA1 hO1 hit hW2 hcode htl hlt hrun
          by_cases htk : (tk q x).1 = true
          case neg =>
            have HE3 : feed p cs = ((tk q x).2, its) := by
              have := HE2.out
              rw [feed_bad HST.out HIT.out htk] at this
              simpa using this
            replace HE3 := Aside0.mk HE3
            have HTK := Aside0.mk (Bool.eq_false_iff.2 htk)
            clear htk
            go_wp2_with (go_at_call 38; refine (stopped_calls (q.rd v) _ b HA1.out).mono ?_; rintro e w1 ⟨rfl, hw⟩; rw [hw, HS1.out]; clear hw)
            go_quiet (fail)
            go_wp2_with (go_at_call 39; refine (take_ps q _ b base ok (rep_drewN HR1.out _) HW3.out HRUN.out x HXR.out (fun k hk => HK.out k (Nat.le_trans hws hk)) hb (Nat.le_trans hbase hws) HTL.out).mono ?_; rintro e w2 ⟨rfl, hR2, hF2⟩; rw [HTK.out])
            rw [Exit.noGoto_ret]
            go_ret
            have hF3 : Frame ok b wr w2 := Frame.trans (Frame.turned ((Turned.refl HA1.out).drewN nq)) hF2
            exact ⟨_, rfl, by rw [HE3.out]; exact hF3.out HA1.out HO1.out, by rw [HE3.out]; exact hR2, HF1.out.trans hF3⟩
          case pos =>
            have HTK := Aside0.mk htk
            obtain ⟨s1, s2, s3, s4, s5, s6, s7⟩ := tick_same HW3.out htk
            have hlt := HT1.out
            have htt : (tk q x).2.taken + 1 = q.taken + 1 := s5
            have ht3 : 0 ≤ (tk q x).2.taken := by omega
            have ht4 : (tk q x).2.taken ≤ 1099511627776 := by omega
            have hne1 : (tick q x).need = (tk q x).2.need := rfl
            by_cases hmore : 0 < (tick q x).need
            · have hd : decide (0 < (tk q x).2.need) = true := decide_eq_true hmore
              have HE3 : feed p cs = ((feed (tick q x) (cs.drop (i + 1))).1, its ++ (feed (tick q x) (cs.drop (i + 1))).2) := by
                have := HE2.out
                rw [feed_more HST.out HIT.out htk hmore] at this
                exact this
              have HW4 := Aside0.mk (wf_tick HW3.out HXR.out htk hmore)
              have HTT := Aside0.mk (show 0 ≤ (tick q x).taken ∧ (tick q x).taken + ((n - (i + 1) : Nat) : Int) ≤ 1099511627776 by omega)
              replace HE3 := Aside0.mk HE3
              clear htk s1 s2 s3 s4 s5 s6 s7 hlt htt hne1 hmore
              go_wp2_with (go_at_call 38; refine (stopped_calls (q.rd v) _ b HA1.out).mono ?_; rintro e w1 ⟨rfl, hw⟩; rw [hw, HS1.out]; clear hw)
              go_quiet (fail)
              go_wp2_with (go_at_call 39; refine (take_ps q _ b base ok (rep_drewN HR1.out _) HW3.out HRUN.out x HXR.out (fun k hk => HK.out k (Nat.le_trans hws hk)) hb (Nat.le_trans hbase hws) HTL.out).mono ?_; rintro e w2 ⟨rfl, hR2, hF2⟩; rw [HTK.out]; obtain ⟨v2, hA2, hO3⟩ := hR2; have d0 := hA2.c0; have d10 := hA2.c10; have e0 := hA2.fro 0; simp only [Ps.rd] at d0 d10; have HA2 := Aside0.mk hA2; have HO3 := Aside0.mk hO3; clear hA2 hO3)
              have hF3 : Frame ok b wr w2 := Frame.trans (Frame.turned ((Turned.refl HA1.out).drewN nq)) hF2
              have hT3 : Turned w2 (w2.setCell ⟨b, 0, none⟩ (.int .i64 ((tk q x).2.taken + 1))) b ((tick q x).rd v2) := (Turned.refl HA2.out).set 0 _ rfl
              have HF4 := Aside0.mk (hF3.trans (Frame.turned hT3))
              have HR4 := Aside0.mk (rep_turned (q := tick q x) HO3.out hb hT3 rfl rfl)
              clear hF2 hF3 hT3
              go_roundg g
              case measure => omega
              case rel => exact ⟨i + 1, tick q x, its, by omega, by go_num, ⟨HR4.out⟩, ⟨.inr HW4.out⟩, ⟨HF1.out.trans HF4.out⟩, ⟨HF4.out.out HA1.out HO1.out⟩, ⟨HE3.out⟩, ⟨HTT.out⟩, ⟨Nat.le_succ_of_le HL1.out⟩⟩
            · skip
              have hdn := done_tick HW3.out HCD.out HRUN.out HXR.out htk hmore
              have HDN := Aside0.mk hdn
              have HW4 := Aside0.mk (wf_nx HW3.out HRUN.out htk hdn)
              have hi0 := HW3.out.item.1
              have hpl := HW3.out.plan
              have HIB := Aside0.mk (show 0 ≤ (tick q x).item ∧ (tick q x).item < ((tick q x).plan.size : Int) ∧ (tick q x).plan.size ≤ 140737488355328 by rw [s1, s2]; exact ⟨hi0, HRUN.out, hpl⟩)
              have hnt := nx_taken (tick q x)
              have HTT := Aside0.mk (show 0 ≤ (nx (tick q x)).2.taken ∧ (nx (tick q x)).2.taken + ((n - (i + 1) : Nat) : Int) ≤ 1099511627776 by rw [hnt]; omega)
              have hfn := HE2.out
              rw [feed_next HST.out HIT.out htk hmore] at hfn
              have hd : decide (0 < (tk q x).2.need) = false := decide_eq_false hmore
              cases hnx : (nx (tick q x)).1 with
              | none =>
                have HN1 := Aside0.mk (show (nx (tick q x)).1.isSome = false by rw [hnx]; rfl)
                have HN2 := Aside0.mk (show itemOf (nx (tick q x)).1 = ⟨false, 0, ⟨#[]⟩⟩ by rw [hnx]; rfl)
                rw [hnx] at hfn
                have HE3 := Aside0.mk (show feed p cs = ((feed (nx (tick q x)).2 (cs.drop (i + 1))).1, its ++ (feed (nx (tick q x)).2 (cs.drop (i + 1))).2) by rw [hfn]; rfl)
                clear htk s1 s2 s3 s4 s5 s6 s7 hlt htt hne1 hmore hdn hi0 hpl hnt hfn hnx
                go_wp2_with (go_at_call 38; refine (stopped_calls (q.rd v) _ b HA1.out).mono ?_; rintro e w1 ⟨rfl, hw⟩; rw [hw, HS1.out]; clear hw)
                go_quiet (fail)
                go_wp2_with (first | (go_at_call 39; refine (take_ps q _ b base ok (rep_drewN HR1.out _) HW3.out HRUN.out x HXR.out (fun k hk => HK.out k (Nat.le_trans hws hk)) hb (Nat.le_trans hbase hws) HTL.out).mono ?_; rintro e w2 ⟨rfl, hR2, hF2⟩; rw [HTK.out]; obtain ⟨v2, hA2, hO3⟩ := hR2; have d0 := hA2.c0; have d10 := hA2.c10; have e0 := hA2.fro 0; simp only [Ps.rd] at d0 d10; have hF3 : Frame ok b wr w2 := Frame.trans (Frame.turned ((Turned.refl HA1.out).drewN nq)) hF2; have hT3 : Turned w2 (w2.setCell ⟨b, 0, none⟩ (.int .i64 ((tk q x).2.taken + 1))) b ((tick q x).rd v2) := (Turned.refl hA2).set 0 _ rfl; have HF4 := Aside0.mk (hF3.trans (Frame.turned hT3)); have HR4 := Aside0.mk (rep_turned (q := tick q x) hO3 hb hT3 rfl rfl); clear hF2 hF3 hT3 hA2 hO3) | (go_at_call 40; refine (next_ps (tick q x) _ b base ok HR4.out HIB.out.1 HIB.out.2.1 HIB.out.2.2 hb HDN.out.num HDN.out.state).mono ?_; rintro e w3 ⟨rfl, hR5, hF5⟩; rw [HN1.out, HN2.out]; have HR5 := Aside0.mk hR5; have HF6 := Aside0.mk (HF4.out.trans hF5); clear hR5 hF5))
                go_roundg g
                case measure => omega
                case rel => exact ⟨i + 1, (nx (tick q x)).2, its, by omega, by go_num, ⟨rep_alloc HR5.out _⟩, ⟨.inr HW4.out⟩, ⟨(HF1.out.trans HF6.out).grown (World.grownBy_alloc _ _ none) (fun k hk => by cases hk)⟩, ⟨Kd.R_alloc (HF6.out.out HA1.out HO1.out) _⟩, ⟨HE3.out⟩, ⟨HTT.out⟩, ⟨Nat.le_succ_of_le HL1.out⟩⟩
              | some it =>
                have HN1 := Aside0.mk (show (nx (tick q x)).1.isSome = true by rw [hnx]; rfl)
                have HN2 := Aside0.mk (show itemOf (nx (tick q x)).1 = it by rw [hnx]; rfl)
                rw [hnx] at hfn
                have HE3 := Aside0.mk (show feed p cs = ((feed (nx (tick q x)).2 (cs.drop (i + 1))).1, (its ++ [it]) ++ (feed (nx (tick q x)).2 (cs.drop (i + 1))).2) by rw [hfn, List.append_assoc]; rfl)
                clear htk s1 s2 s3 s4 s5 s6 s7 hlt htt hne1 hmore hdn hi0 hpl hnt hfn hnx
                go_wp2_with (go_at_call 38; refine (stopped_calls (q.rd v) _ b HA1.out).mono ?_; rintro e w1 ⟨rfl, hw⟩; rw [hw, HS1.out]; clear hw)
                go_quiet (fail)
                go_wp2_with (first | (go_at_call 39; refine (take_ps q _ b base ok (rep_drewN HR1.out _) HW3.out HRUN.out x HXR.out (fun k hk => HK.out k (Nat.le_trans hws hk)) hb (Nat.le_trans hbase hws) HTL.out).mono ?_; rintro e w2 ⟨rfl, hR2, hF2⟩; rw [HTK.out]; obtain ⟨v2, hA2, hO3⟩ := hR2; have d0 := hA2.c0; have d10 := hA2.c10; have e0 := hA2.fro 0; simp only [Ps.rd] at d0 d10; have hF3 : Frame ok b wr w2 := Frame.trans (Frame.turned ((Turned.refl HA1.out).drewN nq)) hF2; have hT3 : Turned w2 (w2.setCell ⟨b, 0, none⟩ (.int .i64 ((tk q x).2.taken + 1))) b ((tick q x).rd v2) := (Turned.refl hA2).set 0 _ rfl; have HF4 := Aside0.mk (hF3.trans (Frame.turned hT3)); have HR4 := Aside0.mk (rep_turned (q := tick q x) hO3 hb hT3 rfl rfl); clear hF2 hF3 hT3 hA2 hO3) | (go_at_call 40; refine (next_ps (tick q x) _ b base ok HR4.out HIB.out.1 HIB.out.2.1 HIB.out.2.2 hb HDN.out.num HDN.out.state).mono ?_; rintro e w3 ⟨rfl, hR5, hF5⟩; rw [HN1.out, HN2.out]; have HR5 := Aside0.mk hR5; have HF6 := Aside0.mk (HF4.out.trans hF5); clear hR5 hF5) | ((with_reducible refine gate_builtin (b := .append) (xs := #[.tmp 65, .tmp 67]) rfl ?_); at_builtin; refine Kd.R_append k55 (w0 := w3.alloc (.cells #[.bool it.f0, .int .u64 it.f1, .string it.f2] 55)) w.heap.size rfl (.tmp 65) (.tmp 67) 28 55 (.agg #[.bool false, .int .u64 0, .string ⟨#[]⟩]) 32 rfl Try.underlying28 rfl rfl (by decide) (by omega) u5 its it [.bool it.f0, .int .u64 it.f1, .string it.f2] (fun _ => True) (fun _ => False) rfl (by rw [size_alloc]; rfl) (k55_mkM _ _ _ it) (fun _ hk => hk.elim) (fun _ _ => trivial) (Kd.R_alloc (HF6.out.out HA1.out HO1.out) _) (Below.refl _ _) (by have h1 := HF6.out.size; have h2 := size_alloc w3 (.cells #[.bool it.f0, .int .u64 it.f1, .string it.f2] 55); omega) (by have := HL1.out; omega) ?_; intro v1 w5 ho5 hb5 hg5 hat5))
                have HOX := Kd.R_alloc (HF6.out.out HA1.out HO1.out) (.cells #[.bool it.f0, .int .u64 it.f1, .string it.f2] 55)
                have HRX := rep_alloc HR5.out (.cells #[.bool it.f0, .int .u64 it.f1, .string it.f2] 55)
                have hrow : ∀ k, u5.ownBlock = some k → k ≠ b ∧ ¬ ∃ cs, (w3.alloc (.cells #[.bool it.f0, .int .u64 it.f1, .string it.f2] 55)).heap[k]? = some (.cells cs 5 (0, 0)) := by
                  intro k hk
                  obtain ⟨inner, ho, _⟩ := HOX.2
                  obtain ⟨cells, hc⟩ := own_typed ho k hk
                  obtain ⟨vx, hAx, _⟩ := HRX
                  unfold Rd.At at hAx
                  refine ⟨?_, ?_⟩
                  · rintro rfl
                    rw [hc] at hAx
                    simp at hAx
                  · rintro ⟨cs2, hcs2⟩
                    rw [hc] at hcs2
                    simp at hcs2
                have hfr : Frame ok b w w5 := ((HF1.out.trans HF6.out).grown (World.grownBy_alloc _ _ none) (fun k hk => by cases hk)).grown hg5 (fun k hk => by
                  obtain ⟨inner, ho, _⟩ := HOX.2
                  exact .inr (own_base ho k hk))
                go_roundg g
                case measure => omega
                case rel => exact ⟨i + 1, (nx (tick q x)).2, its ++ [it], by omega, by go_num, ⟨rep_grown HRX hg5 hrow⟩, ⟨.inr HW4.out⟩, ⟨hfr⟩, ⟨ho5⟩, ⟨HE3.out⟩, ⟨HTT.out⟩, ⟨by rw [List.length_append]; have := HL1.out; simp; omega⟩⟩
end Go.Proofs.Ytnilogameaaooaa.Rdr
/- wire.Reader.Close, walked by hand. -/
namespace Go.Proofs.Ytnilogameaaooaa.Rdr
open Go.RowKit Go.Proofs.Ytnilogameaaooaa.Q Go.Proofs.YtnilogameaaooaaW.PrintWords Go.Proofs.YtnilogameaaooaaW.PrintLast Go.Proofs.YtnilogameaaooaaW.PrintMore Go.Proofs.Ytnilogameaaooaa.Bytes
set_option linter.unusedVariables false
set_option linter.unusedSimpArgs false

theorem set2 {w1 : World} {g : Nat} {a0 a1 x0 x1 : Value} {t : TypeId} (h : w1.heap[g]? = some (.cells #[a0, a1] t (0, 0))) :
    ((w1.setCell ⟨g, 0, none⟩ x0).setCell ⟨g, 1, none⟩ x1).heap[g]? = some (.cells #[x0, x1] t (0, 0)) := by
  simp [World.setCell, Array.getElem?_modify, h]
theorem stopped_val (r : Rd) (w : World) (b : Nat) (h : r.At w b) {x : Bool} (hx : (r.shut || r.code != 0) = x) :
    Calls Try.prog 38 #[.pointer (some ⟨b, 0, none⟩)] w fun e w' => e = .returned (.bool x) ∧ w' = w := by
  subst hx
  exact stopped_calls r w b h
set_option maxHeartbeats 4000000 in
set_option maxRecDepth 100000 in
theorem close_still (r : Rd) (w : World) (b : Nat) (h : r.At w b) (hs : (r.shut || r.code != 0) = true ∨ ((r.shut || r.code != 0) = false ∧ ¬ r.item < (r.plan.size : Int))) :
    Calls Try.prog 29 #[.pointer (some ⟨b, 0, none⟩)] w fun e w' => e = .returned (.agg #[.int .i64 r.code, .int .i64 r.place]) ∧ Turned w w' b { r with shut := true } := by
  have H := Aside0.mk h
  obtain ⟨taken, code, place, shut, plan, most, item, start, state, num, need, v⟩ := r
  simp only at hs
  have hlt := h.lt
  have hlt1 : b < w.heap.size + 1 := by omega
  have hne : (w.heap.size = b) = False := eq_false (by omega)
  have hne' : (b = w.heap.size) = False := eq_false (by omega)
  have c1 := h.c1
  have c2 := h.c2
  have c3 := h.c3
  have c4 := h.c4
  have c6 := h.c6
  have f3 := h.fro 3
  simp only at c1 c2 c3 c4 c6
  clear h
  rcases hs with hs | ⟨hs, hi⟩
  · have HS := Aside0.mk hs
    clear hs
    go_enter Try.func29, Try.ntmps29
    go_wp2
    go_quiet ((go_at_call 38; exact Calls.quiet_of_same (stopped_val ⟨taken, code, place, shut, plan, most, item, start, state, num, need, v⟩ _ b (alloc_at H.out _ _) HS.out)))
    go_wp2
    refine bodyPost_ret (results_c rfl _ _ w.heap.size 31 _ (0, 0) _ rfl (set2 (keep_set (heap_alloc_new w (.cells #[.int .i64 0, .int .i64 0] 31)) (by omega))) Try.underlying31 rfl rfl) rfl ⟨rfl, ?_⟩
    exact (((Turned.at_alloc H.out _ nq).set 3 (.bool true) (r' := ⟨taken, code, place, true, plan, most, item, start, state, num, need, v⟩) rfl).other (Nat.le_refl _) hlt _ _).other (Nat.le_refl _) hlt _ _
  · have hi' : decide (item < (plan.size : Int)) = false := decide_eq_false hi
    have HS := Aside0.mk hs
    clear hs hi
    go_enter Try.func29, Try.ntmps29
    go_wp2
    go_quiet ((go_at_call 38; exact Calls.quiet_of_same (stopped_val ⟨taken, code, place, shut, plan, most, item, start, state, num, need, v⟩ _ b (alloc_at H.out _ _) HS.out)))
    go_wp2
    refine bodyPost_ret (results_c rfl _ _ w.heap.size 31 _ (0, 0) _ rfl (set2 (keep_set (heap_alloc_new w (.cells #[.int .i64 0, .int .i64 0] 31)) (by omega))) Try.underlying31 rfl rfl) rfl ⟨rfl, ?_⟩
    exact (((Turned.at_alloc H.out _ nq).set 3 (.bool true) (r' := ⟨taken, code, place, true, plan, most, item, start, state, num, need, v⟩) rfl).other (Nat.le_refl _) hlt _ _).other (Nat.le_refl _) hlt _ _
set_option maxHeartbeats 4000000 in
set_option maxRecDepth 100000 in
theorem close_short (r : Rd) (w : World) (b : Nat) (h : r.At w b) (hs : (r.shut || r.code != 0) = false) (hi : r.item < (r.plan.size : Int)) :
    Calls Try.prog 29 #[.pointer (some ⟨b, 0, none⟩)] w fun e w' => e = .returned (.agg #[.int .i64 4, .int .i64 r.taken]) ∧ Turned w w' b { r with code := 4, place := r.taken, shut := true } := by
  have H := Aside0.mk h
  obtain ⟨taken, code, place, shut, plan, most, item, start, state, num, need, v⟩ := r
  simp only at hs hi
  have hlt := h.lt
  have hlt1 : b < w.heap.size + 1 := by omega
  have hne : (w.heap.size = b) = False := eq_false (by omega)
  have hne' : (b = w.heap.size) = False := eq_false (by omega)
  have c1 := h.c1
  have c2 := h.c2
  have c3 := h.c3
  have c4 := h.c4
  have c6 := h.c6
  have f3 := h.fro 3
  simp only at c1 c2 c3 c4 c6
  clear h
  have hi' : decide (item < (plan.size : Int)) = true := decide_eq_true hi
  have HS := Aside0.mk hs
  clear hs hi
  go_enter Try.func29, Try.ntmps29
  go_wp2
  go_quiet ((go_at_call 38; exact Calls.quiet_of_same (stopped_val ⟨taken, code, place, shut, plan, most, item, start, state, num, need, v⟩ _ b (alloc_at H.out _ _) HS.out)))
  go_wp2
  have H4 := Turned.refl (alloc_at H.out (.cells #[.int .i64 0, .int .i64 0] 31) nq)
  have HG0 : ((w.alloc (.cells #[.int .i64 0, .int .i64 0] 31)).drewN nq).heap[w.heap.size]? = some (.cells #[.int .i64 0, .int .i64 0] 31 (0, 0)) := heap_alloc_new w _
  have HK0 : ∀ {w' : World} {r' : Rd}, Turned ((w.alloc (.cells #[.int .i64 0, .int .i64 0] 31)).drewN nq) w' b r' → Turned w w' b r' := fun h => from_alloc h
  clear c1 c2 c3 c4 c6 f3
  generalize ((w.alloc (.cells #[.int .i64 0, .int .i64 0] 31)).drewN nq) = w4 at H4 HG0 HK0 ⊢
  replace HK0 := Aside0.mk @HK0
  refine wp_region_still_tail 8 (by kernel_rfl) (by kernel_rfl) ?_
  change wpStill _ _ (World.drew w4) (fun a' => wpList _ _ _ _ a' (World.drew w4)) _ _
  have H5 := Turned.drew1 H4
  generalize World.drew w4 = w5 at H5 ⊢
  have c0 := H5.1.c0
  simp only at c0
  replace H5 := Aside0.mk H5
  simp only [List.take_succ_cons, List.take_zero, List.drop_succ_cons, List.drop_zero]
  repeat still_step
  refine wpStill_nil ?_
  change wpList _ _ _ _ _ w5
  go_wp2_with (go_at_call 37; refine (fail_calls _ _ b H5.out.1 4 taken).mono ?_; rintro e w6 ⟨rfl, hT, hsz6⟩; have HT := Aside0.mk (HK0.out (H5.out.trans hT)); have HG := kept_block (H5.out.trans hT) HG0 (by omega); have d1 := hT.1.c1; have d2 := hT.1.c2; have d3 := hT.1.c3; have f3 := hT.1.fro 3; simp only at d1 d2 d3; have q0 := cell3 HG 0; have q1 := cell3 HG 1; have z0 := fro3 HG 0; have z1 := fro3 HG 1; replace HG := Aside0.mk HG; clear hT hsz6)
  refine bodyPost_ret (results_c rfl _ _ w.heap.size 31 _ (0, 0) _ rfl (set2 (keep_set HG.out (by omega))) Try.underlying31 rfl rfl) rfl ⟨rfl, ?_⟩
  exact ((HT.out.set 3 (.bool true) (r' := ⟨taken, 4, taken, true, plan, most, item, start, state, num, need, v⟩) rfl).other (Nat.le_refl _) hlt _ _).other (Nat.le_refl _) hlt _ _
theorem close_ps (p : Ps) (w : World) (b base : Nat) (ok : Nat → Prop) (hR : Rep p w b base ok) (hb : ¬ ok b) :
    Calls Try.prog 29 #[.pointer (some ⟨b, 0, none⟩)] w fun e w' => e = .returned (.agg #[.int .i64 (close p).code, .int .i64 (close p).place]) ∧ Rep (close p) w' b base ok ∧ Frame ok b w w' := by
  obtain ⟨v, hA, hO⟩ := hR
  by_cases hs : p.stopped = true
  · have e : close p = { p with shut := true } := by unfold close; rw [if_pos hs]
    rw [e]
    refine (close_still (p.rd v) w b hA (.inl hs)).mono ?_
    rintro e w' ⟨rfl, hT⟩
    exact ⟨rfl, rep_turned hO hb hT rfl rfl, Frame.turned hT⟩
  · by_cases hi : p.item < (p.plan.size : Int)
    · have e : close p = { p with code := 4, place := p.taken, shut := true } := by unfold close; rw [if_neg hs, if_pos hi]
      rw [e]
      refine (close_short (p.rd v) w b hA (Bool.eq_false_iff.2 hs) hi).mono ?_
      rintro e w' ⟨rfl, hT⟩
      exact ⟨rfl, rep_turned hO hb hT rfl rfl, Frame.turned hT⟩
    · have e : close p = { p with shut := true } := by unfold close; rw [if_neg hs, if_neg hi]
      rw [e]
      refine (close_still (p.rd v) w b hA (.inr ⟨Bool.eq_false_iff.2 hs, hi⟩)).mono ?_
      rintro e w' ⟨rfl, hT⟩
      exact ⟨rfl, rep_turned hO hb hT rfl rfl, Frame.turned hT⟩
end Go.Proofs.Ytnilogameaaooaa.Rdr
/- wire.NewReader, walked by hand. -/
namespace Go.Proofs.Ytnilogameaaooaa.Rdr
open Go.RowKit Go.Proofs.Ytnilogameaaooaa.Q Go.Proofs.YtnilogameaaooaaW.PrintWords Go.Proofs.YtnilogameaaooaaW.PrintLast Go.Proofs.YtnilogameaaooaaW.PrintMore Go.Proofs.Ytnilogameaaooaa.Bytes
set_option linter.unusedVariables false
set_option linter.unusedSimpArgs false

/-- The first letter of a plan that is none. -/
def bad1 : List UInt8 → Nat → Option Nat
  | [], _ => none
  | c :: l, i => if c = 105 ∨ c = 116 then bad1 l (i + 1) else some i
def startM (plan : ByteArray) (m : Int) : Ps := ⟨0, 0, 0, false, plan, m, 0, 0, 0, 0, 8, []⟩
def newM (plan : ByteArray) (m : Int) : Ps := match bad1 (bs plan) 0 with
  | none => startM plan m
  | some i => { startM plan m with code := 30, place := i }
theorem newM_none {plan : ByteArray} {m : Int} (h : bad1 (bs plan) 0 = none) : newM plan m = startM plan m := by unfold newM; rw [h]
theorem newM_some {plan : ByteArray} {m : Int} {i : Nat} (h : bad1 (bs plan) 0 = some i) : newM plan m = { startM plan m with code := 30, place := i } := by unfold newM; rw [h]
theorem data_get (s : ByteArray) (i : Nat) (h : i < s.size) : (bs s).drop i = (s[i]'h) :: (bs s).drop (i + 1) := by
  have hl : i < (bs s).length := by rw [← size_bs]; exact h
  rw [List.drop_eq_getElem_cons hl]
  rfl
def m0 (most : Int) : Int := if most < 0 then 0 else most
set_option maxHeartbeats 4000000 in
set_option maxRecDepth 100000 in
theorem new_calls (plan : ByteArray) (most : Int) (w : World) (hp : plan.size ≤ 140737488355328) :
    Calls Try.prog 27 #[.string plan, .int .i64 most] w fun e w' => e = .returned (.pointer (some ⟨w.heap.size, 0, none⟩)) ∧ ((newM plan (m0 most)).rd (.slice none 0 0)).At w' w.heap.size ∧ Below w.heap.size w w' := by
  have HM : (most < 0 → m0 most = 0) ∧ (¬ most < 0 → m0 most = most) := by unfold m0; exact ⟨fun h => if_pos h, fun h => if_neg h⟩
  obtain ⟨m, hm⟩ : ∃ m, m0 most = m := ⟨_, rfl⟩
  rw [hm] at HM ⊢
  have HW := Aside0.mk (show ((startM plan m).rd (.slice none 0 0)).At (w.alloc (.cells ((startM plan m).rd (.slice none 0 0)).cells 71)) w.heap.size from heap_alloc_new w _)
  by_cases hneg : most < 0
  · obtain rfl := HM.1 hneg
    have he : (most < 0) = True := eq_true hneg
    clear HM hm hneg
    go_enter Try.func27, Try.ntmps27
    go_wp2
    go_loopg [14] plan.size (fun g v14 wx => ∃ i : Nat, i + g = plan.size ∧ v14 = .int .i64 (i : Int) ∧ wx = w.alloc (.cells ((startM plan 0).rd (.slice none 0 0)).cells 71) ∧ Aside0 (bad1 (bs plan) 0 = bad1 ((bs plan).drop i) i))
    case atStart => exact ⟨0, by omega, rfl, rfl, ⟨rfl⟩⟩
    case round =>
      obtain ⟨i, hig, rfl, rfl, HB⟩ := hrel
      cases gk with
      | zero =>
        obtain rfl : i = plan.size := by omega
        have HB2 := Aside0.mk (show bad1 (bs plan) 0 = none by rw [HB.out, List.drop_of_length_le (by rw [← size_bs]; omega)]; rfl)
        clear HB
        go_wp2
        go_ret
        exact ⟨rfl, by rw [newM_none HB2.out]; exact HW.out, (Below.refl _ _).alloc (Nat.le_refl _) _⟩
      | succ g =>
        have hi : i < plan.size := by omega
        have hd := data_get plan i hi
        obtain ⟨c, hc⟩ : ∃ c : UInt8, plan[i]'hi = c := ⟨_, rfl⟩
        rw [hc] at hd
        by_cases h1 : c = 105 ∨ c = 116
        · have HB2 := Aside0.mk (show bad1 (bs plan) 0 = bad1 ((bs plan).drop (i + 1)) (i + 1) by rw [HB.out, hd]; simp only [bad1]; rw [if_pos h1])
          clear hd
          rcases h1 with h1 | h1
          · have e1 : (((plan[i]'hi).toNat : Int) != 105) = false := by rw [hc, h1]; rfl
            clear hc h1
            go_wp2
            go_roundg g
            case measure => omega
            case rel => exact ⟨i + 1, by omega, by go_num, rfl, HB2⟩
          · have e1 : (((plan[i]'hi).toNat : Int) != 105) = true := by rw [hc, h1]; rfl
            have e2 : (((plan[i]'hi).toNat : Int) != 116) = false := by rw [hc, h1]; rfl
            clear hc h1
            go_wp2
            go_roundg g
            case measure => omega
            case rel => exact ⟨i + 1, by omega, by go_num, rfl, HB2⟩
        · have HB2 := Aside0.mk (show bad1 (bs plan) 0 = some i by rw [HB.out, hd]; simp only [bad1]; rw [if_neg h1])
          clear hd
          have e1 : (((plan[i]'hi).toNat : Int) != 105) = true := by rw [hc, bne_iff_ne]; intro e; exact h1 (.inl ((byte_eq_iff c 105).1 e))
          have e2 : (((plan[i]'hi).toNat : Int) != 116) = true := by rw [hc, bne_iff_ne]; intro e; exact h1 (.inr ((byte_eq_iff c 116).1 e))
          clear hc h1
          go_wp2_with (go_at_call 37; refine (fail_calls ((startM plan 0).rd (.slice none 0 0)) _ _ HW.out 30 i).mono ?_; rintro e w6 ⟨rfl, hT, hsz6⟩)
          go_ret
          exact ⟨rfl, by rw [newM_some HB2.out]; exact hT.1, (((Below.refl _ _).alloc (Nat.le_refl _) _).grown hT.2 (by rw [size_alloc]; omega) (fun k hk => by injection hk with hk; omega))⟩
  · obtain rfl := HM.2 hneg
    have he : (m < 0) = False := eq_false hneg
    clear HM hm hneg
    go_enter Try.func27, Try.ntmps27
    go_wp2
    go_loopg [14] plan.size (fun g v14 wx => ∃ i : Nat, i + g = plan.size ∧ v14 = .int .i64 (i : Int) ∧ wx = w.alloc (.cells ((startM plan m).rd (.slice none 0 0)).cells 71) ∧ Aside0 (bad1 (bs plan) 0 = bad1 ((bs plan).drop i) i))
    case atStart => exact ⟨0, by omega, rfl, rfl, ⟨rfl⟩⟩
    case round =>
      obtain ⟨i, hig, rfl, rfl, HB⟩ := hrel
      cases gk with
      | zero =>
        obtain rfl : i = plan.size := by omega
        have HB2 := Aside0.mk (show bad1 (bs plan) 0 = none by rw [HB.out, List.drop_of_length_le (by rw [← size_bs]; omega)]; rfl)
        clear HB
        go_wp2
        go_ret
        exact ⟨rfl, by rw [newM_none HB2.out]; exact HW.out, (Below.refl _ _).alloc (Nat.le_refl _) _⟩
      | succ g =>
        have hi : i < plan.size := by omega
        have hd := data_get plan i hi
        obtain ⟨c, hc⟩ : ∃ c : UInt8, plan[i]'hi = c := ⟨_, rfl⟩
        rw [hc] at hd
        by_cases h1 : c = 105 ∨ c = 116
        · have HB2 := Aside0.mk (show bad1 (bs plan) 0 = bad1 ((bs plan).drop (i + 1)) (i + 1) by rw [HB.out, hd]; simp only [bad1]; rw [if_pos h1])
          clear hd
          rcases h1 with h1 | h1
          · have e1 : (((plan[i]'hi).toNat : Int) != 105) = false := by rw [hc, h1]; rfl
            clear hc h1
            go_wp2
            go_roundg g
            case measure => omega
            case rel => exact ⟨i + 1, by omega, by go_num, rfl, HB2⟩
          · have e1 : (((plan[i]'hi).toNat : Int) != 105) = true := by rw [hc, h1]; rfl
            have e2 : (((plan[i]'hi).toNat : Int) != 116) = false := by rw [hc, h1]; rfl
            clear hc h1
            go_wp2
            go_roundg g
            case measure => omega
            case rel => exact ⟨i + 1, by omega, by go_num, rfl, HB2⟩
        · have HB2 := Aside0.mk (show bad1 (bs plan) 0 = some i by rw [HB.out, hd]; simp only [bad1]; rw [if_neg h1])
          clear hd
          have e1 : (((plan[i]'hi).toNat : Int) != 105) = true := by rw [hc, bne_iff_ne]; intro e; exact h1 (.inl ((byte_eq_iff c 105).1 e))
          have e2 : (((plan[i]'hi).toNat : Int) != 116) = true := by rw [hc, bne_iff_ne]; intro e; exact h1 (.inr ((byte_eq_iff c 116).1 e))
          clear hc h1
          go_wp2_with (go_at_call 37; refine (fail_calls ((startM plan m).rd (.slice none 0 0)) _ _ HW.out 30 i).mono ?_; rintro e w6 ⟨rfl, hT, hsz6⟩)
          go_ret
          exact ⟨rfl, by rw [newM_some HB2.out]; exact hT.1, (((Below.refl _ _).alloc (Nat.le_refl _) _).grown hT.2 (by rw [size_alloc]; omega) (fun k hk => by injection hk with hk; omega))⟩
end Go.Proofs.Ytnilogameaaooaa.Rdr
/- A row of bytes of one's own of which what lies behind it may be frozen: '[]byte(s)' and what is appended to it. -/
namespace Go.Proofs.Ytnilogameaaooaa.Tail
open Go.RowKit Go.Proofs.YtnilogameaaooaaW.PrintWords Go.Proofs.YtnilogameaaooaaW.PrintLast Go.Proofs.YtnilogameaaooaaW.PrintMore
set_option linter.unusedVariables false
set_option linter.unusedSimpArgs false

/-- The bytes of a text as numbers. -/
def numsOf (s : ByteArray) : List Int := s.data.toList.map fun b => (b.toNat : Int)
theorem numsOf_len (s : ByteArray) : (numsOf s).length = s.size := by simp [numsOf]
def OwnT (w : World) (base : Nat) (e : TypeId) (v : Value) (bs : List Int) : Prop :=
  ∃ g cap cur fz, v = .slice (some ⟨g, 0, none⟩) bs.length cap ∧ base ≤ g ∧ w.heap[g]? = some (.cells cur e fz) ∧ (fz.2 = 0 ∨ cap ≤ fz.1) ∧ bs.length ≤ cap ∧ cap ≤ maxLen ∧ cur.size = cap ∧ cur.toList.take bs.length = nums .u8 bs
section
variable {w w1 : World} {base : Nat} {e : TypeId} {v : Value} {bs : List Int}
theorem OwnT.kept (h : OwnT w base e v bs) {row : Option Nat} (hg : w.grownBy w1 row) (hne : v.ownBlock ≠ row) : OwnT w1 base e v bs := by
  obtain ⟨g, cap, cur, fz, rfl, hb, hgg, r⟩ := h
  exact ⟨g, cap, cur, fz, rfl, hb, (hg.block g (Array.getElem?_eq_some_iff.1 hgg).1 (by simpa [Value.ownBlock] using hne)).trans hgg, r⟩
theorem OwnT.alloc (h : OwnT w base e v bs) (o : Obj) : OwnT (w.alloc o) base e v bs := by
  refine h.kept (World.grownBy_alloc w o none) ?_
  obtain ⟨g, cap, cur, fz, rfl, _⟩ := h
  simp [Value.ownBlock]
theorem OwnT.lower (h : OwnT w base e v bs) {base' : Nat} (hb : base' ≤ base) : OwnT w base' e v bs := by
  obtain ⟨g, cap, cur, fz, rfl, hb', r⟩ := h
  exact ⟨g, cap, cur, fz, rfl, Nat.le_trans hb hb', r⟩
theorem OwnT.reads (h : OwnT w base e v bs) : ∃ A c, v = .slice A bs.length c ∧ ReadsInt w .u8 A bs.length bs := by
  obtain ⟨g, cap, cur, fz, rfl, hb, hgg, _, hl, hm, hc, ht⟩ := h
  refine ⟨_, _, rfl, rfl, by simp only [maxLen] at hm; omega, fun _ => ⟨_, rfl, fun j hj => ?_⟩⟩
  have hadd : (⟨g, 0, none⟩ : Addr).add j = ⟨g, j, none⟩ := by unfold Addr.add; split <;> simp_all
  rw [hadd, cell_of_row w g j cur e fz hgg]
  have h1 : (cur.toList.take bs.length)[j]? = cur[j]? := by rw [List.getElem?_take, if_pos hj]; simp
  rw [← h1, ht]
  simp [nums, List.getD_eq_getElem?_getD, List.getElem?_eq_getElem hj]
theorem OwnT.of_own {B n : Nat} {xs : List Value} (h : w.ownsRow B e 1 v n xs) (hn : n = bs.length) (hx : xs = nums .u8 bs) (h0 : 0 < bs.length) (hb : base ≤ B) : OwnT w base e v bs := by
  rcases h.2 with ⟨_, he⟩ | ⟨g, cap, cur, rfl, hbb, hgg, hnc, hcm, hcs, ht⟩
  · omega
  · subst hn hx
    exact ⟨g, cap, cur, (0, 0), rfl, Nat.le_trans hb hbb, hgg, .inl rfl, hnc, hcm, by simpa using hcs, by simpa using ht⟩
end
theorem OwnT.string {P : Program} {w : World} {base src dst e : Nat} {v : Value} {bs : List Int} (hs : P.underlying src = some (.slice e)) (he : P.underlying e = some (.int .u8)) (hd : P.underlying dst = some .string) (h : OwnT w base e v bs) :
    (convert src dst v).run P w = .ok (.string (strOfNums bs)) w := by
  obtain ⟨A, c, rfl, hr⟩ := h.reads
  exact string_of_reads hs he hd hr
section
variable {P : Program} {ops : Array Oper} {rest : List Oper} {o : Oper} {a : Act} {Q : Exit → Act → World → Prop}
/-- '[]byte(s)'. -/
theorem T_conv {w0 W : World} (base e : Nat) (hgd : o.guard = none) {N : Tmp} (hd : o.dst = some N) (src t : TypeId) (x : Operand) (ho : o.op = .convert src t x) (s : ByteArray) (hx : a.eval x = .string s)
    (hsrc : P.underlying src = some .string) (ht : P.underlying t = some (.slice e)) (he : P.underlying e = some (.int .u8)) (hm : s.size ≤ maxLen) (HB : Below base w0 W) (hbase : base ≤ W.heap.size)
    (h : ∀ v1 w1, OwnT w1 base e v1 (numsOf s) → Below base w0 w1 → wpList P ops Q rest (a.put o.dst v1) w1) : wpList P ops Q (o :: rest) a W := by
  have hr := Lib.run_convert_string_bytes (P := P) W src t e s hsrc ht he
  have hge := grownCap_ge W s.size 0 e
  have hcm : grownCap W s.size 0 e ≤ maxLen := grownCap_le_maxLen W s.size 0 e hm
  have hsz : (Lib.bytesCells W e s).size = grownCap W s.size 0 e := by
    simp only [Lib.bytesCells, Array.size_append, Array.size_map, Array.size_replicate]
    have : s.data.size = s.size := rfl
    omega
  refine Kd.event_run hgd (w1 := Lib.bytesWorld W e s) (v := .slice (some ⟨W.heap.size, 0, none⟩) s.size (grownCap W s.size 0 e)) ?_ (h _ _ ⟨W.heap.size, grownCap W s.size 0 e, Lib.bytesCells W e s, _, by rw [numsOf_len], hbase, Lib.bytesWorld_at_new W e s, .inr (by simp only; omega), by rw [numsOf_len]; exact hge, hcm, hsz, ?_⟩ ?_)
  · simp [execOp, ho, hx, hr]
  · rw [numsOf_len]
    simp only [Lib.bytesCells, Array.toList_append, Array.toList_map]
    have hl : s.size = (s.data.toList.map fun b => Value.int IntKind.u8 (b.toNat : Int)).length := by simp
    rw [hl, List.take_left]
    simp [nums, numsOf]
  · exact HB.trans ⟨by simp [Lib.bytesWorld, World.freeze, World.alloc, World.drew, -World.alloc_eq, -World.drew_eq], by simp [Lib.bytesWorld, World.freeze, World.alloc, World.drew, -World.alloc_eq, -World.drew_eq], by simp [Lib.bytesWorld, World.freeze, World.alloc, World.drew, -World.alloc_eq, -World.drew_eq], by rw [Lib.bytesWorld_size]; omega, fun k hk => Lib.bytesWorld_at_old W e s k (by omega)⟩
theorem cell_lit (W : World) (u : Value) (t : TypeId) : (W.alloc (.cells #[u] t)).cell? ⟨W.heap.size, 0, none⟩ = some u := (cell_of_row _ _ 0 _ t (0, 0) (heap_alloc_new W _)).trans rfl
/-- One byte more behind it. -/
theorem T_append {w0 W : World} (base e : Nat) (hgd : o.guard = none) (s x : Operand) (t : TypeId) (ho : o.op = .call { callee := .builtin .append, args := #[s, x], argTypes := #[t, t] })
    (ht : P.underlying t = some (.slice e)) (hinfo : (P.info? e).map (fun i => (i.zero, i.size, i.bytes)) = some (some (.int .u8 0), 1, 1))
    (v : Value) (bs : List Int) (y : Int) (hs : a.eval s = v) (g : Nat) (c : Nat) (hx : a.eval x = .slice (some ⟨g, 0, none⟩) 1 c) (hg : W.cell? ⟨g, 0, none⟩ = some (.int .u8 y))
    (HO : OwnT W base e v bs) (HB : Below base w0 W) (hbase : base ≤ W.heap.size) (hl : bs.length + 1 ≤ 140737488355328)
    (h : ∀ v1 w1, OwnT w1 base e v1 (bs ++ [y]) → Below base w0 w1 → wpList P ops Q rest (a.put o.dst v1) w1) : wpList P ops Q (o :: rest) a W := by
  obtain ⟨i, hi, hzz⟩ := Option.map_eq_some_iff.1 hinfo
  simp only [Prod.mk.injEq] at hzz
  obtain ⟨hz, h4, h5⟩ := hzz
  obtain ⟨g0, cap, cur, fz, rfl, hb, hgg, hfz, hn, hm, hcs, htk⟩ := HO
  have hml : maxLen = 9223372036854775807 := rfl
  have hx1 : ∀ j u, ([Value.int .u8 y] : List Value)[j]? = some u → W.cell? ((⟨g, 0, none⟩ : Addr).add j) = some u := by
    intro j u hj
    rcases j with _ | j
    · simp only [List.getElem?_cons_zero, Option.some.injEq] at hj
      subst hj
      exact hg
    · simp at hj
  have hcell : ∀ j, j < cap → W.cell? ⟨g0, j, none⟩ = cur[j]? := fun j hj => cell_of_row W g0 j cur e fz hgg
  refine wpList_append_arg (P := P) W hgd s x t ho e i (.int .u8 0) 1 1 ht hi hz h4 h5 rfl (by omega) g0 0 bs.length cap (nums .u8 bs) hs (by simp [nums]) ?_ ⟨g, 0, none⟩ 1 c [.int .u8 y] hx rfl hx1 (by simp [Value.oneCell']) ?_ (by omega) (by omega) ?_ ?_
  · intro j u hj
    have hjl : j < bs.length := by
      have := (List.getElem?_eq_some_iff.1 hj).1
      simpa [nums] using this
    rw [Nat.zero_add, hcell j (by omega)]
    rw [← htk, List.getElem?_take, if_pos hjl] at hj
    simpa using hj
  · intro hr j hj
    have hj0 : j = 0 := by simpa using hj
    subst hj0
    have hlt : bs.length < cap := by omega
    simp only [Nat.zero_add, Nat.mul_one, Nat.add_zero]
    refine ⟨?_, ?_⟩
    · rw [hcell _ hlt, Array.getElem?_eq_getElem (by omega)]
      rfl
    · simp only [World.frozen?, hgg]
      obtain ⟨f1, f2⟩ := fz
      simp only at hfz
      simp only [Bool.and_eq_false_iff, decide_eq_false_iff_not]
      omega
  · intro hr
    refine h _ _ ⟨g0, cap, cur.setIfInBounds bs.length (.int .u8 y), fz, by simp, hb, ?_, hfz, by simpa using hr, hm, by simpa using hcs, ?_⟩ ?_
    · simp [World.setCells, World.setCell, Array.getElem?_modify, hgg]
    · simp only [List.length_append, List.length_cons, List.length_nil, Array.toList_setIfInBounds]
      have hlt : bs.length < cur.toList.length := by
        have : cur.toList.length = cur.size := Array.length_toList
        omega
      rw [List.take_add_one, List.getElem?_set_self hlt, List.take_set_of_le (Nat.le_refl _), htk]
      simp [nums]
    · exact HB.setCell hb _
  · intro hr v' w' ho' hgr
    refine h v' w' (OwnT.of_own ho' (by simp) (by simp [nums]) (by simp) hbase) ?_
    exact HB.grown hgr hbase (fun k hk => by cases hk)
end
end Go.Proofs.Ytnilogameaaooaa.Tail
/- wire.Split, walked by hand. -/
namespace Go.Proofs.Ytnilogameaaooaa.Q
open Go.RowKit Go.Proofs.Ytnilogameaaooaa.Rdr Go.Proofs.Ytnilogameaaooaa.Tail Go.Proofs.YtnilogameaaooaaW.PrintWords Go.Proofs.YtnilogameaaooaaW.PrintLast Go.Proofs.YtnilogameaaooaaW.PrintMore Go.Proofs.Ytnilogameaaooaa.Bytes
set_option linter.unusedVariables false
set_option linter.unusedSimpArgs false

def split (text plan : ByteArray) (most : Int) : Ps × List S55 := (close (feed (newM plan (m0 most)) (numsOf text)).1, (feed (newM plan (m0 most)) (numsOf text)).2)
def wire_Split.f (a0 : ByteArray) (a1 : ByteArray) (a2 : Int) : Option (List (S55) × Int × Int) :=
  if a0.size ≤ 1099511627776 ∧ a1.size ≤ 1099511627776 ∧ a2 ≤ 9223372036854775807 then
    (if (split a0 a1 a2).1.code = 0 then some ((split a0 a1 a2).2, 0, 0) else some ([], (split a0 a1 a2).1.code, (split a0 a1 a2).1.place))
  else none
theorem numsOf_range (s : ByteArray) : ∀ x ∈ numsOf s, 0 ≤ x ∧ x < 256 := by
  intro x hx
  simp only [numsOf, List.mem_map] at hx
  obtain ⟨c, _, rfl⟩ := hx
  have := c.toNat_lt
  omega
theorem bad1_none : ∀ (l : List UInt8) (i : Nat), bad1 l i = none → ∀ c ∈ l, c = 105 ∨ c = 116
  | [], _, _, c, hc => by cases hc
  | d :: l, i, h, c, hc => by
    simp only [bad1] at h
    split at h
    · rename_i hd
      rcases List.mem_cons.1 hc with e | e
      · rw [e]; exact hd
      · exact bad1_none l (i + 1) h c e
    · cases h
theorem newM_ok (plan : ByteArray) (m : Int) (hp : plan.size ≤ 140737488355328) (h0 : 0 ≤ m) (h1 : m ≤ 9223372036854775807) : ((newM plan m).stopped = true ∨ Wf (newM plan m)) ∧ (newM plan m).text = [] ∧ (newM plan m).taken = 0 := by
  cases hb : bad1 (bs plan) 0 with
  | some i =>
    rw [newM_some hb]
    exact ⟨.inl rfl, rfl, rfl⟩
  | none =>
    rw [newM_none hb]
    refine ⟨.inr ⟨⟨h0, h1⟩, Int.le_refl _, Int.le_refl _, hp, ⟨Int.le_refl _, by show (0 : Int) ≤ (plan.size : Int); omega⟩, by show (1 : Int) ≤ 8; omega, ?_, .inl ⟨rfl, by show (8 : Int) ≤ 8; omega, Int.le_refl _, by show (0 : Int) < 256 ^ (8 - 8 : Int).toNat; decide⟩⟩, rfl, rfl⟩
    intro _ k hk
    have hk : k < plan.size := hk
    have hm : plan[k]'hk ∈ bs plan := by
      have hl : k < (bs plan).length := by rw [← size_bs]; exact hk
      have e : plan[k]'hk = (bs plan)[k] := rfl
      rw [e]; exact List.getElem_mem hl
    rcases bad1_none _ _ hb _ hm with e | e
    · exact .inl ((bt_is plan k hk 105).2 e)
    · exact .inr ((bt_is plan k hk 116).2 e)
theorem out_set {W : World} {base g i : Nat} {v u : Value} {its : List S55} {cs : Array Value} {e : Nat} (h : Kd.R k55 55 W base (fun _ => True) v its) (hg : W.heap[g]? = some (.cells cs e (0, 0))) (he : e ≠ 55) :
    Kd.R k55 55 (W.setCell ⟨g, i, none⟩ u) base (fun _ => True) v its := by
  refine Kd.R_mono (Kd.R_move (Kd.R_bound h) ?_) (fun _ _ => trivial)
  rintro k ⟨_, _, hk, q, hq, cells, hc⟩
  have hq' : q = 55 := by
    rcases List.mem_cons.1 hq with e | e
    · exact e
    · exact absurd e (by simp [k55, Kd.iso, Kd.pair, Kd.int, Kd.bool, Kd.string, Kd.scalar])
  subst hq'
  refine Below.heap_setCell _ _ _ _ ?_
  rintro rfl
  rw [hc] at hg
  simp at hg
  exact he hg.2.symm
theorem OwnT.slice {w : World} {base : Nat} {e : TypeId} {v : Value} {xs : List Int} (h : OwnT w base e v xs) : ∃ g c, v = .slice (some ⟨g, 0, none⟩) xs.length c ∧ base ≤ g ∧ g < w.heap.size ∧ xs.length ≤ c ∧ ReadsInt w .u8 (some ⟨g, 0, none⟩) xs.length xs := by
  obtain ⟨A, c, e1, hr⟩ := h.reads
  obtain ⟨g, cap, cur, fz, rfl, hb, hg, _, hn, _⟩ := h
  injection e1 with e1 e2 e3
  subst e1
  exact ⟨g, cap, rfl, hb, (Array.getElem?_eq_some_iff.1 hg).1, hn, hr⟩
theorem set1 {w1 : World} {g : Nat} {a0 a1 x0 : Value} {t : TypeId} (h : w1.heap[g]? = some (.cells #[a0, a1] t (0, 0))) :
    (w1.setCell ⟨g, 0, none⟩ x0).heap[g]? = some (.cells #[x0, a1] t (0, 0)) := by
  simp [World.setCell, Array.getElem?_modify, h]
theorem fault_kept {W W' : World} {ok : Nat → Prop} {b g : Nat} {cs : Array Value} (h : Rdr.Frame ok b W W') (hg : W.heap[g]? = some (.cells cs 31 (0, 0))) (hne : g ≠ b) : W'.heap[g]? = some (.cells cs 31 (0, 0)) :=
  (h.block g (Array.getElem?_eq_some_iff.1 hg).1 hne (.inr (by
    rintro ⟨c2, h2⟩
    rw [hg] at h2
    simp at h2))).trans hg
theorem frame_below {W W' : World} {ok : Nat → Prop} {b B : Nat} (h : Rdr.Frame ok b W W') (hB : B ≤ W.heap.size) (hb : B ≤ b) (hok : ∀ k, ok k → B ≤ k) : Below B W W' :=
  ⟨h.os, h.tape, h.output, h.size, fun k hk => h.block k (by omega) (by omega) (.inl (fun q => by have := hok k q; omega))⟩
set_option maxHeartbeats 8000000 in
set_option maxRecDepth 100000 in
theorem wire_Split.calls (a0 : ByteArray) (a1 : ByteArray) (a2 : Int) (r1 : List (S55)) (r2 : Int) (r3 : Int) (w : World) (h : wire_Split.f a0 a1 a2 = some (r1, r2, r3)) :
    Calls Try.prog 19 #[.string a0, .string a1, .int .i64 a2] w fun e w' => ∃ v0_ : Value, e = .returned (.tuple #[v0_, .agg #[.int .i64 r2, .int .i64 r3]]) ∧ Kd.R k55 55 w' w.heap.size (fun _ => True) v0_ r1 ∧ Below w.heap.size w w' := by
  unfold wire_Split.f at h
  by_cases hsz : a0.size ≤ 1099511627776 ∧ a1.size ≤ 1099511627776 ∧ a2 ≤ 9223372036854775807
  case neg => rw [if_neg hsz] at h; exact absurd h (by simp)
  rw [if_pos hsz] at h
  obtain ⟨s0, s1, s2⟩ := hsz
  have hm0 : 0 ≤ m0 a2 ∧ m0 a2 ≤ 9223372036854775807 := by unfold m0; split <;> omega
  obtain ⟨hwf, htx, htk⟩ := newM_ok a1 (m0 a2) (by omega) hm0.1 hm0.2
  have HWF := Aside0.mk hwf
  have HTX := Aside0.mk htx
  have HTK := Aside0.mk htk
  clear hwf htx htk hm0
  by_cases hcode : (split a0 a1 a2).1.code = 0
  · rw [if_pos hcode] at h
    simp only [Option.some.injEq, Prod.mk.injEq] at h
    obtain ⟨rfl, rfl, rfl⟩ := h
    have HC := Aside0.mk (show (close (feed (newM a1 (m0 a2)) (numsOf a0)).1).code = 0 from hcode)
    clear hcode
    go_enter Try.func19, Try.ntmps19
    go_wp2_with (first | (go_at_call 27; refine (new_calls a1 a2 _ (by omega)).mono ?_; rintro e w2 ⟨rfl, hA, hB⟩; rw [size_alloc] at hA hB ⊢; have HA := Aside0.mk hA; have HB := Aside0.mk hB; clear hA hB) | ((with_reducible refine gate_dst (N := 16) rfl ?_); refine T_conv (w0 := w2) w2.heap.size 5 rfl (N := 16) rfl 9 48 _ rfl a0 rfl Try.underlying9 Try.underlying48 Try.underlying5 (by simp only [maxLen]; omega) (Below.refl _ _) (Nat.le_refl _) ?_; intro vc w3 HO hb3; obtain ⟨gp, cp, rfl, hg1, hg2, hg3, hrd⟩ := OwnT.slice HO; have hl2 := HA.out.lt; have hl3 := hb3.size; have hb2 := HB.out; have hrep : Rep (newM a1 (m0 a2)) w3 (w.heap.size + 1) w.heap.size (fun k => w.heap.size + 2 ≤ k ∧ k ≠ gp) := ⟨.slice none 0 0, (hb3.block _ hl2).trans HA.out, by rw [HTX.out]; exact Kd.R_nil _ _ _ _ _⟩; have hflt : w3.heap[w.heap.size]? = some (.cells #[.int .i64 0, .int .i64 0] 31 (0, 0)) := (hb3.block _ (by omega)).trans ((hb2.block _ (by omega)).trans (heap_alloc_new w _)); have hbel : Below w.heap.size w w3 := (((Below.refl _ w).alloc (Nat.le_refl _) _).trans (hb2.mono (by omega))).trans (hb3.mono (by omega)); have HRD := Aside0.mk hrd; have HREP := Aside0.mk hrep; have HFLT := Aside0.mk hflt; have HBEL := Aside0.mk hbel; clear hrd hrep hflt hbel hb2 hb3 HO HA HB) | (go_at_call 28; refine (feed_calls (newM a1 (m0 a2)) w3 (w.heap.size + 1) w.heap.size (fun k => w.heap.size + 2 ≤ k ∧ k ≠ gp) HREP.out HWF.out (by omega) (fun k hk => ⟨by omega, by omega⟩) (by omega) _ _ _ (numsOf a0) HRD.out hg3 (fun ad had => by injection had with had; subst had; exact ⟨by show gp ≠ _; omega, hg2, fun q => q.2 rfl⟩) (numsOf_range a0) (by rw [HTK.out, numsOf_len]; omega) (by rw [HTK.out]; exact Int.le_refl _)).mono ?_; rintro e w4 ⟨vf, rfl, hOut, hRep4, hF4⟩; have HR4 := Aside0.mk hRep4; have HO4 := Aside0.mk hOut; have HF4 := Aside0.mk hF4; have HFLT4 := Aside0.mk (fault_kept hF4 HFLT.out (by omega)); have hs4 := hF4.size; clear hRep4 hOut hF4) | (go_at_call 29; refine (close_ps (feed (newM a1 (m0 a2)) (numsOf a0)).1 w4 (w.heap.size + 1) w.heap.size (fun k => w.heap.size + 2 ≤ k ∧ k ≠ gp) HR4.out (by omega)).mono ?_; rintro e w5 ⟨rfl, hRep5, hF5⟩; rw [HC.out]; have hg5 := fault_kept hF5 HFLT4.out (by omega); have hs5 := hF5.size; have hl5 := (Array.getElem?_eq_some_iff.1 hg5).1; have hn5 : (w.heap.size = w5.heap.size) = False := eq_false (by omega); have z0 := cell3 hg5 0; have z1 := cell3 hg5 1; have y0 := fro3 hg5 0; have y1 := fro3 hg5 1; have HG5 := Aside0.mk hg5; have HO5 := Aside0.mk (by obtain ⟨vx, hAx, _⟩ := HR4.out; exact hF5.out hAx HO4.out); have HBL5 := Aside0.mk (((HBEL.out.trans (frame_below HF4.out (by omega) (by omega) (fun k hk => by omega)))).trans (frame_below hF5 (by omega) (by omega) (fun k hk => by omega))); clear hRep5 hF5 hg5))
    refine bodyPost_ret (results_tc rfl _ _ w.heap.size 31 _ (0, 0) _ rfl ((Below.heap_alloc _ _ _ (by simpa [World.setCell] using hl5)).trans (set2 HG5.out)) Try.underlying31 rfl rfl) rfl ⟨vf, rfl, ?_, ?_⟩
    · exact Kd.R_alloc (out_set (out_set (Kd.R_lower HO5.out (by omega)) HG5.out (by decide)) (set1 HG5.out) (by decide)) _
    · exact ((HBL5.out.setCell (Nat.le_refl _) _).setCell (Nat.le_refl _) _).alloc (by have : w.heap.size ≤ w5.heap.size := Nat.le_of_lt hl5; simpa [World.setCell] using this) _
  · rw [if_neg hcode] at h
    simp only [Option.some.injEq, Prod.mk.injEq] at h
    obtain ⟨rfl, rfl, rfl⟩ := h
    have HC := Aside0.mk (show (close (feed (newM a1 (m0 a2)) (numsOf a0)).1) = (split a0 a1 a2).1 from rfl)
    have hcb : ((split a0 a1 a2).1.code != 0) = true := bne_iff_ne.2 hcode
    clear hcode
    generalize (split a0 a1 a2).1 = p5 at HC hcb ⊢
    go_enter Try.func19, Try.ntmps19
    go_wp2_with (first | (go_at_call 27; refine (new_calls a1 a2 _ (by omega)).mono ?_; rintro e w2 ⟨rfl, hA, hB⟩; rw [size_alloc] at hA hB ⊢; have HA := Aside0.mk hA; have HB := Aside0.mk hB; clear hA hB) | ((with_reducible refine gate_dst (N := 16) rfl ?_); refine T_conv (w0 := w2) w2.heap.size 5 rfl (N := 16) rfl 9 48 _ rfl a0 rfl Try.underlying9 Try.underlying48 Try.underlying5 (by simp only [maxLen]; omega) (Below.refl _ _) (Nat.le_refl _) ?_; intro vc w3 HO hb3; obtain ⟨gp, cp, rfl, hg1, hg2, hg3, hrd⟩ := OwnT.slice HO; have hl2 := HA.out.lt; have hl3 := hb3.size; have hb2 := HB.out; have hrep : Rep (newM a1 (m0 a2)) w3 (w.heap.size + 1) w.heap.size (fun k => w.heap.size + 2 ≤ k ∧ k ≠ gp) := ⟨.slice none 0 0, (hb3.block _ hl2).trans HA.out, by rw [HTX.out]; exact Kd.R_nil _ _ _ _ _⟩; have hflt : w3.heap[w.heap.size]? = some (.cells #[.int .i64 0, .int .i64 0] 31 (0, 0)) := (hb3.block _ (by omega)).trans ((hb2.block _ (by omega)).trans (heap_alloc_new w _)); have hbel : Below w.heap.size w w3 := (((Below.refl _ w).alloc (Nat.le_refl _) _).trans (hb2.mono (by omega))).trans (hb3.mono (by omega)); have HRD := Aside0.mk hrd; have HREP := Aside0.mk hrep; have HFLT := Aside0.mk hflt; have HBEL := Aside0.mk hbel; clear hrd hrep hflt hbel hb2 hb3 HO HA HB) | (go_at_call 28; refine (feed_calls (newM a1 (m0 a2)) w3 (w.heap.size + 1) w.heap.size (fun k => w.heap.size + 2 ≤ k ∧ k ≠ gp) HREP.out HWF.out (by omega) (fun k hk => ⟨by omega, by omega⟩) (by omega) _ _ _ (numsOf a0) HRD.out hg3 (fun ad had => by injection had with had; subst had; exact ⟨by show gp ≠ _; omega, hg2, fun q => q.2 rfl⟩) (numsOf_range a0) (by rw [HTK.out, numsOf_len]; omega) (by rw [HTK.out]; exact Int.le_refl _)).mono ?_; rintro e w4 ⟨vf, rfl, hOut, hRep4, hF4⟩; have HR4 := Aside0.mk hRep4; have HO4 := Aside0.mk hOut; have HF4 := Aside0.mk hF4; have HFLT4 := Aside0.mk (fault_kept hF4 HFLT.out (by omega)); have hs4 := hF4.size; clear hRep4 hOut hF4) | (go_at_call 29; refine (close_ps (feed (newM a1 (m0 a2)) (numsOf a0)).1 w4 (w.heap.size + 1) w.heap.size (fun k => w.heap.size + 2 ≤ k ∧ k ≠ gp) HR4.out (by omega)).mono ?_; rintro e w5 ⟨rfl, hRep5, hF5⟩; rw [HC.out]; have hg5 := fault_kept hF5 HFLT4.out (by omega); have hs5 := hF5.size; have hl5 := (Array.getElem?_eq_some_iff.1 hg5).1; have hn5 : (w.heap.size = w5.heap.size) = False := eq_false (by omega); have z0 := cell3 hg5 0; have z1 := cell3 hg5 1; have y0 := fro3 hg5 0; have y1 := fro3 hg5 1; have HG5 := Aside0.mk hg5; have HO5 := Aside0.mk (by obtain ⟨vx, hAx, _⟩ := HR4.out; exact hF5.out hAx HO4.out); have HBL5 := Aside0.mk (((HBEL.out.trans (frame_below HF4.out (by omega) (by omega) (fun k hk => by omega)))).trans (frame_below hF5 (by omega) (by omega) (fun k hk => by omega))); clear hRep5 hF5 hg5))
    have hl6 := hl5
    have HA6 : (w5.alloc (.cells #[.int .i64 p5.code, .int .i64 p5.place] 31)).heap[w5.heap.size]? = some (.cells #[.int .i64 p5.code, .int .i64 p5.place] 31 (0, 0)) := heap_alloc_new w5 _
    have HB6 : (w5.alloc (.cells #[.int .i64 p5.code, .int .i64 p5.place] 31)).heap[w.heap.size]? = some (.cells #[.int .i64 0, .int .i64 0] 31 (0, 0)) := (Below.heap_alloc _ _ _ hl5).trans HG5.out
    have HC6 : Below w.heap.size w (w5.alloc (.cells #[.int .i64 p5.code, .int .i64 p5.place] 31)) := HBL5.out.alloc (Nat.le_of_lt hl5) _
    generalize w5.alloc (.cells #[.int .i64 p5.code, .int .i64 p5.place] 31) = w6 at HA6 HB6 HC6 ⊢
    clear z0 z1 y0 y1
    refine wp_region_still_tail 2 (by kernel_rfl) (by kernel_rfl) ?_
    change wpStill _ _ (World.drew w6) (fun a' => wpList _ _ _ _ a' (World.drew w6)) _ _
    have HA7 : w6.drew.heap[w5.heap.size]? = some (.cells #[.int .i64 p5.code, .int .i64 p5.place] 31 (0, 0)) := HA6
    have HB7 : w6.drew.heap[w.heap.size]? = some (.cells #[.int .i64 0, .int .i64 0] 31 (0, 0)) := HB6
    have HC7 : Below w.heap.size w w6.drew := HC6.drew
    clear HA6 HB6 HC6
    generalize World.drew w6 = w7 at HA7 HB7 HC7 ⊢
    have x0 := cell3 HA7 0
    have x1 := cell3 HA7 1
    have z0 := cell3 HB7 0
    have z1 := cell3 HB7 1
    have y0 := fro3 HB7 0
    have y1 := fro3 HB7 1
    replace HA7 := Aside0.mk HA7
    replace HB7 := Aside0.mk HB7
    simp only [List.take_succ_cons, List.take_zero, List.drop_succ_cons, List.drop_zero]
    repeat still_step
    refine wpStill_nil ?_
    change wpList _ _ _ _ _ w7
    go_wp2
    refine bodyPost_ret (results_tc rfl _ _ w.heap.size 31 _ (0, 0) _ rfl (set2 HB7.out) Try.underlying31 rfl rfl) rfl ⟨_, rfl, Kd.R_nil _ _ _ _ _, ?_⟩
    exact (HC7.setCell (Nat.le_refl _) _).setCell (Nat.le_refl _) _
end Go.Proofs.Ytnilogameaaooaa.Q
/- The plain reader, phase by phase. -/
namespace Go.Proofs.Ytnilogameaaooaa.Rdr
open Go.RowKit Go.Proofs.Ytnilogameaaooaa.Q Go.Proofs.Ytnilogameaaooaa.Tail Go.Proofs.YtnilogameaaooaaW.PrintWords Go.Proofs.YtnilogameaaooaaW.PrintLast Go.Proofs.YtnilogameaaooaaW.PrintMore Go.Proofs.Ytnilogameaaooaa.Bytes
set_option linter.unusedVariables false
set_option linter.unusedSimpArgs false

/-- The number in bytes, the lowest first. -/
def val : List Int → Int
  | [] => 0
  | c :: l => c + 256 * val l
def Byts (l : List Int) : Prop := ∀ x ∈ l, 0 ≤ x ∧ x < 256
theorem Byts.cons {c : Int} {l : List Int} (h : Byts (c :: l)) : (0 ≤ c ∧ c < 256) ∧ Byts l := ⟨h c List.mem_cons_self, fun x hx => h x (List.mem_cons_of_mem _ hx)⟩
theorem Byts.app {l m : List Int} (h : Byts (l ++ m)) : Byts l ∧ Byts m := ⟨fun x hx => h x (List.mem_append_left _ hx), fun x hx => h x (List.mem_append_right _ hx)⟩
theorem stop_of {p : Ps} (h0 : p.code = 0) (h1 : p.shut = false) : ¬ p.stopped = true := by unfold Ps.stopped; rw [h0, h1]; simp
/-- A reader in the head of an item. -/
structure Head (p : Ps) : Prop where
  code : p.code = 0
  shut : p.shut = false
  item : p.item < (p.plan.size : Int)
  state : p.state = 0
  need : 1 ≤ p.need ∧ p.need ≤ 8
  num : 0 ≤ p.num ∧ p.num < 256 ^ (8 - p.need).toNat
theorem pow_next (j : Int) (h : 1 ≤ j) (h8 : j ≤ 8) : (256 : Int) ^ (8 - (j - 1)).toNat = 256 * 256 ^ (8 - j).toNat := by
  have : (8 - (j - 1)).toNat = (8 - j).toNat + 1 := by omega
  rw [this, Int.pow_succ, Int.mul_comm]
theorem tk_head_more {p : Ps} (h : Head p) {c : Int} (hc : 0 ≤ c ∧ c < 256) (h1 : p.need ≠ 1) : (tk p c).1 = true ∧ tick p c = { p with num := p.num + 256 ^ (8 - p.need).toNat * c, need := p.need - 1, taken := p.taken + 1 } := by
  obtain ⟨o1, o2⟩ := orNum_add p.num c p.need h.num.1 h.num.2 hc.1 hc.2 h.need.1 h.need.2
  have e : tk p c = (true, { p with num := orNum p.num c p.need, need := p.need - 1 }) := by unfold tk; rw [if_pos h.state, if_neg (fun q => h1 q.1)]
  refine ⟨by rw [e], ?_⟩
  unfold tick
  rw [e, o1, Int.mul_comm c]
theorem head_step {p : Ps} (h : Head p) {c : Int} (hc : 0 ≤ c ∧ c < 256) (h1 : p.need ≠ 1) : Head { p with num := p.num + 256 ^ (8 - p.need).toNat * c, need := p.need - 1, taken := p.taken + 1 } := by
  obtain ⟨o1, o2⟩ := orNum_add p.num c p.need h.num.1 h.num.2 hc.1 hc.2 h.need.1 h.need.2
  have hp : (0 : Int) ≤ 256 ^ (8 - p.need).toNat := Int.pow_nonneg (by omega)
  have hm := Int.mul_nonneg hp hc.1
  have hn := h.need
  refine ⟨h.code, h.shut, h.item, h.state, by simp only; omega, by have := h.num.1; simp only; omega, ?_⟩
  simp only
  rw [show 8 - (p.need - 1) = 9 - p.need by omega, Int.mul_comm]
  exact o2
theorem head_app : ∀ (xs : List Int) (p : Ps) (rest : List Int), Head p → Byts xs → (xs.length : Int) < p.need →
    Head { p with num := p.num + 256 ^ (8 - p.need).toNat * val xs, need := p.need - xs.length, taken := p.taken + xs.length } ∧ feed p (xs ++ rest) = feed { p with num := p.num + 256 ^ (8 - p.need).toNat * val xs, need := p.need - xs.length, taken := p.taken + xs.length } rest
  | [], p, rest, h, _, _ => by
    have e : ({ p with num := p.num + 256 ^ (8 - p.need).toNat * val [], need := p.need - (([] : List Int).length : Int), taken := p.taken + (([] : List Int).length : Int) } : Ps) = p := by
      simp [val]
    rw [e]
    exact ⟨h, rfl⟩
  | c :: xs, p, rest, h, hb, hl => by
    obtain ⟨hc, hb⟩ := hb.cons
    have hl : ((xs.length + 1 : Nat) : Int) < p.need := hl
    have h1 : p.need ≠ 1 := by omega
    obtain ⟨t1, t2⟩ := tk_head_more h hc h1
    have hs := head_step h hc h1
    obtain ⟨i1, i2⟩ := head_app xs _ rest hs hb (by simp only; omega)
    have e : ({ ({ p with num := p.num + 256 ^ (8 - p.need).toNat * c, need := p.need - 1, taken := p.taken + 1 } : Ps) with num := ({ p with num := p.num + 256 ^ (8 - p.need).toNat * c, need := p.need - 1, taken := p.taken + 1 } : Ps).num + 256 ^ (8 - (p.need - 1)).toNat * val xs, need := (p.need - 1) - (xs.length : Int), taken := (p.taken + 1) + (xs.length : Int) } : Ps) = { p with num := p.num + 256 ^ (8 - p.need).toNat * val (c :: xs), need := p.need - ((c :: xs).length : Int), taken := p.taken + ((c :: xs).length : Int) } := by
      rw [pow_next p.need h.need.1 h.need.2]
      simp only [val, List.length_cons]
      congr 1
      · push_cast; omega
      · rw [Int.mul_add, Int.add_assoc]
        congr 2
        rw [← Int.mul_assoc, Int.mul_comm 256]
      · push_cast; omega
    rw [← e]
    refine ⟨i1, ?_⟩
    rw [← i2, List.cons_append, feed_more (stop_of h.code h.shut) (by have := h.item; omega) t1 (by rw [t2]; simp only; omega), t2]
/-- The last byte of a head: too long. -/
theorem head_long {p : Ps} (h : Head p) (h1 : p.need = 1) {c : Int} (hc : 0 ≤ c ∧ c < 256) (ht : bt p.plan p.item = 116) (hm : p.most < p.num + 256 ^ (8 - p.need).toNat * c) (rest : List Int) :
    feed p (c :: rest) = ({ p with num := p.num + 256 ^ (8 - p.need).toNat * c, code := 6, place := p.start }, []) := by
  obtain ⟨o1, o2⟩ := orNum_add p.num c p.need h.num.1 h.num.2 hc.1 hc.2 h.need.1 h.need.2
  rw [Int.mul_comm c] at o1
  have e : tk p c = (false, { p with num := orNum p.num c p.need, code := 6, place := p.start }) := by unfold tk; rw [if_pos h.state, if_pos ⟨h1, ht, by rw [o1]; exact hm⟩]
  rw [feed_bad (stop_of h.code h.shut) (by have := h.item; omega) (by rw [e]; simp), e, o1]
/-- The last byte of a head: the phase is done. -/
theorem head_done {p : Ps} (h : Head p) (h1 : p.need = 1) {c : Int} (hc : 0 ≤ c ∧ c < 256) (hno : ¬ (bt p.plan p.item = 116 ∧ p.most < p.num + 256 ^ (8 - p.need).toNat * c)) (rest : List Int) {q : Ps} (hq : q = { p with num := p.num + 256 ^ (8 - p.need).toNat * c, need := 0, taken := p.taken + 1 }) :
    feed p (c :: rest) = ((feed (nx q).2 rest).1, (nx q).1.toList ++ (feed (nx q).2 rest).2) := by
  obtain ⟨o1, o2⟩ := orNum_add p.num c p.need h.num.1 h.num.2 hc.1 hc.2 h.need.1 h.need.2
  rw [Int.mul_comm c] at o1
  have e : tk p c = (true, { p with num := orNum p.num c p.need, need := p.need - 1 }) := by unfold tk; rw [if_pos h.state, if_neg (fun r => hno ⟨r.2.1, by rw [← o1]; exact r.2.2⟩)]
  have hz : p.need - 1 = 0 := by omega
  have e2 : tick p c = q := by unfold tick; rw [e, o1, hq]; simp only [hz]
  have hn : ¬ 0 < (tick p c).need := by rw [e2, hq]; simp
  rw [feed_next (stop_of h.code h.shut) (by have := h.item; omega) (by rw [e]) hn, e2]
/-- A reader in a text's bytes, or in its padding. -/
structure Body (p : Ps) : Prop where
  code : p.code = 0
  shut : p.shut = false
  item : p.item < (p.plan.size : Int)
  need : 1 ≤ p.need
theorem text_app : ∀ (xs : List Int) (p : Ps) (rest : List Int), Body p → p.state = 1 → (xs.length : Int) < p.need →
    Body { p with text := p.text ++ xs, need := p.need - xs.length, taken := p.taken + xs.length } ∧ feed p (xs ++ rest) = feed { p with text := p.text ++ xs, need := p.need - xs.length, taken := p.taken + xs.length } rest
  | [], p, rest, h, _, _ => by
    have e : ({ p with text := p.text ++ [], need := p.need - (([] : List Int).length : Int), taken := p.taken + (([] : List Int).length : Int) } : Ps) = p := by simp
    rw [e]
    exact ⟨h, rfl⟩
  | c :: xs, p, rest, h, hs, hl => by
    have hl : ((xs.length + 1 : Nat) : Int) < p.need := hl
    have t1 := tk_text (c := c) hs
    have t2 := tick_text (c := c) hs
    have hb : Body { p with need := p.need - 1, text := p.text ++ [c], taken := p.taken + 1 } := ⟨h.code, h.shut, h.item, by simp only; omega⟩
    obtain ⟨i1, i2⟩ := text_app xs { p with need := p.need - 1, text := p.text ++ [c], taken := p.taken + 1 } rest hb hs (by simp only; omega)
    have e : ({ ({ p with need := p.need - 1, text := p.text ++ [c], taken := p.taken + 1 } : Ps) with text := (p.text ++ [c]) ++ xs, need := (p.need - 1) - (xs.length : Int), taken := (p.taken + 1) + (xs.length : Int) } : Ps) = { p with text := p.text ++ (c :: xs), need := p.need - ((c :: xs).length : Int), taken := p.taken + ((c :: xs).length : Int) } := by
      simp only [List.length_cons, List.append_assoc, List.cons_append, List.nil_append]
      congr 1
      · push_cast; omega
      · push_cast; omega
    rw [← e]
    refine ⟨i1, ?_⟩
    rw [← i2, List.cons_append, feed_more (stop_of h.code h.shut) (by have := h.item; omega) (by rw [t1]) (by rw [t2]; simp only; omega), t2]
theorem text_done {p : Ps} (h : Body p) (hs : p.state = 1) (h1 : p.need = 1) (c : Int) (rest : List Int) {q : Ps} (hq : q = { p with text := p.text ++ [c], need := 0, taken := p.taken + 1 }) :
    feed p (c :: rest) = ((feed (nx q).2 rest).1, (nx q).1.toList ++ (feed (nx q).2 rest).2) := by
  have hz : p.need - 1 = 0 := by omega
  have e2 : tick p c = q := by rw [tick_text hs, hq]; simp only [hz]
  have hn : ¬ 0 < (tick p c).need := by rw [e2, hq]; simp
  rw [feed_next (stop_of h.code h.shut) (by have := h.item; omega) (by rw [tk_text hs]) hn, e2]
theorem tk_zero {p : Ps} (hs : p.state = 2) : tk p 0 = (true, { p with need := p.need - 1 }) := by
  unfold tk
  rw [if_neg (by omega), if_neg (by omega), if_pos rfl]
theorem pad_app : ∀ (j : Nat) (p : Ps) (rest : List Int), Body p → p.state = 2 → (j : Int) < p.need →
    Body { p with need := p.need - j, taken := p.taken + j } ∧ feed p (List.replicate j 0 ++ rest) = feed { p with need := p.need - j, taken := p.taken + j } rest
  | 0, p, rest, h, _, _ => by
    have e : ({ p with need := p.need - ((0 : Nat) : Int), taken := p.taken + ((0 : Nat) : Int) } : Ps) = p := by simp
    rw [e]
    exact ⟨h, rfl⟩
  | j + 1, p, rest, h, hs, hl => by
    have t2 : tick p 0 = { p with need := p.need - 1, taken := p.taken + 1 } := by unfold tick; rw [tk_zero hs]
    have hb : Body { p with need := p.need - 1, taken := p.taken + 1 } := ⟨h.code, h.shut, h.item, by simp only; omega⟩
    obtain ⟨i1, i2⟩ := pad_app j { p with need := p.need - 1, taken := p.taken + 1 } rest hb hs (by simp only; omega)
    have e : ({ ({ p with need := p.need - 1, taken := p.taken + 1 } : Ps) with need := (p.need - 1) - (j : Int), taken := (p.taken + 1) + (j : Int) } : Ps) = { p with need := p.need - ((j + 1 : Nat) : Int), taken := p.taken + ((j + 1 : Nat) : Int) } := by
      have n1 : (p.need - 1) - (j : Int) = p.need - ((j + 1 : Nat) : Int) := by omega
      have n2 : (p.taken + 1) + (j : Int) = p.taken + ((j + 1 : Nat) : Int) := by omega
      simp only [n1, n2]
    rw [← e]
    refine ⟨i1, ?_⟩
    rw [← i2, List.replicate_succ, List.cons_append, feed_more (stop_of h.code h.shut) (by have := h.item; omega) (by rw [tk_zero hs]) (by rw [t2]; simp only; omega), t2]
theorem pad_bad {p : Ps} (h : Body p) (hs : p.state = 2) {c : Int} (hc : c ≠ 0) (rest : List Int) : feed p (c :: rest) = ({ p with code := 7, place := p.taken }, []) := by
  have e : tk p c = (false, { p with code := 7, place := p.taken }) := by unfold tk; rw [if_neg (by omega), if_neg (by omega), if_neg hc]
  rw [feed_bad (stop_of h.code h.shut) (by have := h.item; omega) (by rw [e]; simp), e]
theorem pad_done {p : Ps} (h : Body p) (hs : p.state = 2) (h1 : p.need = 1) (rest : List Int) {q : Ps} (hq : q = { p with need := 0, taken := p.taken + 1 }) :
    feed p (0 :: rest) = ((feed (nx q).2 rest).1, (nx q).1.toList ++ (feed (nx q).2 rest).2) := by
  have hz : p.need - 1 = 0 := by omega
  have e2 : tick p 0 = q := by unfold tick; rw [tk_zero hs, hq]; simp only [hz]
  have hn : ¬ 0 < (tick p 0).need := by rw [e2, hq]; simp
  rw [feed_next (stop_of h.code h.shut) (by have := h.item; omega) (by rw [tk_zero hs]) hn, e2]
end Go.Proofs.Ytnilogameaaooaa.Rdr
/- By a program of this session's: a plain Lean function for a Go function, and its contract. -/
namespace Go.Proofs.Ytnilogameaaooaa.Q
open Go.RowKit Go.Proofs.YtnilogameaaooaaW.PrintWords Go.Proofs.YtnilogameaaooaaW.PrintLast Go.Proofs.YtnilogameaaooaaW.PrintMore
attribute [local go_sem] max2_int min2_int max_two min_two max_three min_three max_four min_four Go.Proofs.Ytnilogameaaooaa.Ord.str_leq Go.Proofs.Ytnilogameaaooaa.Ord.str_gtr Go.Proofs.Ytnilogameaaooaa.Ord.str_geq   -- for this text's walks alone
set_option linter.unusedVariables false
set_option linter.unusedSimpArgs false

/-! ### depotref03_Int: function 14 -/
def depotref03_Int.l0 : Nat → Int → List Int → Int → Option (ByteArray)
  | 0, _, _, _ => none
  | k + 1, x0, x3, x4 => if x4 < 8 then (if 0 ≤ x4 then (if x4 < (x3.length : Int) then (depotref03_Int.l0 k (IntKind.u64.wrap (Int.tdiv x0 256)) (x3.set (x4 : Int).toNat ((Int.tmod x0 256) % 256)) (wrap64 (x4 + 1))) else (none)) else (none)) else (some (strOfNums x3))
def depotref03_Int.f (k : Nat) (a0 : Int) : Option (ByteArray) := if 8 ≤ 281474976710656 then (depotref03_Int.l0 k a0 (List.replicate 8 0) 0) else (none)
theorem depotref03_Int.mono_l : ∀ k, (∀ y0 y1 y2, LeO (depotref03_Int.l0 k y0 y1 y2) (depotref03_Int.l0 (k + 1) y0 y1 y2))
  | 0 => fun _ _ _ r h => by simp [depotref03_Int.l0] at h
  | k + 1 => by
    have ih0 := depotref03_Int.mono_l k
    · intro y0 y1 y2
      unfold depotref03_Int.l0
      repeat' first
      | (with_reducible exact ih0 _ _ _)
      | (with_reducible exact LeO.refl _)
      | (with_reducible exact LeO.none _)
      | (with_reducible refine LeO.ite ?_ ?_)
      | (with_reducible refine LeO.bind ?_ (fun _ => ?_))
      | exact ih0 _ _ _
      | exact LeO.none _
      | refine LeO.ite ?_ ?_
      | refine LeO.bind ?_ (fun _ => ?_)
theorem depotref03_Int.mono : ∀ a0 k, LeO (depotref03_Int.f k a0) (depotref03_Int.f (k + 1) a0) := by
  intro a0 k
  have ih0 := depotref03_Int.mono_l k
  unfold depotref03_Int.f
  repeat' first
      | (with_reducible exact ih0 _ _ _)
      | (with_reducible exact LeO.refl _)
      | (with_reducible exact LeO.none _)
      | (with_reducible refine LeO.ite ?_ ?_)
      | (with_reducible refine LeO.bind ?_ (fun _ => ?_))
      | exact ih0 _ _ _
      | exact LeO.none _
      | refine LeO.ite ?_ ?_
      | refine LeO.bind ?_ (fun _ => ?_)
set_option maxHeartbeats 8000000 in
set_option maxRecDepth 100000 in
theorem depotref03_Int.calls (k : Nat) (a0 : Int) (r : ByteArray) (w : World) (h : depotref03_Int.f k a0 = some r) :
    Calls Try.prog 14 #[.int .u64 a0] w fun e w' => e = .returned (.string r) ∧ Below w.heap.size w w' := by
  have HB := Aside0.mk (Below.refl w.heap.size w)
  have H : (if 8 ≤ 281474976710656 then (depotref03_Int.l0 k a0 (List.replicate 8 0) 0) else (none)) = some r := h
  clear h
  by_cases c2 : 8 ≤ 281474976710656
  · rw [if_pos c2] at H
    have c2b0 := eq_true c2
    have c2b1 : decide (8 ≤ 281474976710656) = true := decide_eq_true c2
    clear c2
    obtain ⟨y101, hy101⟩ : ∃ y_ : List Int, y_ = (List.replicate 8 0) := ⟨_, rfl⟩
    replace H : (depotref03_Int.l0 k a0 y101 0) = some r := by first | (rw [hy101]; with_reducible exact H) | (have H2_ := (Option.bind_some _ _).symm.trans H; rw [hy101]; with_reducible exact H2_) | (have H2_ := (Option.bind_some _ _).symm.trans H; with_reducible exact H2_) | with_reducible exact H | (rw [hy101]; exact H) | exact H
    have Ny101 := Aside0.mk hy101
    clear hy101
    have H' := Aside0.mk H
    clear H
    go_enter Try.func14, Try.ntmps14
    go_wp2_with (first | ((with_reducible refine gate_dst (N := 5) rfl ?_); refine Kd.R_make (Kd.int .u8) _ 5 rfl (N := 5) rfl 48 _ _ rfl 8 rfl rfl Try.underlying48 (.int .u8 0) 1 info5 rfl (by decide) (by omega) 0 (ok := fun _ => True) (okp := fun _ => True) rfl (fun _ hk => hk) trivial (by omega) (by omega) (Below.refl _ _) (Nat.le_refl _) ?_; intro v102 w3 ho4 hb hg_ hnew_; clear hg_ hnew_; (first | rw [← Ny101.out] at ho4 | (simp only [Int.reduceToNat] at ho4; rw [← Ny101.out] at ho4)); have n0_ := Aside0.mk (Kd.R_lower ho4 (below_size (by repeat (first | (with_reducible first | exact HB.out | apply below_alloc | apply pw_below_drewN | apply below_drew1) | exact HB.out)))); have n1_ := Aside0.mk (below_step (by repeat (first | (with_reducible first | exact HB.out | apply below_alloc | apply pw_below_drewN | apply below_drew1) | exact HB.out)) hb); clear HB; have HO103 := n0_; have HB := n1_; clear n0_ n1_; clear hb ho4))
    go_loopg [0, 4] k (fun kq v0 v4 w' => ∃ (x0_1 : Int) (x3_1 : List Int) (x4_1 : Int), v0 = .int .u64 x0_1 ∧ v4 = .int .i64 x4_1 ∧ Aside0 (depotref03_Int.l0 kq x0_1 x3_1 x4_1 = some r) ∧ Aside0 (kq ≤ k) ∧ Aside0 (Kd.R (Kd.int .u8) 5 w' w.heap.size (fun _ => True) v102 x3_1) ∧ Aside0 (Below w.heap.size w w'))
    case atStart => exact ⟨(a0), (y101), (0), (by first | rfl | (simp; done) | (simp [*]; done)), (by first | rfl | (simp; done) | (simp [*]; done)), H', ⟨Nat.le_refl _⟩, ⟨by (with_reducible repeat (first | apply Kd.R_alloc | apply Kd.R_drewN | apply Kd.R_drew)); exact HO103.out⟩, ⟨by repeat (first | (with_reducible first | exact HB.out | apply below_alloc | apply pw_below_drewN | apply below_drew1) | exact HB.out)⟩⟩
    case round =>
      clear H'
      try clear c1
      try clear c2
      try clear c2b0
      try clear c2b1
      try clear p2
      obtain ⟨x0_1, x3_1, x4_1, rfl, rfl, HA, HK1, HO_3, HB⟩ := hrel
      cases gk with
      | zero => exact absurd HA.out (by simp [depotref03_Int.l0])
      | succ k1 =>
        have H := HA.out
        clear HA
        simp only [depotref03_Int.l0] at H
        by_cases c5 : x4_1 < 8
        · rw [if_pos c5] at H
          have c5b0 : decide (x4_1 < 8) = true := decide_eq_true c5
          clear c5
          by_cases c6 : 0 ≤ x4_1
          · rw [if_pos c6] at H
            have c6b0 : decide (0 ≤ x4_1) = true := decide_eq_true c6
            clear c6
            by_cases c7 : x4_1 < (x3_1.length : Int)
            · rw [if_pos c7] at H
              have c7b0 : decide (x4_1 < (x3_1.length : Int)) = true := decide_eq_true c7
              clear c7
              obtain ⟨y104, hy104⟩ : ∃ y_ : List Int, y_ = (x3_1.set (x4_1 : Int).toNat ((Int.tmod x0_1 256) % 256)) := ⟨_, rfl⟩
              replace H : (depotref03_Int.l0 k1 (IntKind.u64.wrap (Int.tdiv x0_1 256)) y104 (wrap64 (x4_1 + 1))) = some r := by first | (rw [hy104]; with_reducible exact H) | (have H2_ := (Option.bind_some _ _).symm.trans H; rw [hy104]; with_reducible exact H2_) | (have H2_ := (Option.bind_some _ _).symm.trans H; with_reducible exact H2_) | with_reducible exact H | (rw [hy104]; exact H) | exact H
              have Ny104 := Aside0.mk hy104
              clear hy104
              have H' := Aside0.mk H
              clear H
              have p8 : 0 ≤ (x4_1 : Int) := of_decide_eq_true (by first | (with_reducible assumption) | assumption)
              have q8 : (x4_1 : Int) < ((x3_1.length : Int) : Int) := of_decide_eq_true (by first | (with_reducible assumption) | assumption)
              obtain ⟨go8, co8, eo8, gb8, gl8, cl8, HG8⟩ := Kd.R_form HO_3.out (by omega)
              (first | cases eo8 | (injection eo8 with ea_ en_ ec_; (first | subst ea_ | (injection ea_ with ea_; subst ea_)); subst ec_; clear en_))
              have GB8 := Aside0.mk gb8
              have GG8 := Aside0.mk HG8
              clear gb8 gl8 HG8
              obtain ⟨hx8_0, hf8_0⟩ := Kd.R_celln 0 HO_3.out (x4_1 : Int) p8 q8
              replace p8 := eq_true p8
              replace q8 := eq_true q8
              have HP9 := Kd.R_putg HO_3.out (x4_1 : Int) ((Int.tmod x0_1 256) % 256)
              go_wp2_with (first | ((with_reducible refine gate_store (t := 5) (p := 15) rfl ?_); refine store_event (t := 5) (p := 15) (v := ?vo_w10) (w1 := (wr.setCell ⟨go8, (x4_1 : Int).toNat, none⟩ (.int .u8 ((Int.tmod x0_1 256) % 256)))) ?hg ?ho ?hn ?hr ?_; (case ho => rfl); (case hg => rfl); (case hn => rfl); (case hr => first | (go_simp; done) | (go_simp; rfl)); intro w10 hw; have hg : wr.grownBy w10 (some go8) := (by rw [hw]; exact HP9.2); have hp_ : Kd.R (Kd.int .u8) 5 w10 w.heap.size (fun _ => True) (.slice (some ⟨go8, 0, none⟩) x3_1.length co8) y104 := (by rw [hw, Ny104.out]; exact HP9.1); clear HP9; have n0_ := Aside0.mk (hp_); have n1_ := Aside0.mk ((by rw [hw]; exact below_set (HB.out) GB8.out : Below w.heap.size w w10)); clear HO_3; clear HB; have HO_3 := n0_; have HB := n1_; clear n0_ n1_; clear hg hw hp_))
              go_roundg k1
              case measure => have := HK1.out; omega
              case rel => exact ⟨(IntKind.u64.wrap (Int.tdiv x0_1 256)), (y104), (wrap64 (x4_1 + 1)), (by first | rfl | (simp; done) | (simp [*]; done)), (by first | rfl | (simp; done) | (simp [*]; done)), H', ⟨by have := HK1.out; omega⟩, ⟨by (with_reducible repeat (first | apply Kd.R_alloc | apply Kd.R_drewN | apply Kd.R_drew)); exact HO_3.out⟩, ⟨by repeat (first | (with_reducible first | exact HB.out | apply below_alloc | apply pw_below_drewN | apply below_drew1) | exact HB.out)⟩⟩
            · rw [if_neg c7] at H
              exact absurd H (by simp)
          · rw [if_neg c6] at H
            exact absurd H (by simp)
        · rw [if_neg c5] at H
          have c5b0 : decide (x4_1 < 8) = false := decide_eq_false c5
          clear c5
          obtain rfl := Option.some.inj H
          have hcv11 := own_string (P := Try.prog) Try.underlying48 Try.underlying5 Try.underlying9 (Kd.own_of_R HO_3.out)
          go_wp2
          go_ret
          exact ⟨by first | rfl | (simp [errW_none, errW_some] <;> rfl) | (simp [*, errW_none, errW_some] <;> rfl), by repeat (first | (with_reducible first | exact HB.out | apply below_alloc | apply pw_below_drewN | apply below_drew1) | exact HB.out)⟩
  · rw [if_neg c2] at H
    exact absurd H (by simp)

end Go.Proofs.Ytnilogameaaooaa.Q
/- wire.Int, walked by hand: eight bytes into an array, and the array's text. -/
namespace Go.Proofs.Ytnilogameaaooaa.Q
open Go.RowKit Go.Proofs.YtnilogameaaooaaW.PrintWords Go.Proofs.YtnilogameaaooaaW.PrintLast Go.Proofs.YtnilogameaaooaaW.PrintMore Go.Proofs.Ytnilogameaaooaa.Bytes
set_option linter.unusedVariables false
set_option linter.unusedSimpArgs false

/-- The eight bytes of a number, the lowest first. -/
def le8 (n : Int) : List Int := (List.range 8).map fun j => n / 2 ^ (8 * j) % 256
def wire_Int.f (a0 : Int) : Option (ByteArray) := some (strOfNums (le8 a0))
/-- The array behind i rounds. -/
def row8 (n : Int) (i : Nat) : List Int := (List.range 8).map fun j => if j < i then n / 2 ^ (8 * j) % 256 else 0
theorem row8_len (n : Int) (i : Nat) : (row8 n i).length = 8 := by simp [row8]
theorem row8_set (n : Int) (i : Nat) (hi : i < 8) : (row8 n i).set i (n / 2 ^ (8 * i) % 256) = row8 n (i + 1) := by
  apply List.ext_getElem
  · simp [row8]
  · intro j h1 h2
    rw [List.getElem_set]
    simp only [row8, List.getElem_map, List.getElem_range]
    by_cases e : i = j
    · subst e
      rw [if_pos rfl, if_pos (Nat.lt_succ_self _)]
    · rw [if_neg e]
      by_cases q : j < i
      · rw [if_pos q, if_pos (by omega)]
      · rw [if_neg q, if_neg (by omega)]
theorem row8_all (n : Int) : row8 n 8 = le8 n := by
  apply List.ext_getElem
  · simp [row8, le8]
  · intro j h1 h2
    simp only [row8, le8, List.getElem_map, List.getElem_range]
    rw [if_pos (by simpa [row8] using h1)]
/-- The world with the array. -/
def w8 (w : World) (e : TypeId) (n : Int) (i : Nat) : World := w.alloc (.cells (nums .u8 (row8 n i)).toArray e)
theorem w8_heap (w : World) (e : TypeId) (n : Int) (i : Nat) : (w8 w e n i).heap[w.heap.size]? = some (.cells (nums .u8 (row8 n i)).toArray e (0, 0)) := heap_alloc_new w _
theorem w8_size (n : Int) (i : Nat) : (nums .u8 (row8 n i)).length = 8 := by simp [nums, row8_len]
theorem w8_set (w : World) (e : TypeId) (n : Int) (i : Nat) (hi : i < 8) : (w8 w e n i).setCell ⟨w.heap.size, i, none⟩ (.int .u8 (n / 2 ^ (8 * i) % 256)) = w8 w e n (i + 1) := by
  have h1 : (nums .u8 (row8 n (i + 1))).toArray = ((nums .u8 (row8 n i)).toArray).setIfInBounds i (.int .u8 (n / 2 ^ (8 * i) % 256)) := by
    rw [← row8_set n i hi]
    apply Array.ext'
    simp [nums, List.map_set]
  unfold w8
  rw [h1]
  have h2 : ∀ c : Array Value, w.alloc (.cells c e) = { w with heap := w.heap.push (.cells c e) } := fun _ => rfl
  rw [h2, h2]
  simp only [World.setCell]
  congr 1
  apply Array.ext'
  simp only [Array.toList_modify, Array.toList_push]
  have h3 : ∀ (l : List Obj) (x : Obj) (f : Obj → Obj), (l ++ [x]).modify l.length f = l ++ [f x] := by
    intro l x f
    induction l with
    | nil => rfl
    | cons a l ih => simp [List.modify_succ_cons, ih]
  have h4 := h3 w.heap.toList (.cells (nums .u8 (row8 n i)).toArray e)
  simp only [Array.length_toList] at h4
  rw [h4]
  rfl
theorem w8_cell (w : World) (e : TypeId) (n : Int) (i : Nat) (hi : i < 8) : ∃ v, (w8 w e n i).cell? ⟨w.heap.size, i, none⟩ = some v := by
  have := cell_of_row (w8 w e n i) w.heap.size i _ e (0, 0) (w8_heap w e n i)
  rw [this]
  exact ⟨_, Array.getElem?_eq_getElem (by simp [w8_size, hi])⟩
theorem w8_frozen (w : World) (e : TypeId) (n : Int) (i j : Nat) : (w8 w e n i).frozen? ⟨w.heap.size, j, none⟩ = false := by
  simp [World.frozen?, w8_heap w e n i]
theorem w8_reads (w : World) (e : TypeId) (n : Int) : ReadsInt (w8 w e n 8) .u8 (some ⟨w.heap.size, 0, none⟩) 8 (le8 n) := by
  refine ⟨by simp [le8], by omega, fun _ => ⟨_, rfl, fun j hj => ?_⟩⟩
  have hadd : (⟨w.heap.size, 0, none⟩ : Addr).add j = ⟨w.heap.size, j, none⟩ := by unfold Addr.add; split <;> simp_all
  rw [hadd, cell_of_row (w8 w e n 8) w.heap.size j _ e (0, 0) (w8_heap w e n 8), row8_all]
  have hl : j < (le8 n).length := by simpa [le8] using hj
  simp [nums, List.getD_eq_getElem?_getD, List.getElem?_eq_getElem hl]
set_option maxHeartbeats 8000000 in
set_option maxRecDepth 100000 in
theorem wire_Int.calls (a0 : Int) (r : ByteArray) (w : World) (h : wire_Int.f a0 = some r) :
    Calls Try.prog 13 #[.int .u64 a0] w fun e w' => e = .returned (.string r) ∧ Below w.heap.size w w' := by
  unfold wire_Int.f at h
  have HR := Aside0.mk (Option.some.inj h)
  clear h
  have HW := Aside0.mk (show (w.alloc (.cells #[Value.int IntKind.u8 0, Value.int IntKind.u8 0, Value.int IntKind.u8 0, Value.int IntKind.u8 0, Value.int IntKind.u8 0, Value.int IntKind.u8 0, Value.int IntKind.u8 0, Value.int IntKind.u8 0] 74)) = w8 w 74 a0 0 from rfl)
  go_enter Try.func13, Try.ntmps13
  go_wp2
  rw [HW.out]
  go_loopg [5, 4] 8 (fun g v5 v4 wx => ∃ i : Nat, i + g = 8 ∧ v5 = .int .i64 (i : Int) ∧ wx = w8 w 74 a0 i)
  case atStart => exact ⟨0, by omega, rfl, rfl⟩
  case round =>
    obtain ⟨i, hig, rfl, rfl⟩ := hrel
    cases gk with
    | zero =>
      obtain rfl : i = 8 := by omega
      have hcv := string_of_reads (P := Try.prog) (w := w8 w 74 a0 8) (c := 8) Try.underlying48 Try.underlying5 Try.underlying9 (w8_reads w 74 a0)
      go_wp2
      go_ret
      exact ⟨by rw [← HR.out]; rfl, below_alloc (Below.refl _ _) _⟩
    | succ g =>
      have hi : i < 8 := by omega
      obtain ⟨v0, hcell⟩ := w8_cell w 74 a0 i hi
      have hfro := w8_frozen w 74 a0 i i
      have hset := w8_set w 74 a0 i hi
      go_wp2
      go_roundg g
      case measure => omega
      case rel => exact ⟨i + 1, by omega, by go_num, rfl⟩
end Go.Proofs.Ytnilogameaaooaa.Q
/- Rounds: small steps of 'from some number of rounds on'. -/
set_option linter.unusedVariables false
set_option linter.unusedSimpArgs false
namespace Go.Proofs.Ytnilogameaaooaa.Evs
open Go.RowKit Go.Proofs.YtnilogameaaooaaW.PrintWords Go.Proofs.YtnilogameaaooaaW.PrintLast Go.Proofs.YtnilogameaaooaaW.PrintMore Go.Proofs.Ytnilogameaaooaa.Bytes

variable {α β : Type}
theorem pos {c : Prop} [Decidable c] {g f : Nat → Option α} {r : α} (h : c) (k : Ev g r) : Ev (fun n => if c then g n else f n) r := by
  obtain ⟨K, k⟩ := k
  exact ⟨K, fun n hn => by simp only [if_pos h]; exact k n hn⟩
theorem neg {c : Prop} [Decidable c] {g f : Nat → Option α} {r : α} (h : ¬ c) (k : Ev f r) : Ev (fun n => if c then g n else f n) r := by
  obtain ⟨K, k⟩ := k
  exact ⟨K, fun n hn => by simp only [if_neg h]; exact k n hn⟩
/-- A callee without rounds. -/
theorem call {x : Option β} {y : β} {f : Nat → β → Option α} {r : α} (h : x = some y) (k : Ev (fun n => f n y) r) : Ev (fun n => x.bind (f n)) r := by
  subst h
  exact k
theorem succ {g : Nat → Option α} {r : α} (k : Ev (fun n => g (n + 1)) r) : Ev g r := Ev.step (fun _ => rfl) k
theorem same {g : Nat → Option α} {r r' : α} (h : r = r') (k : Ev g r') : Ev g r := by rw [h]; exact k
theorem now {x : Option α} {r : α} (h : x = some r) : Ev (fun _ => x) r := ⟨0, fun _ _ => h⟩
theorem getD_of (l : List UInt8) (i : Nat) (h : i < l.length) : l.getD i 0 = l[i] := by rw [List.getD_eq_getElem?_getD, List.getElem?_eq_getElem h]; rfl
theorem bt_lt (s : ByteArray) (i : Nat) (h : i < (bs s).length) : bt s (i : Int) = (((bs s)[i]).toNat : Int) := by rw [bt_bs, Int.toNat_natCast, getD_of _ _ h]
theorem wr (i : Nat) (h : i < 9223372036854775807) : wrap64 ((i : Int) + 1) = ((i + 1 : Nat) : Int) := by rw [w64 (by omega) (by omega)]; omega
theorem wl (i : Nat) (h1 : 1 ≤ i) (h : i ≤ 9223372036854775807) : wrap64 ((i : Int) - 1) = ((i - 1 : Nat) : Int) := by rw [w64 (by omega) (by omega)]; omega
theorem rd_nat (xs : List ByteArray) (i : Nat) : rdOf ByteArray.empty xs (i : Int) = xs.getD i ByteArray.empty := by simp [rdOf]
theorem byte_is {c : UInt8} {n : Nat} (h : n < 256) : ((c.toNat : Int) = (n : Int)) ↔ c = UInt8.ofNat n := by
  rw [← UInt8.toNat_inj, UInt8.toNat_ofNat', Nat.mod_eq_of_lt h]
  omega
theorem back (c : UInt8) : ((c.toNat : Int)).toNat.toUInt8 = c := by simp
theorem ba_ext {a b : ByteArray} (h : bs a = bs b) : a = b := bs_inj h
end Go.Proofs.Ytnilogameaaooaa.Evs
/- depotref03.Int tells the eight bytes, the lowest first. -/
set_option linter.unusedVariables false
set_option linter.unusedSimpArgs false
namespace Go.Proofs.Ytnilogameaaooaa.Pure
open Go.RowKit Go.Proofs.Ytnilogameaaooaa.Q Go.Proofs.YtnilogameaaooaaW.PrintWords Go.Proofs.YtnilogameaaooaaW.PrintLast Go.Proofs.YtnilogameaaooaaW.PrintMore Go.Proofs.Ytnilogameaaooaa.Bytes Go.Proofs.Ytnilogameaaooaa.Evs

theorem pow_step (n : Int) (i : Nat) : n / 2 ^ (8 * i) / 256 = n / 2 ^ (8 * (i + 1)) := by
  rw [Int.ediv_ediv_of_nonneg (by exact Int.pow_nonneg (by omega))]
  congr 1
  rw [show 8 * (i + 1) = 8 * i + 8 by omega, Int.pow_add]
  rfl
theorem pow_bound (n : Int) (i : Nat) (h0 : 0 ≤ n) (h1 : n < 18446744073709551616) : 0 ≤ n / 2 ^ (8 * i) ∧ n / 2 ^ (8 * i) < 18446744073709551616 := by
  have hp : (0 : Int) < 2 ^ (8 * i) := Int.pow_pos (by omega)
  refine ⟨Int.ediv_nonneg h0 (Int.le_of_lt hp), Int.lt_of_le_of_lt (Int.ediv_le_self _ h0) h1⟩
theorem refInt_step (n : Int) (h0 : 0 ≤ n) (h1 : n < 18446744073709551616) : ∀ (d i : Nat), i + d = 8 → Ev (fun k => depotref03_Int.l0 k (n / 2 ^ (8 * i)) (row8 n i) (i : Int)) (strOfNums (le8 n)) := by
  intro d
  induction d with
  | zero =>
    intro i hi
    obtain rfl : i = 8 := by omega
    apply succ
    simp only [depotref03_Int.l0]
    refine neg (by omega) (now ?_)
    rw [row8_all]
  | succ d ih =>
    intro i hi
    have ih := ih (i + 1) (by omega)
    obtain ⟨b0, b1⟩ := pow_bound n i h0 h1
    apply succ
    simp only [depotref03_Int.l0]
    refine pos (by omega) (pos (by omega) (pos (by rw [row8_len]; omega) ?_))
    have e1 : IntKind.u64.wrap (Int.tdiv (n / 2 ^ (8 * i)) 256) = n / 2 ^ (8 * (i + 1)) := by
      rw [Int.tdiv_eq_ediv_of_nonneg b0, pow_step]
      obtain ⟨c0, c1⟩ := pow_bound n (i + 1) h0 h1
      exact Int.emod_eq_of_lt c0 c1
    have e2 : Int.tmod (n / 2 ^ (8 * i)) 256 % 256 = n / 2 ^ (8 * i) % 256 := by
      rw [Int.tmod_eq_emod_of_nonneg b0]
      omega
    rw [e1, e2, Int.toNat_natCast, row8_set n i (by omega), wr i (by omega)]
    exact ih
theorem refInt (n : Int) (h0 : 0 ≤ n) (h1 : n < 18446744073709551616) : Ev (fun k => depotref03_Int.f k n) (strOfNums (le8 n)) := by
  have h := refInt_step n h0 h1 8 0 rfl
  simp only [depotref03_Int.f]
  refine pos (by omega) ?_
  have e1 : n / 2 ^ (8 * 0) = n := by simp
  have e2 : row8 n 0 = List.replicate 8 0 := rfl
  rw [e1, e2] at h
  exact h
end Go.Proofs.Ytnilogameaaooaa.Pure
/- depotref03.Text, walked by hand: it goes on in the row of a conversion. -/
namespace Go.Proofs.Ytnilogameaaooaa.Q
open Go.RowKit Go.Proofs.YtnilogameaaooaaW.PrintWords Go.Proofs.YtnilogameaaooaaW.PrintLast Go.Proofs.YtnilogameaaooaaW.PrintMore Go.Proofs.Ytnilogameaaooaa.Bytes Go.Proofs.Ytnilogameaaooaa.Tail
set_option linter.unusedVariables false
set_option linter.unusedSimpArgs false

/-- How many noughts go behind n bytes. -/
def padOf (n : Nat) : Nat := (8 - n % 8) % 8
/-- The bytes of a framed text. -/
def frame8 (s : ByteArray) : List Int := le8 (s.size : Int) ++ (numsOf s ++ List.replicate (padOf s.size) 0)
def depotref03_Text.f (a0 : ByteArray) : Option (ByteArray) := if a0.size ≤ 140737488351232 then some (strOfNums (frame8 a0)) else none
/-- The first i bytes behind the length. -/
def upTo (s : ByteArray) (i : Nat) : List Int := le8 (s.size : Int) ++ (numsOf s ++ List.replicate (padOf s.size) 0).take i
theorem upTo_len (s : ByteArray) (i : Nat) (h : i ≤ s.size + padOf s.size) : (upTo s i).length = 8 + i := by
  simp only [upTo, List.length_append, List.length_take, numsOf_len, List.length_replicate]
  have : (le8 (s.size : Int)).length = 8 := by simp [le8]
  omega
theorem upTo_all (s : ByteArray) : upTo s (s.size + padOf s.size) = frame8 s := by
  unfold upTo frame8
  rw [List.take_of_length_le (by simp [numsOf_len])]
theorem upTo_byte (s : ByteArray) (i : Nat) (h : i < s.size) : upTo s i ++ [((s[i]'h).toNat : Int)] = upTo s (i + 1) := by
  unfold upTo
  rw [List.append_assoc]
  congr 1
  rw [List.take_add_one, List.getElem?_append_left (by rw [numsOf_len]; exact h)]
  congr 1
  simp only [numsOf, List.getElem?_map, Array.getElem?_toList]
  rw [Array.getElem?_eq_getElem (show i < s.data.size from h)]
  rfl
theorem upTo_zero (s : ByteArray) (i : Nat) (h : s.size ≤ i) (h2 : i < s.size + padOf s.size) : upTo s i ++ [0] = upTo s (i + 1) := by
  unfold upTo
  rw [List.append_assoc]
  congr 1
  rw [List.take_add_one, List.getElem?_append_right (by rw [numsOf_len]; exact h), numsOf_len, List.getElem?_replicate, if_pos (by omega)]
  rfl
theorem numsOf_str (s : List Int) (h : ∀ x ∈ s, 0 ≤ x ∧ x < 256) : numsOf (strOfNums s) = s := by
  induction s with
  | nil => rfl
  | cons x s ih =>
    have hx := h x List.mem_cons_self
    have ih := ih fun y hy => h y (List.mem_cons_of_mem _ hy)
    simp only [numsOf, strOfNums, List.map_cons, List.map_map] at ih ⊢
    rw [ih]
    congr 1
    rw [UInt8.toNat_ofNat', Nat.mod_eq_of_lt (by omega)]
    omega
theorem le8_range (n : Int) : ∀ x ∈ le8 n, 0 ≤ x ∧ x < 256 := by
  intro x hx
  simp only [le8, List.mem_map] at hx
  obtain ⟨j, _, rfl⟩ := hx
  omega
set_option maxHeartbeats 8000000 in
set_option maxRecDepth 100000 in
theorem depotref03_Text.calls (a0 : ByteArray) (r : ByteArray) (w : World) (h : depotref03_Text.f a0 = some r) :
    Calls Try.prog 16 #[.string a0] w fun e w' => e = .returned (.string r) ∧ Below w.heap.size w w' := by
  unfold depotref03_Text.f at h
  by_cases hsz : a0.size ≤ 140737488351232
  case neg => rw [if_neg hsz] at h; exact absurd h (by simp)
  rw [if_pos hsz] at h
  have HR := Aside0.mk (Option.some.inj h)
  clear h
  obtain ⟨K, hK⟩ := Pure.refInt (a0.size : Int) (by omega) (by omega)
  have HI := Aside0.mk (hK K (Nat.le_refl _))
  clear hK
  have hwrap : IntKind.u64.wrap (a0.size : Int) = (a0.size : Int) := by
    have : IntKind.u64.wrap (a0.size : Int) = (a0.size : Int) % 18446744073709551616 := rfl
    omega
  go_enter Try.func16, Try.ntmps16
  have hsm : (strOfNums (le8 (a0.size : Int))).size = 8 := rfl
  go_wp2_with (first | (go_at_call 14; refine (depotref03_Int.calls K _ _ _ HI.out).mono ?_; rintro e w1 ⟨rfl, hb1⟩) | ((with_reducible refine gate_dst (N := 9) rfl ?_); refine T_conv (w0 := w) w.heap.size 5 rfl (N := 9) rfl 9 48 _ rfl _ rfl Try.underlying9 Try.underlying48 Try.underlying5 (by rw [hsm]; decide) hb1 hb1.size ?_; intro v3 w2 HO hb2))
  replace HO : OwnT w2 w.heap.size 5 v3 (upTo a0 0) := by
    have e : numsOf (strOfNums (le8 (a0.size : Int))) = upTo a0 0 := by rw [numsOf_str _ (le8_range _)]; simp [upTo]
    rw [e] at HO; exact HO
  have HO := Aside0.mk HO
  have HB := Aside0.mk hb2
  have hN : (a0.size + padOf a0.size) % 8 = 0 ∧ padOf a0.size < 8 := by unfold padOf; omega
  clear hb1 hb2 hwrap hsm
  obtain ⟨N, hNe⟩ : ∃ N, a0.size + padOf a0.size = N := ⟨_, rfl⟩
  go_loopg [3, 4] N (fun g v3 v4 wx => ∃ i : Nat, i + g = N ∧ v4 = .int .i64 (i : Int) ∧ Aside0 (OwnT wx w.heap.size 5 v3 (upTo a0 i)) ∧ Aside0 (Below w.heap.size w wx))
  case atStart => exact ⟨0, by omega, rfl, ⟨HO.out⟩, ⟨HB.out⟩⟩
  case round =>
    obtain ⟨i, hig, rfl, HO, HB⟩ := hrel
    cases gk with
    | zero =>
      obtain rfl : i = N := by omega
      have d1 : decide ((i : Int) < (a0.size : Int)) = false := decide_eq_false (by omega)
      have d2 : (((i : Int) % 8 : Int) != 0) = false := by
        have : (i : Int) % 8 = 0 := by omega
        rw [this]; rfl
      have hcv := OwnT.string (P := Try.prog) Try.underlying48 Try.underlying5 Try.underlying9 HO.out
      go_wp2
      go_ret
      exact ⟨by rw [← HR.out, ← upTo_all, hNe]; rfl, HB.out⟩
    | succ g =>
      by_cases hc : i < a0.size
      · have d1 : decide ((i : Int) < (a0.size : Int)) = true := decide_eq_true (by omega)
        have HU := Aside0.mk (upTo_byte a0 i hc)
        have hlen := upTo_len a0 i (by omega)
        go_wp2_with (first | ((with_reducible refine gate_builtin (b := .append) (xs := #[.tmp 25, .tmp 29]) rfl ?_); at_builtin; refine T_append (w0 := w) w.heap.size 5 rfl (.tmp 25) (.tmp 29) 48 rfl Try.underlying48 info5 _ _ _ rfl _ _ rfl (cell_lit _ _ _) (HO.out.alloc _) (below_alloc HB.out _) (below_alloc HB.out _).size (by omega) ?_; intro v1 w1 HO1 hb1))
        rw [HU.out] at HO1
        go_roundg g
        case measure => omega
        case rel => exact ⟨i + 1, by omega, by go_num, ⟨HO1⟩, ⟨hb1⟩⟩
      · have d1 : decide ((i : Int) < (a0.size : Int)) = false := decide_eq_false (by omega)
        have d2 : (((i : Int) % 8 : Int) != 0) = true := by
          have : (i : Int) % 8 ≠ 0 := by omega
          simpa using this
        have HU := Aside0.mk (upTo_zero a0 i (by omega) (by omega))
        have hlen := upTo_len a0 i (by omega)
        go_wp2_with (first | ((with_reducible refine gate_builtin (b := .append) (xs := #[.tmp 31, .tmp 32]) rfl ?_); at_builtin; refine T_append (w0 := w) w.heap.size 5 rfl (.tmp 31) (.tmp 32) 48 rfl Try.underlying48 info5 _ _ _ rfl _ _ rfl (cell_lit _ _ _) (HO.out.alloc _) (below_alloc HB.out _) (below_alloc HB.out _).size (by omega) ?_; intro v1 w1 HO1 hb1))
        rw [HU.out] at HO1
        go_roundg g
        case measure => omega
        case rel => exact ⟨i + 1, by omega, by go_num, ⟨HO1⟩, ⟨hb1⟩⟩
end Go.Proofs.Ytnilogameaaooaa.Q
/- What a whole text is to the plain reader: item by item. -/
namespace Go.Proofs.Ytnilogameaaooaa.Rdr
open Go.RowKit Go.Proofs.Ytnilogameaaooaa.Q Go.Proofs.Ytnilogameaaooaa.Tail Go.Proofs.YtnilogameaaooaaW.PrintWords Go.Proofs.YtnilogameaaooaaW.PrintLast Go.Proofs.YtnilogameaaooaaW.PrintMore Go.Proofs.Ytnilogameaaooaa.Bytes
set_option linter.unusedVariables false
set_option linter.unusedSimpArgs false

def firstNZ : List Int → Option Nat
  | [] => none
  | c :: l => if c = 0 then (firstNZ l).map (· + 1) else some 0
theorem firstNZ_none : ∀ (l : List Int), firstNZ l = none → l = List.replicate l.length 0
  | [], _ => rfl
  | c :: l, h => by
    simp only [firstNZ] at h
    split at h
    · rename_i hc
      have := firstNZ_none l (by cases hf : firstNZ l with
        | none => rfl
        | some j => rw [hf] at h; cases h)
      rw [hc, List.length_cons, List.replicate_succ, ← this]
    · cases h
theorem firstNZ_some : ∀ (l : List Int) (j : Nat), firstNZ l = some j → ∃ c r, c ≠ 0 ∧ l = List.replicate j 0 ++ c :: r
  | [], j, h => by cases h
  | c :: l, j, h => by
    simp only [firstNZ] at h
    split at h
    · rename_i hc
      cases hf : firstNZ l with
      | none => rw [hf] at h; cases h
      | some i =>
        rw [hf] at h
        injection h with h
        subst h
        obtain ⟨d, r, hd, e⟩ := firstNZ_some l i hf
        exact ⟨d, r, hd, by rw [hc, e, List.replicate_succ, List.cons_append]⟩
    · rename_i hc
      injection h with h
      subst h
      exact ⟨c, l, hc, rfl⟩
theorem val_app : ∀ (xs : List Int) (ys : List Int), val (xs ++ ys) = val xs + 256 ^ xs.length * val ys
  | [], ys => by simp [val]
  | c :: xs, ys => by
    simp only [List.cons_append, val, val_app xs ys, List.length_cons]
    rw [Int.pow_succ, Int.mul_add, Int.add_assoc]
    congr 2
    rw [← Int.mul_assoc, Int.mul_comm 256]
theorem val_nonneg : ∀ (xs : List Int), Byts xs → 0 ≤ val xs
  | [], _ => Int.le_refl _
  | c :: xs, h => by
    have := val_nonneg xs h.cons.2
    have := h.cons.1.1
    simp only [val]; omega
def parse (m : Int) : List UInt8 → List Int → Int → List S55 × Int × Int × Int
  | [], b, t => if b = [] then ([], 0, 0, t) else ([], 5, t, t)
  | c :: l, b, t =>
    if b.length < 8 then ([], 0, 0, t + b.length)
    else if c = 105 then (⟨true, val (b.take 8), ⟨#[]⟩⟩ :: (parse m l (b.drop 8) (t + 8)).1, (parse m l (b.drop 8) (t + 8)).2)
    else if m < val (b.take 8) then ([], 6, t, t + 7)
    else
      match firstNZ (((b.drop 8).drop (val (b.take 8)).toNat).take (padOf (val (b.take 8)).toNat)) with
      | some j => ([], 7, t + 8 + (val (b.take 8)).toNat + j, t + 8 + (val (b.take 8)).toNat + j)
      | none =>
        if (b.drop 8).length < (val (b.take 8)).toNat + padOf (val (b.take 8)).toNat then ([], 0, 0, t + b.length)
        else (⟨false, 0, strOfNums ((b.drop 8).take (val (b.take 8)).toNat)⟩ :: (parse m l ((b.drop 8).drop ((val (b.take 8)).toNat + padOf (val (b.take 8)).toNat)) (t + 8 + (val (b.take 8)).toNat + padOf (val (b.take 8)).toNat)).1, (parse m l ((b.drop 8).drop ((val (b.take 8)).toNat + padOf (val (b.take 8)).toNat)) (t + 8 + (val (b.take 8)).toNat + padOf (val (b.take 8)).toNat)).2)
/-- A reader at the beginning of an item. -/
structure Fresh (p : Ps) : Prop where
  code : p.code = 0
  place : p.place = 0
  shut : p.shut = false
  state : p.state = 0
  need : p.need = 8
  num : p.num = 0
  text : p.text = []
  start : p.start = p.taken
/-- What feed has answered is what was parsed. -/
structure Answers (p : Ps) (r : Ps × List S55) (s : List S55 × Int × Int × Int) : Prop where
  items : r.2 = s.1
  code : r.1.code = s.2.1
  place : r.1.place = s.2.2.1
  taken : r.1.taken = s.2.2.2
  item : r.1.item = p.item + (s.1.length : Int)
  plan : r.1.plan = p.plan
  shut : r.1.shut = false
theorem fresh_next {q : Ps} (h0 : q.code = 0) (h1 : q.place = 0) (h2 : q.shut = false) : Fresh q.next := ⟨h0, h1, h2, rfl, rfl, rfl, rfl, rfl⟩
/-- One item more in front. -/
theorem answers_cons {p q : Ps} {it : S55} {r : Ps × List S55} {s : List S55 × Int × Int × Int} (h : Answers q.next r s) (hi : q.item = p.item) (hp : q.plan = p.plan) :
    Answers p (r.1, (some it).toList ++ r.2) (it :: s.1, s.2) := by
  refine ⟨by rw [h.items]; rfl, h.code, h.place, h.taken, ?_, h.plan.trans hp, h.shut⟩
  have := h.item
  simp only [List.length_cons]
  rw [this]
  show q.item + 1 + (s.1.length : Int) = p.item + ((s.1.length + 1 : Nat) : Int)
  omega
end Go.Proofs.Ytnilogameaaooaa.Rdr
