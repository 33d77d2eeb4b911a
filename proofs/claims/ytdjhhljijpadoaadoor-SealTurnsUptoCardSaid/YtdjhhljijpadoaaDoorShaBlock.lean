/- SHA-256: Block, walked. -/
import Derived.Test.YtdjhhljijpadoaaDoorShaU
import Derived.StillTail
import Derived.StillTailTactics
import Derived.Deep.LoopGhost
import Derived.Laws.Rows
import Derived.WalkLawsBesides
import Derived.RangeFuncBox
import Derived.Recover
import Derived.Defers
namespace Go.Proofs.YtdjhhljijpadoaaDoor.Sha
open Go.RowKit Go.Proofs.YtdjhhljijpadoaaDoorW.PrintWords Go.Proofs.YtdjhhljijpadoaaDoorW.PrintLast Go.Proofs.YtdjhhljijpadoaaDoorW.PrintMore Go.Proofs.YtdjhhljijpadoaaDoor.Bytes
set_option linter.unusedVariables false
set_option linter.unusedSimpArgs false

def wcell (x : B32) : Value := .int .u32 (U x)
def bcell (b : UInt8) : Value := .int .u8 (B b)
def V8.cells (v : V8) : Array Value := #[wcell v.a, wcell v.b, wcell v.c, wcell v.d, wcell v.e, wcell v.f, wcell v.g, wcell v.k]
/-- The two tables lie as the program lays them. -/
structure Glob (W : World) : Prop where
  rounds : ∃ t, W.heap[1]? = some (.cells (K.map wcell).toArray t (0, 0))
  start : ∃ t, W.heap[0]? = some (.cells H0.cells t (0, 0))
theorem Glob.below {W W' : World} {n : Nat} (h : Glob W) (hb : Below n W W') (hn : 2 ≤ n) : Glob W' := ⟨h.rounds.imp fun _ e => (hb.block 1 (by omega)).trans e, h.start.imp fun _ e => (hb.block 0 (by omega)).trans e⟩
theorem Glob.lt {W : World} (h : Glob W) : 2 ≤ W.heap.size := by
  obtain ⟨_, e⟩ := h.rounds
  exact (Array.getElem?_eq_some_iff.1 e).1
theorem below_set {n : Nat} {w W : World} (h : Below n w W) (a : Addr) (v : Value) (ha : n ≤ a.block) : Below n w (W.setCell a v) := h.trans ⟨rfl, rfl, rfl, (KeepsWalks.setCell W _ v).size, fun i hi => Below.heap_setCell _ _ _ i (by omega)⟩
def warr (ws : List B32) : Array Value := (ws.map wcell).toArray
def barr (b : List UInt8) : Array Value := (b.map bcell).toArray
/-- Block's boxes: the words that came in, the bytes, the answer, the schedule. -/
structure Bk (h : Nat) (w W : World) (v : V8) (b : List UInt8) (ws : List B32) : Prop where
  hb : W.heap[h]? = some (.cells v.cells 69 (0, 0))
  bb : W.heap[h + 1]? = some (.cells (barr b) 49 (0, 0))
  rb : W.heap[h + 1 + 1]? = some (.cells (V8.cells ⟨0, 0, 0, 0, 0, 0, 0, 0⟩) 69 (0, 0))
  wb : W.heap[h + 1 + 1 + 1]? = some (.cells (warr ws) 88 (0, 0))
  below : Below h w W
section
variable {h : Nat} {w W W2 : World} {v : V8} {b : List UInt8} {ws : List B32}
theorem Bk.start (w : World) (v : V8) (b : List UInt8) : Bk w.heap.size w ((((w.alloc (.cells v.cells 69)).alloc (.cells (barr b) 49)).alloc (.cells (V8.cells ⟨0, 0, 0, 0, 0, 0, 0, 0⟩) 69)).alloc (.cells (warr (List.replicate 64 0)) 88)) v b (List.replicate 64 0) := by
  have a1 : ∀ (W : World) (o : Obj), (W.alloc o).heap.size = W.heap.size + 1 := fun W o => Array.size_push _
  have a2 : ∀ (W : World) (o : Obj) (k : Nat), k < W.heap.size → (W.alloc o).heap[k]? = W.heap[k]? := fun W o k hk => ((Below.refl W.heap.size W).alloc (Nat.le_refl _) o).block k hk
  have a3 : ∀ (W : World) (o : Obj) (k : Nat), k = W.heap.size → (W.alloc o).heap[k]? = some o := fun W o k hk => by rw [hk]; exact World.alloc_heap_new W o
  refine ⟨?_, ?_, ?_, ?_, ?_⟩
  · rw [a2 _ _ _ (by simp only [a1]; omega), a2 _ _ _ (by simp only [a1]; omega), a2 _ _ _ (by simp only [a1]; omega), a3 _ _ _ rfl]
  · rw [a2 _ _ _ (by simp only [a1]; omega), a2 _ _ _ (by simp only [a1]; omega), a3 _ _ _ (by simp only [a1])]
  · rw [a2 _ _ _ (by simp only [a1]; omega), a3 _ _ _ (by simp only [a1])]
  · rw [a3 _ _ _ (by simp only [a1])]
  · exact ((((Below.refl _ w).alloc (Nat.le_refl _) _).alloc (by simp only [a1]; omega) _).alloc (by simp only [a1]; omega) _).alloc (by simp only [a1]; omega) _
theorem Bk.lt (k : Bk h w W v b ws) : h + 1 + 1 + 1 < W.heap.size := (Array.getElem?_eq_some_iff.1 k.wb).1
theorem Bk.keep (k : Bk h w W v b ws) (hb : Below W.heap.size W W2) : Bk h w W2 v b ws := by
  have z := k.lt
  exact ⟨(hb.block _ (by omega)).trans k.hb, (hb.block _ (by omega)).trans k.bb, (hb.block _ (by omega)).trans k.rb, (hb.block _ (by omega)).trans k.wb, k.below.trans (hb.mono (by omega))⟩
theorem Bk.byte (k : Bk h w W v b ws) (i : Nat) (hi : i < b.length) : W.cell? ⟨h + 1, i, none⟩ = some (.int .u8 (B (b.getD i 0))) := by
  simp [World.cell?, k.bb, barr, List.getElem?_map, List.getElem?_eq_getElem hi, List.getD_eq_getElem?_getD, bcell]
theorem Bk.word (k : Bk h w W v b ws) (i : Nat) (hi : i < ws.length) : W.cell? ⟨h + 1 + 1 + 1, i, none⟩ = some (.int .u32 (U (ws.getD i 0))) := by
  simp [World.cell?, k.wb, warr, List.getElem?_map, List.getElem?_eq_getElem hi, List.getD_eq_getElem?_getD, wcell]
theorem Bk.fro (k : Bk h w W v b ws) (i : Nat) : W.frozen? ⟨h + 1 + 1 + 1, i, none⟩ = false := by simp [World.frozen?, k.wb]
theorem Bk.set (k : Bk h w W v b ws) (i : Nat) (x : B32) : Bk h w (W.setCell ⟨h + 1 + 1 + 1, i, none⟩ (.int .u32 (U x))) v b (ws.set i x) := by
  refine ⟨(Below.heap_setCell _ _ _ _ (by show h ≠ h + 1 + 1 + 1; omega)).trans k.hb, (Below.heap_setCell _ _ _ _ (by show h + 1 ≠ h + 1 + 1 + 1; omega)).trans k.bb, (Below.heap_setCell _ _ _ _ (by show h + 1 + 1 ≠ h + 1 + 1 + 1; omega)).trans k.rb, ?_, ?_⟩
  · have := k.wb
    simp [World.setCell, Array.getElem?_modify, this, warr, List.map_set, wcell]
  · exact k.below.trans ⟨rfl, rfl, rfl, (KeepsWalks.setCell W _ _).size, fun i hi => Below.heap_setCell _ _ _ i (by show i ≠ h + 1 + 1 + 1; omega)⟩
end
/-- The schedule so far, and noughts. -/
def filled (l : List B32) : List B32 := l ++ List.replicate (64 - l.length) 0
theorem filled_len (l : List B32) (hl : l.length ≤ 64) : (filled l).length = 64 := by simp [filled]; omega
theorem filled_get (l : List B32) (i : Nat) (hi : i < l.length) : (filled l).getD i 0 = l.getD i 0 := by simp [filled, List.getD_eq_getElem?_getD, List.getElem?_append_left hi]
theorem filled_set (l : List B32) (x : B32) (hl : l.length < 64) : (filled l).set l.length x = filled (l ++ [x]) := by
  unfold filled
  rw [List.set_append_right _ _ (Nat.le_refl _), Nat.sub_self, List.length_append, List.length_singleton, List.append_assoc]
  obtain ⟨m, hm⟩ : ∃ m, 64 - l.length = m + 1 := ⟨63 - l.length, by omega⟩
  have hm2 : 64 - (l.length + 1) = m := by omega
  rw [hm, hm2, List.replicate_succ, List.set_cons_zero]
  rfl
attribute [local go_sem] U_xor U_and U_or U_add U_add' U_shr3 U_shr8 U_shr10 U_shr16 U_shr24 U_shl8 U_shl16 U_shl24 U_shl8w U_shl16w U_shl24w B_wide B_wide' U_byte U_byte' U_not u32_signed u32_max
set_option maxRecDepth 100000 in
set_option maxHeartbeats 4000000 in
theorem block_calls (v : V8) (b : List UInt8) (hb : b.length = 64) (w : World) (hG : Glob w) : Calls Tryd.prog 42 #[.agg v.cells, .agg (b.map bcell).toArray] w fun e w' => e = .returned (.agg (block v b).cells) ∧ Below w.heap.size w w' := by
  have RT := Aside0.mk (fun (n : Nat) (h0 : 0 < n) (h1 : n < 32) (x : B32) (W : World) => right_calls x n h0 h1 W)
  have R7 : Aside0 (∀ x W, Calls Tryd.prog 53 #[.int .u32 (U x), .int .u64 7] W fun e w' => e = .returned (.int .u32 (U (rotr x 7))) ∧ w' = W) := ⟨RT.out 7 (by decide) (by decide)⟩
  have R18 : Aside0 (∀ x W, Calls Tryd.prog 53 #[.int .u32 (U x), .int .u64 18] W fun e w' => e = .returned (.int .u32 (U (rotr x 18))) ∧ w' = W) := ⟨RT.out 18 (by decide) (by decide)⟩
  have R17 : Aside0 (∀ x W, Calls Tryd.prog 53 #[.int .u32 (U x), .int .u64 17] W fun e w' => e = .returned (.int .u32 (U (rotr x 17))) ∧ w' = W) := ⟨RT.out 17 (by decide) (by decide)⟩
  have R19 : Aside0 (∀ x W, Calls Tryd.prog 53 #[.int .u32 (U x), .int .u64 19] W fun e w' => e = .returned (.int .u32 (U (rotr x 19))) ∧ w' = W) := ⟨RT.out 19 (by decide) (by decide)⟩
  have R6 : Aside0 (∀ x W, Calls Tryd.prog 53 #[.int .u32 (U x), .int .u64 6] W fun e w' => e = .returned (.int .u32 (U (rotr x 6))) ∧ w' = W) := ⟨RT.out 6 (by decide) (by decide)⟩
  have R11 : Aside0 (∀ x W, Calls Tryd.prog 53 #[.int .u32 (U x), .int .u64 11] W fun e w' => e = .returned (.int .u32 (U (rotr x 11))) ∧ w' = W) := ⟨RT.out 11 (by decide) (by decide)⟩
  have R25 : Aside0 (∀ x W, Calls Tryd.prog 53 #[.int .u32 (U x), .int .u64 25] W fun e w' => e = .returned (.int .u32 (U (rotr x 25))) ∧ w' = W) := ⟨RT.out 25 (by decide) (by decide)⟩
  have R2 : Aside0 (∀ x W, Calls Tryd.prog 53 #[.int .u32 (U x), .int .u64 2] W fun e w' => e = .returned (.int .u32 (U (rotr x 2))) ∧ w' = W) := ⟨RT.out 2 (by decide) (by decide)⟩
  have R13 : Aside0 (∀ x W, Calls Tryd.prog 53 #[.int .u32 (U x), .int .u64 13] W fun e w' => e = .returned (.int .u32 (U (rotr x 13))) ∧ w' = W) := ⟨RT.out 13 (by decide) (by decide)⟩
  have R22 : Aside0 (∀ x W, Calls Tryd.prog 53 #[.int .u32 (U x), .int .u64 22] W fun e w' => e = .returned (.int .u32 (U (rotr x 22))) ∧ w' = W) := ⟨RT.out 22 (by decide) (by decide)⟩
  clear RT
  have hu70 := Tryd.underlying69
  have hu53 := Tryd.underlying49
  have hu85 := Tryd.underlying88
  have HK0 := Aside0.mk (Bk.start w v b)
  have HG := Aside0.mk hG
  have HB := Aside0.mk hb
  clear hG hb
  go_enter Tryd.func42, Tryd.ntmps42
  go_wp2
  go_loopg [23] 16 (fun g v23 wx => ∃ i : Nat, i + g = 16 ∧ v23 = .int .i64 (i : Int) ∧ Aside0 (Bk w.heap.size w wx v b (filled (first b i))))
  case atStart => exact ⟨0, by omega, rfl, HK0⟩
  case round =>
    clear HK0
    obtain ⟨i, hig, rfl, HK⟩ := hrel
    cases gk with
    | zero =>
      obtain rfl : i = 16 := by omega
      have HK0 : Aside0 (Bk w.heap.size w wr v b (filled (more b 0))) := by rw [more]; exact HK
      clear HK
      go_wp2
      go_loopg [7] 48 (fun g v7 wx => ∃ j n : Nat, j ≤ 16 + n ∧ 16 + n ≤ j ∧ n + g = 48 ∧ v7 = .int .i64 (j : Int) ∧ Aside0 (Bk w.heap.size w wx v b (filled (more b n))))
      case atStart => exact ⟨16, 0, by omega, by omega, by omega, rfl, HK0⟩
      case round =>
        clear HK0
        obtain ⟨j, n, hj1, hj2, hng, rfl, HK⟩ := hrel
        cases gk with
        | zero =>
          have hn48 : n = 48 := by omega
          have hj64 : j = 64 := by omega
          subst hn48 hj64
          have HK3 : Aside0 (Bk w.heap.size w wr v b (sched b)) := by
            have e : filled (more b 48) = sched b := by
              unfold filled
              rw [more_len, Nat.sub_self]
              show more b 48 ++ [] = _
              rw [List.append_nil, sched]
            rw [← e]; exact HK
          clear HK
          have kh := HK3.out.hb
          have k0 : wr.cell? ⟨w.heap.size, 0, none⟩ = some (.int .u32 (U v.a)) := by simp [World.cell?, kh, V8.cells, wcell]
          have k1_ : wr.cell? ⟨w.heap.size, 1, none⟩ = some (.int .u32 (U v.b)) := by simp [World.cell?, kh, V8.cells, wcell]
          have k2_ : wr.cell? ⟨w.heap.size, 2, none⟩ = some (.int .u32 (U v.c)) := by simp [World.cell?, kh, V8.cells, wcell]
          have k3_ : wr.cell? ⟨w.heap.size, 3, none⟩ = some (.int .u32 (U v.d)) := by simp [World.cell?, kh, V8.cells, wcell]
          have k4_ : wr.cell? ⟨w.heap.size, 4, none⟩ = some (.int .u32 (U v.e)) := by simp [World.cell?, kh, V8.cells, wcell]
          have k5_ : wr.cell? ⟨w.heap.size, 5, none⟩ = some (.int .u32 (U v.f)) := by simp [World.cell?, kh, V8.cells, wcell]
          have k6_ : wr.cell? ⟨w.heap.size, 6, none⟩ = some (.int .u32 (U v.g)) := by simp [World.cell?, kh, V8.cells, wcell]
          have k7_ : wr.cell? ⟨w.heap.size, 7, none⟩ = some (.int .u32 (U v.k)) := by simp [World.cell?, kh, V8.cells, wcell]
          clear kh
          go_wp2
          go_quiet (fail)
          go_wp2
          have HK4 := Aside0.mk (HK3.out.keep (pw_below_drewN (Below.refl _ wr) nq))
          generalize World.drewN wr nq = w4 at HK4 ⊢
          have HG4 := Aside0.mk (HG.out.below HK4.out.below HG.out.lt)
          clear k0 k1_ k2_ k3_ k4_ k5_ k6_ k7_ HK3
          obtain ⟨ws, hws⟩ : ∃ ws, sched b = ws := ⟨_, rfl⟩
          have HWS := Aside0.mk hws
          have HWL := Aside0.mk (show ws.length = 64 from by rw [← hws]; exact sched_len b)
          rw [hws] at HK4
          clear hws
          go_loopg [10, 11, 12, 13, 14, 15, 16, 17, 127] 64 (fun g v10 v11 v12 v13 v14 v15 v16 v17 v127 wx => ∃ (i : Nat) (xa xb xc xd xe xf xg xk : B32), i + g = 64 ∧ v127 = .int .i64 (i : Int) ∧ v10 = .int .u32 (U xa) ∧ v11 = .int .u32 (U xb) ∧ v12 = .int .u32 (U xc) ∧ v13 = .int .u32 (U xd) ∧ v14 = .int .u32 (U xe) ∧ v15 = .int .u32 (U xf) ∧ v16 = .int .u32 (U xg) ∧ v17 = .int .u32 (U xk) ∧ Aside0 (rounds ws v i = ⟨xa, xb, xc, xd, xe, xf, xg, xk⟩) ∧ Aside0 (Bk w.heap.size w wx v b ws) ∧ Aside0 (Glob wx))
          case atStart => exact ⟨0, v.a, v.b, v.c, v.d, v.e, v.f, v.g, v.k, by omega, rfl, rfl, rfl, rfl, rfl, rfl, rfl, rfl, rfl, ⟨rfl⟩, HK4, HG4⟩
          case round =>
            clear HK4 HG4
            obtain ⟨i, xa, xb, xc, xd, xe, xf, xg, xk, hig, rfl, rfl, rfl, rfl, rfl, rfl, rfl, rfl, rfl, HX, HK, HGW⟩ := hrel
            cases gk with
            | zero =>
              have hi64 : i = 64 := by omega
              subst hi64
              have kh := HK.out.hb
              have k0 : wr.cell? ⟨w.heap.size, 0, none⟩ = some (.int .u32 (U v.a)) := by simp [World.cell?, kh, V8.cells, wcell]
              have k1_ : wr.cell? ⟨w.heap.size, 1, none⟩ = some (.int .u32 (U v.b)) := by simp [World.cell?, kh, V8.cells, wcell]
              have k2_ : wr.cell? ⟨w.heap.size, 2, none⟩ = some (.int .u32 (U v.c)) := by simp [World.cell?, kh, V8.cells, wcell]
              have k3_ : wr.cell? ⟨w.heap.size, 3, none⟩ = some (.int .u32 (U v.d)) := by simp [World.cell?, kh, V8.cells, wcell]
              have k4_ : wr.cell? ⟨w.heap.size, 4, none⟩ = some (.int .u32 (U v.e)) := by simp [World.cell?, kh, V8.cells, wcell]
              have k5_ : wr.cell? ⟨w.heap.size, 5, none⟩ = some (.int .u32 (U v.f)) := by simp [World.cell?, kh, V8.cells, wcell]
              have k6_ : wr.cell? ⟨w.heap.size, 6, none⟩ = some (.int .u32 (U v.g)) := by simp [World.cell?, kh, V8.cells, wcell]
              have k7_ : wr.cell? ⟨w.heap.size, 7, none⟩ = some (.int .u32 (U v.k)) := by simp [World.cell?, kh, V8.cells, wcell]
              have kr := HK.out.rb
              have HR8 := Aside0.mk kr
              have r_ : ∀ i, i < 8 → wr.cell? ⟨w.heap.size + 1 + 1, i, none⟩ = some (.int .u32 (U 0)) := fun i hi => by
                match i, hi with
                | 0, _ => simp [World.cell?, kr, V8.cells, wcell]
                | 1, _ => simp [World.cell?, kr, V8.cells, wcell]
                | 2, _ => simp [World.cell?, kr, V8.cells, wcell]
                | 3, _ => simp [World.cell?, kr, V8.cells, wcell]
                | 4, _ => simp [World.cell?, kr, V8.cells, wcell]
                | 5, _ => simp [World.cell?, kr, V8.cells, wcell]
                | 6, _ => simp [World.cell?, kr, V8.cells, wcell]
                | 7, _ => simp [World.cell?, kr, V8.cells, wcell]
              have rf : ∀ i, wr.frozen? ⟨w.heap.size + 1 + 1, i, none⟩ = false := fun i => by simp [World.frozen?, kr]
              have q0 := r_ 0 (by decide)
              have q1 := r_ 1 (by decide)
              have q2 := r_ 2 (by decide)
              have q3 := r_ 3 (by decide)
              have q4 := r_ 4 (by decide)
              have q5 := r_ 5 (by decide)
              have q6 := r_ 6 (by decide)
              have q7 := r_ 7 (by decide)
              clear kh kr r_
              have HBK := Aside0.mk (show block v b = ⟨v.a + xa, v.b + xb, v.c + xc, v.d + xd, v.e + xe, v.f + xf, v.g + xg, v.k + xk⟩ from by
                unfold block
                rw [HWS.out, HX.out]
                rfl)
              have HBW := Aside0.mk HK.out.below
              clear HX HWS
              go_wp2
              refine bodyPost_ret (v := .agg (block v b).cells) (results_cell_row rfl _ _ (w.heap.size + 1 + 1) 69 (block v b).cells (0, 0) _ rfl ?_ Tryd.underlying69 rfl (by kernel_rfl)) rfl ⟨rfl, ?_⟩
              · rw [HBK.out]
                simp [World.setCell, Array.getElem?_modify, HR8.out, V8.cells, wcell]
              · exact below_set (below_set (below_set (below_set (below_set (below_set (below_set (below_set HBW.out _ _ (by simp; omega)) _ _ (by simp; omega)) _ _ (by simp; omega)) _ _ (by simp; omega)) _ _ (by simp; omega)) _ _ (by simp; omega)) _ _ (by simp; omega)) _ _ (by simp; omega)
            | succ k1 =>
              have d1 : decide ((i : Int) < 64) = true := decide_eq_true (by omega)
              have p9 : (0 ≤ (i : Int)) = True := eq_true (by omega)
              have q9 : ((i : Int) < 64) = True := eq_true (by omega)
              have hi : i < 64 := by omega
              obtain ⟨ci, hci⟩ : ∃ x, K.getD i 0 = x := ⟨_, rfl⟩
              obtain ⟨wi, hwi⟩ : ∃ x, ws.getD i 0 = x := ⟨_, rfl⟩
              have HCI := Aside0.mk hci
              have HWI := Aside0.mk hwi
              have g1 : wr.cell? ⟨1, i, none⟩ = some (.int .u32 (U ci)) := by
                have hK : i < K.length := hi
                rw [← hci]
                obtain ⟨_, hgr⟩ := HGW.out.rounds
                simp only [World.cell?, hgr]
                simp [List.getElem?_map, List.getElem?_eq_getElem hK, List.getD_eq_getElem?_getD, wcell]
              have g2 := HK.out.word i (by rw [HWL.out]; exact hi)
              rw [hwi] at g2
              clear hci hwi hi
              go_wp2_with (first | (go_at_call 53; ((with_reducible refine (R6.out _ _).mono ?_)); rintro e w2 ⟨rfl, rfl⟩) | (go_at_call 53; ((with_reducible refine (R11.out _ _).mono ?_)); rintro e w2 ⟨rfl, rfl⟩) | (go_at_call 53; ((with_reducible refine (R25.out _ _).mono ?_)); rintro e w2 ⟨rfl, rfl⟩))
              go_quiet (fail)
              go_wp2_with (first | (go_at_call 53; ((with_reducible refine (R2.out _ _).mono ?_)); rintro e w2 ⟨rfl, rfl⟩) | (go_at_call 53; ((with_reducible refine (R13.out _ _).mono ?_)); rintro e w2 ⟨rfl, rfl⟩) | (go_at_call 53; ((with_reducible refine (R22.out _ _).mono ?_)); rintro e w2 ⟨rfl, rfl⟩))
              go_roundg k1
              case measure => omega
              case rel =>
                refine ⟨i + 1, _, _, _, _, _, _, _, _, by omega, by go_num, rfl, rfl, rfl, rfl, rfl, rfl, rfl, rfl, ⟨?_⟩, ⟨HK.out.keep (pw_below_drewN (Below.refl _ _) _)⟩, ⟨HGW.out.below (pw_below_drewN (Below.refl _ _) _) HGW.out.lt⟩⟩
                rw [rounds, HX.out, HCI.out, HWI.out]
                rfl
        | succ k1 =>
          have d1 : decide ((j : Int) < 64) = true := decide_eq_true (by omega)
          have e15 : ((j : Int) - 15).toNat = j - 15 := by omega
          have e2 : ((j : Int) - 2).toNat = j - 2 := by omega
          have e16 : ((j : Int) - 16).toNat = j - 16 := by omega
          have e7 : ((j : Int) - 7).toNat = j - 7 := by omega
          have a15 : (0 ≤ (j : Int) - 15) = True := eq_true (by omega)
          have a2 : (0 ≤ (j : Int) - 2) = True := eq_true (by omega)
          have a16 : (0 ≤ (j : Int) - 16) = True := eq_true (by omega)
          have a7 : (0 ≤ (j : Int) - 7) = True := eq_true (by omega)
          have s15 : (15 ≤ (j : Int)) = True := eq_true (by omega)
          have s2 : (2 ≤ (j : Int)) = True := eq_true (by omega)
          have s16 : (16 ≤ (j : Int)) = True := eq_true (by omega)
          have s7 : (7 ≤ (j : Int)) = True := eq_true (by omega)
          have b15 : ((j : Int) - 15 < 64) = True := eq_true (by omega)
          have b2 : ((j : Int) - 2 < 64) = True := eq_true (by omega)
          have b16 : ((j : Int) - 16 < 64) = True := eq_true (by omega)
          have b7 : ((j : Int) - 7 < 64) = True := eq_true (by omega)
          have p9 : (0 ≤ (j : Int)) = True := eq_true (by omega)
          have q9 : ((j : Int) < 64) = True := eq_true (by omega)
          obtain ⟨l, hl⟩ : ∃ l, more b n = l := ⟨_, rfl⟩
          have hll : l.length = 16 + n := by rw [← hl]; exact more_len b n
          rw [hl] at HK
          obtain ⟨x15, hx15⟩ : ∃ x, l.getD (j - 15) 0 = x := ⟨_, rfl⟩
          obtain ⟨x2, hx2⟩ : ∃ x, l.getD (j - 2) 0 = x := ⟨_, rfl⟩
          obtain ⟨x16, hx16⟩ : ∃ x, l.getD (j - 16) 0 = x := ⟨_, rfl⟩
          obtain ⟨x7, hx7⟩ : ∃ x, l.getD (j - 7) 0 = x := ⟨_, rfl⟩
          have hlj : l.length = j := by omega
          have HN := Aside0.mk (show filled (more b (n + 1)) = (filled l).set j (x16 + (rotr x15 7 ^^^ rotr x15 18 ^^^ x15 >>> 3) + x7 + (rotr x2 17 ^^^ rotr x2 19 ^^^ x2 >>> 10)) from by
            have := filled_set l (x16 + (rotr x15 7 ^^^ rotr x15 18 ^^^ x15 >>> 3) + x7 + (rotr x2 17 ^^^ rotr x2 19 ^^^ x2 >>> 10)) (by omega)
            rw [hlj] at this
            rw [this, more, hl]
            unfold next
            rw [hlj, hx15, hx2, hx16, hx7])
          have KW := Aside0.mk (show ∀ W, Bk w.heap.size w W v b (filled l) → (W.cell? ⟨w.heap.size + 1 + 1 + 1, j - 15, none⟩ = some (.int .u32 (U x15)) ∧ W.cell? ⟨w.heap.size + 1 + 1 + 1, j - 2, none⟩ = some (.int .u32 (U x2))) ∧ (W.cell? ⟨w.heap.size + 1 + 1 + 1, j - 16, none⟩ = some (.int .u32 (U x16)) ∧ W.cell? ⟨w.heap.size + 1 + 1 + 1, j - 7, none⟩ = some (.int .u32 (U x7))) from fun W hk => by
            have fl := filled_len l (by omega)
            have c15 := hk.word (j - 15) (by omega)
            have c2 := hk.word (j - 2) (by omega)
            have c16 := hk.word (j - 16) (by omega)
            have c7 := hk.word (j - 7) (by omega)
            rw [filled_get l _ (by omega)] at c15 c2 c16 c7
            rw [hx15] at c15
            rw [hx2] at c2
            rw [hx16] at c16
            rw [hx7] at c7
            exact ⟨⟨c15, c2⟩, c16, c7⟩)
          have HLJ := Aside0.mk hlj
          clear hx15 hx2 hx16 hx7 hl hll hlj
          obtain ⟨⟨c15, c2⟩, _, _⟩ := KW.out _ HK.out
          have wr_ : ∀ x : Int, 0 ≤ x → x < 1000 → IntKind.i64.wrap x = x := fun x h0 h1 => by rw [IntKind.wrap_i64]; omega
          have m15 := wr_ ((j : Int) - 15) (by omega) (by omega)
          have m2 := wr_ ((j : Int) - 2) (by omega) (by omega)
          have m16 := wr_ ((j : Int) - 16) (by omega) (by omega)
          have m7 := wr_ ((j : Int) - 7) (by omega) (by omega)
          clear wr_
          go_wp2
          go_quiet (first | (go_at_call 53; ((with_reducible refine (R7.out _ _).mono ?_)); rintro e w2 ⟨rfl, hw⟩; exact ⟨rfl, _, hw⟩) | (go_at_call 53; ((with_reducible refine (R18.out _ _).mono ?_)); rintro e w2 ⟨rfl, hw⟩; exact ⟨rfl, _, hw⟩))
          go_wp2
          go_quiet (first | (go_at_call 53; ((with_reducible refine (R17.out _ _).mono ?_)); rintro e w2 ⟨rfl, hw⟩; exact ⟨rfl, _, hw⟩) | (go_at_call 53; ((with_reducible refine (R19.out _ _).mono ?_)); rintro e w2 ⟨rfl, hw⟩; exact ⟨rfl, _, hw⟩))
          go_wp2
          generalize hW5 : World.drewN (World.drewN wr _) _ = w5
          have HK5 : Aside0 (Bk w.heap.size w w5 v b (filled l)) := ⟨by rw [← hW5]; exact HK.out.keep (pw_below_drewN (pw_below_drewN (Below.refl _ _) _) _)⟩
          clear hW5 c15 c2 HK
          refine wp_region_still_tail 15 (by kernel_rfl) (by kernel_rfl) ?_
          change wpStill _ _ (World.drew w5) (fun a' => wpList _ _ _ _ a' (World.drew w5)) _ _
          have HK6 := Aside0.mk (HK5.out.keep (below_drew (Below.refl _ w5)))
          generalize World.drew w5 = w6 at HK6 ⊢
          obtain ⟨⟨_, _⟩, c16, c7⟩ := KW.out _ HK6.out
          have hj64 : j < 64 := by omega
          have y4 := HK6.out.word j (by rw [filled_len _ (by rw [HLJ.out]; omega)]; exact hj64)
          have y5 := HK6.out.fro j
          clear hj64
          simp only [List.take_succ_cons, List.take_zero, List.drop_succ_cons, List.drop_zero]
          repeat still_step
          refine wpStill_nil ?_
          change wpList _ _ _ _ _ w6
          go_wp2
          clear m15 m2 m16 m7
          go_roundg k1
          case measure => omega
          case rel =>
            refine ⟨j + 1, n + 1, by omega, by omega, by omega, by go_num, ⟨?_⟩⟩
            rw [HN.out]
            exact HK6.out.set j _
    | succ k1 =>
      have hi : i < 16 := by omega
      have d1 : decide ((i : Int) < 16) = true := decide_eq_true (by omega)
      have e0 : (4 * (i : Int)).toNat = 4 * i := by omega
      have e1 : (4 * (i : Int) + 1).toNat = 4 * i + 1 := by omega
      have e2 : (4 * (i : Int) + 2).toNat = 4 * i + 2 := by omega
      have e3 : (4 * (i : Int) + 3).toNat = 4 * i + 3 := by omega
      have p0 : (0 ≤ 4 * (i : Int)) = True := eq_true (by omega)
      have p1 : (0 ≤ 4 * (i : Int) + 1) = True := eq_true (by omega)
      have p2 : (0 ≤ 4 * (i : Int) + 2) = True := eq_true (by omega)
      have p3 : (0 ≤ 4 * (i : Int) + 3) = True := eq_true (by omega)
      have q0 : (4 * (i : Int) < 64) = True := eq_true (by omega)
      have q1 : (4 * (i : Int) + 1 < 64) = True := eq_true (by omega)
      have q2 : (4 * (i : Int) + 2 < 64) = True := eq_true (by omega)
      have q3 : (4 * (i : Int) + 3 < 64) = True := eq_true (by omega)
      have p9 : (0 ≤ (i : Int)) = True := eq_true (by omega)
      have q9 : ((i : Int) < 64) = True := eq_true (by omega)
      have wr_ : ∀ x : Int, 0 ≤ x → x < 1000 → IntKind.i64.wrap x = x := fun x h0 h1 => by rw [IntKind.wrap_i64]; omega
      have m0 := wr_ (4 * (i : Int)) (by omega) (by omega)
      have m1 := wr_ (4 * (i : Int) + 1) (by omega) (by omega)
      have m2 := wr_ (4 * (i : Int) + 2) (by omega) (by omega)
      have m3 := wr_ (4 * (i : Int) + 3) (by omega) (by omega)
      clear wr_
      go_wp2
      refine wp_region_still_tail 31 (by kernel_rfl) (by kernel_rfl) ?_
      change wpStill _ _ (World.drew wr) (fun a' => wpList _ _ _ _ a' (World.drew wr)) _ _
      have HK2 := Aside0.mk (HK.out.keep (below_drew (Below.refl _ wr)))
      generalize World.drew wr = w2 at HK2 ⊢
      have y0 := HK2.out.byte (4 * i) (by rw [HB.out]; omega)
      have y1 := HK2.out.byte (4 * i + 1) (by rw [HB.out]; omega)
      have y2 := HK2.out.byte (4 * i + 2) (by rw [HB.out]; omega)
      have y3 := HK2.out.byte (4 * i + 3) (by rw [HB.out]; omega)
      obtain ⟨x0, hx0⟩ : ∃ x, b.getD (4 * i) 0 = x := ⟨_, rfl⟩
      obtain ⟨x1, hx1⟩ : ∃ x, b.getD (4 * i + 1) 0 = x := ⟨_, rfl⟩
      obtain ⟨x2, hx2⟩ : ∃ x, b.getD (4 * i + 2) 0 = x := ⟨_, rfl⟩
      obtain ⟨x3, hx3⟩ : ∃ x, b.getD (4 * i + 3) 0 = x := ⟨_, rfl⟩
      have HWD := Aside0.mk (show wordAt b i = be x0 x1 x2 x3 from by unfold wordAt; rw [hx0, hx1, hx2, hx3])
      rw [hx0] at y0
      rw [hx1] at y1
      rw [hx2] at y2
      rw [hx3] at y3
      have hfl := first_len b i
      have y4 := HK2.out.word i (by rw [filled_len _ (by omega)]; omega)
      have y5 := HK2.out.fro i
      have HS := Aside0.mk (show (filled (first b i)).set i (be x0 x1 x2 x3) = filled (first b (i + 1)) from by
        have := filled_set (first b i) (be x0 x1 x2 x3) (by omega)
        rw [hfl] at this
        rw [this, first, HWD.out])
      clear hx0 hx1 hx2 hx3 hfl
      simp only [List.take_succ_cons, List.take_zero, List.drop_succ_cons, List.drop_zero]
      repeat still_step
      refine wpStill_nil ?_
      change wpList _ _ _ _ _ w2
      go_wp2
      clear m0 m1 m2 m3
      go_roundg k1
      case measure => omega
      case rel =>
        refine ⟨i + 1, by omega, by go_num, ⟨?_⟩⟩
        rw [← HS.out]
        exact HK2.out.set i (be x0 x1 x2 x3)
end Go.Proofs.YtdjhhljijpadoaaDoor.Sha
