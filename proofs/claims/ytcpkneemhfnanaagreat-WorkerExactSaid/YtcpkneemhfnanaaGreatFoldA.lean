/- What the keys of a map, gathered into a slice, are. Conditions: none. -/
import Derived.Test.YtcpkneemhfnanaaGreatProg
import Derived.Test.YtcpkneemhfnanaaGreatSortE_U
import Derived.Test.YtcpkneemhfnanaaGreatSxZ
import Derived.Test.YtcpkneemhfnanaaGreatAgg
import Derived.Test.YtcpkneemhfnanaaGreatOps
namespace Go.Proofs.YtcpkneemhfnanaaGreat
open Go.Sx
set_option maxRecDepth 100000
set_option linter.unusedVariables false
set_option linter.unusedSimpArgs false
def sx115 (m : Nat) (R : Ending → World → Prop) (w : World) : Prop :=
 ∀ b1 w2, Ag w w2 b1 (.cells [.map (some m)].toArray 150) → R (.returned (.func (.func 136) #[] #[.pointer (some ⟨b1, 0, none⟩)])) w2
theorem sx115.ok {m : Nat} {R : Ending → World → Prop} {w : World} (h : sx115 m R w) : Aa Tryz.prog 115 [.map (some m)] w R :=
 okOf {} mix Tryz.func115 (by kernel_rfl) (by kernel_rfl) (by kernel_rfl) h
def sx134 (seq : Nat) (seq_c : List Value) (R : Ending → World → Prop) (w : World) : Prop :=
 Aa Tryz.prog 170 [.slice none 0 0, .func (.func seq) #[] seq_c.toArray] w (RetR R fun u2 w1 => ∃ a3 l3 c3, u2 = .slice a3 l3 c3 ∧ R (.returned (.slice a3 l3 c3)) w1)
theorem sx134.ok {seq : Nat} {seq_c : List Value} {R : Ending → World → Prop} {w : World} (h : sx134 seq seq_c R w) : Aa Tryz.prog 134 [.func (.func seq) #[] seq_c.toArray] w R :=
 okOf {} mix Tryz.func134 (by kernel_rfl) (by kernel_rfl) (by kernel_rfl) h
def sx114 (seq : Nat) (seq_c : List Value) (R : Ending → World → Prop) (w : World) : Prop :=
 Aa Tryz.prog 134 [.func (.func seq) #[] seq_c.toArray] w (RetR R fun u2 w1 => ∃ a3 l3 c3, u2 = .slice a3 l3 c3 ∧ Aa Tryz.prog 135 [.slice a3 l3 c3] w1 (RetR R fun u6 w5 => u6 = .tuple #[] ∧ R (.returned (.slice a3 l3 c3)) w5))
theorem sx114.ok {seq : Nat} {seq_c : List Value} {R : Ending → World → Prop} {w : World} (h : sx114 seq seq_c R w) : Aa Tryz.prog 114 [.func (.func seq) #[] seq_c.toArray] w R :=
 okOf {} mix Tryz.func114 (by kernel_rfl) (by kernel_rfl) (by kernel_rfl) h
open Go.Maps (Keyed)
open Go.RowKit Go.Maps Go.Sort
theorem ue_F : Tryz.prog.underlying 40 = some (.int .u64) := by kernel_rfl
theorem us_F : Tryz.prog.underlying 45 = some (.slice 40) := by kernel_rfl
theorem um_F : Tryz.prog.underlying 150 = some (.map 40 81) := by kernel_rfl
set_option maxRecDepth 100000 in
set_option maxHeartbeats 1000000 in
theorem Ado (n : Nat) (hn : 1 ≤ n) (l Bm b nn : Nat) (D0 : DataW Unit) (ks : List Int) (hks : ks.Nodup) (hhas : ∀ x, Maps.has D0 (.int .u64 x) = true ↔ x ∈ ks) (J : List Int → World → Prop)
  (hY : ∀ pre x W, J pre W → pre.length < Maps.size D0 → YieldAt Fence.wide (n - 1) Tryz.prog l #[.int .u64 x] W fun e W' => e = .returned (.bool true) ∧ J (pre ++ [x]) W' ∧ KeepsWalks W W')
  (W : World) (hJ : AbidesFrom W.heap.size J) (hm : W.cell? ⟨Bm, 0, none⟩ = some (.map (some b))) (hown : W.ownsMap Tryz.prog 40 Fv b nn D0) (h0 : J [] W) :
  CallsIn Fence.wide n Tryz.prog 136 #[.func (.yield l) #[] #[], .pointer (some ⟨Bm, 0, none⟩)] W fun e W' => (∃ v, e = .returned v) ∧ ∃ ss : List Int, ss.Perm ks ∧ J ss W' := by
 have hf : Fence.wide.fn 136 := trivial
 refine callsIn_of_wp Tryz.func136 rfl hf ?_ rfl
 simp only [Tryz.ntmps136, List.size_toArray, List.length_cons, List.length_nil, Nat.reduceAdd, Nat.reduceSub, Array.replicate_succ, Array.replicate_zero, List.push_toArray, List.append_toArray, List.nil_append, List.cons_append]
 gi_wp2_with (first
  | (gi_at_range; refine wpListIn_range_own _ rfl _ 150 rfl 40 81 (int_keyed ue_F) um_F _ b nn _ rfl hown ?_; intro w0 hrg0 hg0 hs0)
  | gi_in)
 go_frame
 gi_loopw [3] (fun _ wr => ∃ (left : Lit → Bool) (cnt : Nat) (ss : List Int), wr.ranges Tryz.prog 40 Fv b W.heap.size nn D0 left cnt ∧ ss.length + cnt ≤ Maps.size D0 ∧ Coll .u64 ks left ss ∧ J ss wr)
  (fun _ wr => wr.rangeLeft b W.heap.size)
 case atStart =>
  exact ⟨_, _, [], hrg0, by simp, Coll.start hhas, hJ [] W w0 none h0 hg0 (fun r e => by cases e)⟩
 case round =>
  obtain ⟨left, cnt, ss, hrg, hcs, hC, hJs⟩ := hrel
  gi_wp2_with (first
   | (gi_at_next; refine wpListIn_next_ranges _ rfl _ rfl 40 (int_keyed ue_F) Fv (Value.int .u64) id (fun key kl hk => by obtain ⟨x, hx, _⟩ := Nt ue_F hk; exact ⟨x, hx⟩) (fun v _ _ => ⟨v, rfl⟩) b W.heap.size nn _ _ _ rfl hrg ?_ ?_)
   | gi_in)
  ·intro hc0 hl0
   gi_wp2
   go_end0
   exact ⟨⟨_, rfl⟩, ss, hC.perm hks hl0, hJs⟩
  ·intro x c kl yd yp w2 cnt2 hkey hlk hv hat hrg2 hlt hg2 hs2 hen
   obtain ⟨x', ex, rfl⟩ := Nt ue_F hkey
   obtain rfl : x = x' := by simpa using ex
   have hxk : x ∈ ks := (hhas x).1 (has_true_of_atKey hat)
   have hJ2 : J ss w2 := hJ ss wr w2 (some W.heap.size) hJs hg2 (fun r e => by cases e; exact ⟨Nat.le_refl _, hrg.iter_walk⟩)
   obtain ⟨fn, tmps, assign, body, hy, hR⟩ := hY ss x w2 hJ2 (by omega)
   clear hs2
   gi_wp2
   refine hR.mono ?_
   rintro e W3 ⟨rfl, hJ3, hk3⟩
   gi_wp2
   have hrg3 := hrg2.of_walks hk3
   go_roundw
   case rel => exact ⟨_, cnt2, ss ++ [x], hrg3, by simp; omega, hC.step hlk hxk, hJ3⟩
   case measure => rw [hrg3.left_eq, hrg.left_eq]; exact hlt
theorem Afa (n : Nat) (hn : 1 ≤ n) (Bm b nn : Nat) (D0 : DataW Unit) (ks : List Int) (hks : ks.Nodup) (hhas : ∀ x, Maps.has D0 (.int .u64 x) = true ↔ x ∈ ks) (w : World) (hBm : Bm < w.heap.size)
  (hm : w.cell? ⟨Bm, 0, none⟩ = some (.map (some b))) (hown : w.ownsMap Tryz.prog 40 Fv b nn D0) :
  SeqGives Fence.wide n Tryz.prog 136 #[.pointer (some ⟨Bm, 0, none⟩)] (Value.int .u64) (fun ss => ss.Perm ks) (Maps.size D0) w := fun l J W hW hJ hY h0 => by
 have hown' : W.ownsMap Tryz.prog 40 Fv b nn D0 := by
  have hbl := hown.lt
  obtain ⟨es, clock, hb, Ft, hs, hD⟩ := hown
  exact ⟨es, clock, (hW.block b hbl).trans hb, Ft, hs, hD⟩
 exact Ado n hn l Bm b nn D0 ks hks hhas J hY W hJ ((hW.cell (p := ⟨Bm, 0, none⟩) hBm).trans hm) hown' h0
def Ks : Code := (Code.region 2 #[{ dst := some 5, op := Op.assign (Operand.tmp 7), type := 40, pos := "iter.go:51", after := #[], guard := none }] false)
def Pd : Code := (Code.block 1 (Code.region 3 #[{ dst := some 8, op := Op.load 45 (Operand.tmp 2), type := 45, pos := "iter.go:52", after := #[], guard := none }, { dst := some 9, op := Op.move (Operand.tmp 5), type := 40, pos := "iter.go:52", after := #[], guard := none }, { dst := some 10, op := Op.buildSlice 45 1 #[(0, Operand.tmp 9)], type := 45, pos := "iter.go:52", after := #[{ on := 1, ground := Ground.data }], guard := none }, { dst := some 11, op := Op.call { callee := Callee.builtin Builtin.append, args := #[Operand.tmp 8, Operand.tmp 10], argTypes := #[45, 45] }, type := 45, pos := "iter.go:52", after := #[{ on := 0, ground := Ground.data }, { on := 2, ground := Ground.data }], guard := none }, { dst := none, op := Op.store 45 (Operand.tmp 2) (Operand.tmp 11), type := 0, pos := "iter.go:52", after := #[{ on := 3, ground := Ground.data }, { on := 3, ground := Ground.chain }, { on := 0, ground := Ground.phase }, { on := 1, ground := Ground.phase }, { on := 2, ground := Ground.phase }, { on := 3, ground := Ground.phase }], guard := none }] false))
def Ev (fn : FuncId) (sv : Value) (Bs D : Nat) (st : LoopState) (pend : Option Code) : Loop :=
 { state := st, pending := pend, fn, tmps := #[.slice none 0 0, sv, .pointer (some ⟨Bs, 0, none⟩), undef, .slice none 0 0, undef, sv, undef, undef, undef, undef, undef, undef], params := #[7], assign := Ks, body := Pd, defers := D }
structure Pe (w0 : World) (fn : FuncId) (sv : Value) (Bs l D : Nat) (ss : List Int) (W : World) : Prop where
 box : ∃ v, W.heap[Bs]? = some (.cells #[v] 45 (0, 0)) ∧ W.ownsRow w0.heap.size 40 1 v ss.length (ss.map (Value.int .u64))
 L : W.heap[l]? = some (.loop (Ev fn sv Bs D .ready none))
 K : W.heap[D]? = some (.deferred (some []))
 below : Below w0.heap.size w0 W
theorem Vf (w0 : World) (fn : FuncId) (sv : Value) (Bs l D B : Nat) (hB : w0.heap.size ≤ B) : AbidesFrom B (Pe w0 fn sv Bs l D) := fun s W W' row h hg hrow => by
 have hrow' : ∀ r, row = some r → ∃ o : Obj, W.heap[r]? = some o ∧ o.isWalk = true := fun r e => (hrow r e).2
 obtain ⟨v, hv, hr⟩ := h.box
 exact ⟨⟨v, (grownBy_keeps hg hrow' hv rfl).trans hv, Pb hr hg hrow'⟩, (grownBy_keeps hg hrow' h.L rfl).trans h.L, (grownBy_keeps hg hrow' h.K rfl).trans h.K,
  h.below.grown hg h.below.size (fun k e => Nat.le_trans hB (hrow k e).1)⟩
set_option maxRecDepth 100000 in
set_option maxHeartbeats 2000000 in
theorem X8 (m : Nat) (w0 : World) (fn : FuncId) (sv : Value) (Bs l D : Nat) (hBl : Bs ≠ l) (hDl : D ≠ l) (hDB : D ≠ Bs) (h0B : w0.heap.size ≤ Bs) (h0l : w0.heap.size ≤ l)
    (N : Nat) (hN : N ≤ maxLen) (hNb : N * 8 ≤ 140737488355328) (ss : List Int) (x : Int) (W : World) (h : Pe w0 fn sv Bs l D ss W) (hlen : ss.length < N) :
    YieldAt Fence.wide m Tryz.prog l #[.int .u64 x] W fun e W' => e = .returned (.bool true) ∧ Pe w0 fn sv Bs l D (ss ++ [x]) W' ∧ KeepsWalks W W' := by
  have hne : (45 : Nat) ≠ 40 := by decide
  obtain ⟨i0, hi, hz0, hz1, hz2⟩ := info_parts (show (Tryz.prog.info? 40).map (fun i => (i.zero, i.size, i.bytes)) = some (some (.int .u64 0), 1, 8) by kernel_rfl)
  obtain ⟨v, hv, hrow⟩ := h.box
  refine ⟨fn, #[.slice none 0 0, sv, .pointer (some ⟨Bs, 0, none⟩), undef, .slice none 0 0, undef, sv, .int .u64 x, undef, undef, undef, undef, undef], Ks, Pd, by simpa [Ev] using run_yield (P := Tryz.prog) (args := #[.int .u64 x]) h.L rfl, roundIn_of_wpIn trivial ?_⟩
  have hl : l < W.heap.size := (Array.getElem?_eq_some_iff.1 h.L).1
  have hbr := run_beginRound (P := Tryz.prog) h.L rfl
  obtain ⟨W2, hW2⟩ : ∃ W2, W.putObj l (.loop { Ev fn sv Bs D .ready none with state := .busy }) = W2 := ⟨_, rfl⟩
  rw [hW2] at hbr
  have hg2 : W.grownBy W2 (some l) := by rw [← hW2]; exact Cq _ _ _
  have hk2 : KeepsWalks W W2 := by rw [← hW2]; exact KeepsWalks.putObj _ h.L rfl
  have hv2 : W2.heap[Bs]? = some (.cells #[v] 45 (0, 0)) := by rw [← hW2]; exact (World.putObj_heap_other hBl).trans hv
  have hK2 : W2.heap[D]? = some (.deferred (some [])) := by rw [← hW2]; exact (World.putObj_heap_other hDl).trans h.K
  have hL2 : W2.heap[l]? = some (.loop { Ev fn sv Bs D .ready none with state := .busy }) := by rw [← hW2]; exact World.putObj_heap_same hl
  have hrow2 : W2.ownsRow w0.heap.size 40 1 v ss.length (ss.map (Value.int .u64)) := hrow.kept hg2 (Cr hrow h.L (fun cur e => by first | cases e | exact hne (Obj.cells.inj e).2.1))
  have hb2 : Below w0.heap.size w0 W2 := h.below.grown hg2 h.below.size (fun k e => by cases e; exact h0l)
  obtain ⟨hc2, hf2⟩ := Hn hv2
  have hBlt : Bs < W2.heap.size := (Array.getElem?_eq_some_iff.1 hv2).1
  have hl2 : l < W2.heap.size := (Array.getElem?_eq_some_iff.1 hL2).1
  have hDlt : D < W2.heap.size := (Array.getElem?_eq_some_iff.1 hK2).1
  have ne_of : ∀ {j : Nat} {o : Obj}, W2.heap[j]? = some o → (∀ cur, o ≠ .cells cur 40 (0, 0)) → some j ≠ v.ownBlock := fun hj hno => by
    rcases Cr hrow2 hj hno with e | e
    · rw [e]; simp
    · exact fun e' => e e'.symm
  clear hW2
  unfold Ks
  gi_wp2_with ((rw [Oper.semAt_eq _ _ _ (fun c h => by cases h)]; go_simp; try go_bits))
  unfold Pd
  gi_wp2_with (first
    | (gi_at_builtin; refine wpListIn_append_own _ rfl _ _ 45 rfl w0.heap.size 40 i0 (.int .u64 0) 1 8 us_F hi hz0 hz1 hz2 rfl (by decide) _ _ _ rfl (hrow2.alloc _) ⟨W2.heap.size, 0, none⟩ 1 1 [.int .u64 x] rfl rfl (cell_one_new _ _ _) (by simp [Value.oneCell']) (by omega) (by omega) (by have := hb2.size; simp; omega) ?_; intro v' w3 hown' hg3 hnil3
       have hv3 : w3.heap[Bs]? = some (.cells #[v] 45 (0, 0)) := (hg3.block Bs (by simp; omega) (ne_of hv2 (fun cur e => by first | cases e | exact hne (Obj.cells.inj e).2.1))).trans ((Below.heap_alloc _ _ Bs hBlt).trans hv2)
       obtain ⟨hc3, hf3⟩ := Hn hv3
       obtain ⟨g', cap', cur', rfl, hbase', hgb', hr1, hr2, hr3, hr4⟩ : ∃ g' cap' cur', v' = .slice (some ⟨g', 0, none⟩) (ss.length + 1) cap' ∧ w0.heap.size ≤ g' ∧ w3.heap[g']? = some (.cells cur' 40 (0, 0)) ∧ ss.length + 1 ≤ cap' ∧ cap' ≤ maxLen ∧ cur'.size = cap' * 1 ∧ cur'.toList.take ((ss.length + 1) * 1) = ss.map (Value.int .u64) ++ [.int .u64 x] := by
         rcases hown'.2 with ⟨_, h0⟩ | h'
         · exact absurd h0 (by omega)
         · exact h'
       go_frame)
    | (rw [Oper.semAt_eq _ _ _ (fun c h => by cases h)]; go_simp; try go_bits))
  have hg3' : (W2.alloc (.cells #[.int .u64 x] 40)).grownBy w3 v.ownBlock := hg3
  have hL3 : w3.heap[l]? = some (.loop { Ev fn sv Bs D .ready none with state := .busy }) := (hg3'.block l (by simp; omega) (ne_of hL2 (fun cur e => by first | cases e | exact hne (Obj.cells.inj e).2.1))).trans ((Below.heap_alloc _ _ l hl2).trans hL2)
  have hK3 : w3.heap[D]? = some (.deferred (some [])) := (hg3'.block D (by simp; omega) (ne_of hK2 (fun cur e => by first | cases e | exact hne (Obj.cells.inj e).2.1))).trans ((Below.heap_alloc _ _ D hDlt).trans hK2)
  obtain ⟨w4, hw4⟩ : ∃ w4, w3.setCell ⟨Bs, 0, none⟩ (.slice (some ⟨g', 0, none⟩) (ss.length + 1) cap') = w4 := ⟨_, rfl⟩
  rw [hw4]
  have hg4 : w3.grownBy w4 (some Bs) := by rw [← hw4]; exact O9 _ _ _
  have hv4 : w4.heap[Bs]? = some (.cells #[.slice (some ⟨g', 0, none⟩) (ss.length + 1) cap'] 45 (0, 0)) := by rw [← hw4]; exact Wr _ hv3
  have hL4 : w4.heap[l]? = some (.loop { Ev fn sv Bs D .ready none with state := .busy }) := (hg4.block l (Array.getElem?_eq_some_iff.1 hL3).1 (fun e => hBl (by cases e; rfl))).trans hL3
  have hK4 : w4.heap[D]? = some (.deferred (some [])) := (hg4.block D (Array.getElem?_eq_some_iff.1 hK3).1 (fun e => hDB (by cases e; rfl))).trans hK3
  have hrow4 := hown'.kept hg4 (Cr hown' hv3 (fun cur e => by first | cases e | exact hne (Obj.cells.inj e).2.1))
  have hl4 : l < w4.heap.size := (Array.getElem?_eq_some_iff.1 hL4).1
  have hb3 : Below w0.heap.size w0 w3 := (hb2.alloc hb2.size _).grown hg3' (by have := hb2.size; simp; omega) (fun k e => (hrow2.lt k e).1)
  have hb4 : Below w0.heap.size w0 w4 := hb3.grown hg4 hb3.size (fun k e => by cases e; exact h0B)
  have hk4 : KeepsWalks W w4 := ((hk2.trans (KeepsWalks.alloc _ _)).trans (KeepsWalks.of_grownBy hg3' (Qx (hrow2.alloc _)))).trans (by rw [← hw4]; exact KeepsWalks.setCell _ _ _)
  clear hw4
  refine ⟨_, _, run_endRound none hL4, rfl, ⟨⟨_, (World.putObj_heap_other hBl).trans hv4, ?_⟩, World.putObj_heap_same hl4, (World.putObj_heap_other hDl).trans hK4, hb4.grown (Cq _ _ _) hb4.size (fun k e => by cases e; exact h0l)⟩, hk4.trans (KeepsWalks.putObj _ hL4 rfl)⟩
  have := hrow4.kept (Cq w4 l (.loop { { Ev fn sv Bs D .ready none with state := .busy } with state := if (none : Option Code).isNone then .ready else .done, pending := none })) (Cr hrow4 hL4 (fun cur e => by first | cases e | exact hne (Obj.cells.inj e).2.1))
  simpa using this
set_option maxRecDepth 100000 in
set_option maxHeartbeats 2000000 in
theorem Aba (n : Nat) (hn : 2 ≤ n) (lb : Array Value) (S : List Int → Prop) (N : Nat) (hN : N ≤ maxLen) (hNb : N * 8 ≤ 140737488355328) (w : World) (hseq : SeqGives Fence.wide (n - 1) Tryz.prog 136 lb (Value.int .u64) S N w) :
    CallsIn Fence.wide n Tryz.prog 170 #[.slice none 0 0, .func (.func 136) #[] lb] w fun e w' => ∃ (v : Value) (ss : List Int), e = .returned v ∧ S ss ∧ w'.ownsRow w.heap.size 40 1 v ss.length (ss.map (Value.int .u64)) ∧ Below w.heap.size w w' := by
  have h1 : 1 ≤ n := by omega
  have hne : (45 : Nat) ≠ 40 := by decide
  have hf : Fence.wide.fn 170 := trivial
  refine callsIn_of_wp_marks Tryz.func170 rfl hf ?_ rfl
  simp only [Tryz.ntmps170, List.size_toArray, List.length_cons, List.length_nil, Nat.reduceAdd, Nat.reduceSub, Array.replicate_succ, Array.replicate_zero, List.push_toArray, List.append_toArray, List.nil_append, List.cons_append]
  gi_wp2
  refine wpIn_rangeFunc ?_
  intro fn hfn
  obtain ⟨W0, hW0⟩ : ∃ W0, w.alloc (.cells #[.slice none 0 0] 45) = W0 := ⟨_, rfl⟩
  have hs0 : W0.heap.size = w.heap.size + 1 := by rw [← hW0]; simp
  have hv0 : W0.heap[w.heap.size]? = some (.cells #[.slice none 0 0] 45 (0, 0)) := by rw [← hW0]; exact World.alloc_heap_new w _
  have hb0 : Below w.heap.size w W0 := by rw [← hW0]; exact (Below.refl _ w).alloc (Nat.le_refl _) _
  rw [hW0]
  obtain ⟨W1, hW1⟩ : ∃ W1, (W0.alloc (.deferred (some []))).alloc (.loop (Ev fn (.func (.func 136) #[] lb) w.heap.size W0.heap.size .ready none)) = W1 := ⟨_, rfl⟩
  have hold : ∀ k, k < W0.heap.size → W1.heap[k]? = W0.heap[k]? := fun k hk => by
    rw [← hW1]; exact (Below.heap_alloc _ _ k (by simp; omega)).trans (Below.heap_alloc _ _ k hk)
  have hb1 : Below w.heap.size w W1 := by rw [← hW1]; exact (hb0.alloc hb0.size _).alloc (by have := hb0.size; simp; omega) _
  have hs1 : W1.heap.size = W0.heap.size + 2 := by rw [← hW1]; simp
  have hM : Pe w fn (.func (.func 136) #[] lb) w.heap.size (W0.heap.size + 1) W0.heap.size [] W1 :=
    ⟨⟨_, (hold w.heap.size (by omega)).trans hv0, ⟨rfl, .inl ⟨rfl, rfl⟩⟩⟩,
     by rw [← hW1]; have := World.alloc_heap_new (W0.alloc (.deferred (some []))) (.loop (Ev fn (.func (.func 136) #[] lb) w.heap.size W0.heap.size .ready none)); rwa [World.size_alloc] at this,
     by rw [← hW1]; exact (Below.heap_alloc _ _ _ (by simp)).trans (World.alloc_heap_new W0 _), hb1⟩
  refine ⟨W0.heap.size + 1, [{ target := .collected W0.heap.size, args := #[] }], W1, { target := .fn (.func 136) lb, args := #[.func (.yield (W0.heap.size + 1)) #[] #[]] }, W1, 136,
    #[.func (.yield (W0.heap.size + 1)) #[] #[]] ++ lb, W1, ?_, ?_, ?_, ?_, fun _ => h1, ?_⟩
  · rw [← hW1]; exact run_enterLoop_outer _ _ _ _ _
  · simp [resolve, go_sem]
  · intro f' hf'; trivial
  · simp [invoke, go_sem, Ek (P := Tryz.prog) (g := 136) ⟨_, Tryz.func136, by kernel_rfl, by kernel_rfl⟩]
  · refine (hseq (W0.heap.size + 1) (Pe w fn (.func (.func 136) #[] lb) w.heap.size (W0.heap.size + 1) W0.heap.size) W1 hb1 (Vf _ _ _ _ _ _ _ hb1.size)
      (fun pre x W hJ hl => X8 (n - 1 - 1) w fn _ w.heap.size (W0.heap.size + 1) W0.heap.size (by omega) (by omega) (by omega) (Nat.le_refl _) (by omega) N hN hNb pre x W hJ hl) hM).mono ?_
    rintro e W2 ⟨⟨v0, rfl⟩, ss, hS, h2⟩
    obtain ⟨v, hv, hrow⟩ := h2.box
    have hend := run_endLoop (P := Tryz.prog) h2.L (by simp [Ev])
    obtain ⟨W3, hW3⟩ : ∃ W3, W2.putObj (W0.heap.size + 1) (.loop { Ev fn (.func (.func 136) #[] lb) w.heap.size W0.heap.size .ready none with state := .exhausted }) = W3 := ⟨_, rfl⟩
    rw [hW3] at hend
    have hg3 : W2.grownBy W3 (some (W0.heap.size + 1)) := by rw [← hW3]; exact Cq _ _ _
    have hv3 : W3.heap[w.heap.size]? = some (.cells #[v] 45 (0, 0)) := by rw [← hW3]; exact (World.putObj_heap_other (by omega)).trans hv
    have hK3 : W3.heap[W0.heap.size]? = some (.deferred (some [])) := by rw [← hW3]; exact (World.putObj_heap_other (by omega)).trans h2.K
    have hrow3 := hrow.kept hg3 (Cr hrow h2.L (fun cur e => by first | cases e | exact hne (Obj.cells.inj e).2.1))
    have hb3 : Below w.heap.size w W3 := h2.below.grown hg3 h2.below.size (fun k e => by cases e; omega)
    obtain ⟨hc3, hf3⟩ := Hn hv3
    clear hW3
    refine ⟨none, W3, hend, ?_⟩
    gi_wp2
    rw [← hs0]
    refine ⟨by simp, .inl ⟨_, _, rfl, run_takeDeferred hK3, ?_⟩⟩
    exact ⟨_, results_tmp rfl _ _ _, v, ss, rfl, hS, hrow3.kept (Cq _ _ _) (Cr hrow3 hK3 (fun cur e => by first | cases e | exact hne (Obj.cells.inj e).2.1)), hb3.grown (Cq _ _ _) hb3.size (fun k e => by cases e; omega)⟩
theorem X9 {b : Nat} {w : World} : Aa Tryz.prog 115 [.map (some b)] w (Rets fun v w' => ∃ g, v = .func (.func 136) #[] #[.pointer (some ⟨g, 0, none⟩)] ∧ Ag w w' g (.cells #[.map (some b)] 150)) := by
 refine sx115.ok ?_
 unfold sx115
 exact fun b1 w2 hal => ⟨_, rfl, b1, rfl, hal⟩
def Abb (w : World) (ks : List Int) (v : Value) (w' : World) : Prop := ∃ ss, ss.Perm ks ∧ Dk w 40 (Enc.int .u64) ss v w'
theorem Abc {α : Type} {F : α → Value} {m : List (Int × α)} {Bm b : Nat} {w : World} (hc : w.cell? ⟨Bm, 0, none⟩ = some (.map (some b))) (h : Av w b .u64 F m) (hb : m.length * 8 ≤ 140737488355328) :
  Aa Tryz.prog 170 [.slice none 0 0, .func (.func 136) #[] #[.pointer (some ⟨Bm, 0, none⟩)]] w (Rets (Abb w (m.map (·.1)))) := by
 refine Aa.of_calls ⟨_, Tryz.func170, by kernel_rfl, by kernel_rfl⟩ fun w₀ hw => ?_
 have hmax : m.length ≤ maxLen := by simp only [maxLen]; omega
 obtain ⟨D, hown, hhas, hsz⟩ := Wq ue_F h hw hmax
 have hc₀ := (hw.cell hc).1
 have hlt : Bm < w₀.heap.size := World.block_lt_of_cell? w₀ _ hc₀
 refine ((callsIn_wide (n := 3)).1 (Aba 3 (by decide) #[.pointer (some ⟨Bm, 0, none⟩)] _ _ (by omega) (by omega) w₀ (Afa 2 (by decide) Bm b m.length D (m.map (·.1)) h.nodup hhas w₀ hlt hc₀ hown))).mono ?_
 rintro e w₀' ⟨v, ss, rfl, hp, hrow, hbl⟩
 obtain ⟨a, n, c, rfl, ho⟩ := O8 hw hrow
 exact ⟨hbl, fun hg => ⟨_, rfl, ss, hp, a, n, c, rfl, ho, hg⟩⟩
theorem Abd {α : Type} {F : α → Value} {m : List (Int × α)} {Bm b : Nat} {w : World} (hc : w.cell? ⟨Bm, 0, none⟩ = some (.map (some b))) (h : Av w b .u64 F m) (hb : m.length * 8 ≤ 140737488355328) :
  Aa Tryz.prog 134 [.func (.func 136) #[] #[.pointer (some ⟨Bm, 0, none⟩)]] w (Rets (Abb w (m.map (·.1)))) := by
 refine sx134.ok (seq_c := [.pointer (some ⟨Bm, 0, none⟩)]) ?_
 unfold sx134
 refine (Abc hc h hb).use fun v w1 ⟨ss, hp, a, n, c, hv, ho, hg⟩ => ?_
 subst hv
 exact ⟨_, _, _, rfl, _, rfl, ss, hp, a, n, c, rfl, ho, hg⟩
theorem Tn {α : Type} {F : α → Value} {m : List (Int × α)} {Bm b : Nat} {w : World} (hc : w.cell? ⟨Bm, 0, none⟩ = some (.map (some b))) (h : Av w b .u64 F m) (hb : m.length * 8 ≤ 140737488355328) :
  Aa Tryz.prog 114 [.func (.func 136) #[] #[.pointer (some ⟨Bm, 0, none⟩)]] w (Rets (Dk w 40 (Enc.int .u64) (B3 (m.map (·.1))))) := by
 refine sx114.ok (seq_c := [.pointer (some ⟨Bm, 0, none⟩)]) ?_
 unfold sx114
 refine (Abd hc h hb).use fun v w1 ⟨ss, hp, a, n, c, hv, ho, hg⟩ => ?_
 subst hv
 have hl : ss.length = m.length := by have := hp.length_eq; simpa using this
 refine ⟨_, _, _, rfl, (X7 ho (by omega)).use fun v w2 ⟨hv, ho2, hu2⟩ => ⟨hv, _, rfl, a, n, c, rfl, ?_, hg.then_own hu2 fun b hb => (ho.blk hb).1⟩⟩
 rw [Ki hp] at ho2
 exact ho2
def sx66 (table : Option Addr) (table_n table_c : Nat) (R : Ending → World → Prop) (w : World) : Prop :=
 ∃ (I1 : Int → World → Prop) (m1 : Int → World → Nat), I1 0 w ∧ ∀ n2 w3, I1 n2 w3 → ifB (decide (n2 < ((table_n : Nat) : Int))) (Ab table (fun d4 => (0 ≤ n2 ∧ n2 < (table_n : Nat)) ∧ ∃ n5 b6 n7, Ae w3 (Addr.add d4 (n2.toNat * 3)) 0 [.int .u64 n5, .bool b6, .int .u64 n7] ∧ ∀ w8, Grew w3 w8 → ifB (!b6) (∀ w9, Grew w8 w9 → R (.returned (.bool false)) w9) (ifB (decide (n2 > 0)) (Ab table (fun d10 => (0 ≤ (IntKind.i64.wrap (n2 - 1)) ∧ (IntKind.i64.wrap (n2 - 1)) < (table_n : Nat)) ∧ ∃ n11, w8.cell? (Addr.add d10 ((IntKind.i64.wrap (n2 - 1)).toNat * 3)) = some (.int .u64 n11) ∧ ∀ w12, Grew w8 w12 → ifB (decide (n5 ≤ n11)) (R (.returned (.bool false)) w12) ((I1 (IntKind.i64.wrap (n2 + 1)) w12 ∧ m1 (IntKind.i64.wrap (n2 + 1)) w12 < m1 n2 w3)))) (∀ w13, Grew w8 w13 → (I1 (IntKind.i64.wrap (n2 + 1)) w13 ∧ m1 (IntKind.i64.wrap (n2 + 1)) w13 < m1 n2 w3))))) (R (.returned (.bool true)) w3)
theorem sx66.ok {table : Option Addr} {table_n table_c : Nat} {R : Ending → World → Prop} {w : World} (h : sx66 table table_n table_c R w) : Aa Tryz.prog 66 [.slice table table_n table_c] w R :=
 okOf { locals := [4], loops := [(2, { slots := [(7, .int .i64)], cells := [] })] } mix Tryz.func66 (by kernel_rfl) (by kernel_rfl) (by kernel_rfl) h
def sx30 (table : Option Addr) (table_n table_c : Nat) (R : Ending → World → Prop) (w : World) : Prop :=
 SemW Tryz.prog (Instr.makeSlice 45 (.int .i64 ((table_n : Nat) : Int)) (.int .i64 ((table_n : Nat) : Int))) (fun u2 w1 => ∃ a3 l3 c3, u2 = .slice a3 l3 c3 ∧ ∃ (I4 : Int → World → Prop) (m4 : Int → World → Nat), I4 0 w1 ∧ ∀ n5 w6, I4 n5 w6 → ifB (decide (n5 < ((table_n : Nat) : Int))) (Ab table (fun d7 => (0 ≤ n5 ∧ n5 < (table_n : Nat)) ∧ ∃ n8 b9 n10, Ae w6 (Addr.add d7 (n5.toNat * 3)) 0 [.int .u64 n8, .bool b9, .int .u64 n10] ∧ ∀ w11, Grew w6 w11 → Ab a3 (fun d12 => (0 ≤ n5 ∧ n5 < (l3 : Nat)) ∧ Af w11 (Addr.add d12 (n5.toNat * 1)) 0 [.int .u64 n8] ∧ ∀ w13, w13 = setCells w11 (Addr.add d12 (n5.toNat * 1)) 0 [.int .u64 n8] → (I4 (IntKind.i64.wrap (n5 + 1)) w13 ∧ m4 (IntKind.i64.wrap (n5 + 1)) w13 < m4 n5 w6)))) (R (.returned (.slice a3 l3 c3)) w6)) w
theorem sx30.ok {table : Option Addr} {table_n table_c : Nat} {R : Ending → World → Prop} {w : World} (h : sx30 table table_n table_c R w) : Aa Tryz.prog 30 [.slice table table_n table_c] w R :=
 okOf { locals := [5], sem := [8], loops := [(3, { slots := [(11, .int .i64)], cells := [] })] } mix Tryz.func30 (by kernel_rfl) (by kernel_rfl) (by kernel_rfl) h
def sx68 (g : Nat) (R : Ending → World → Prop) (w : World) : Prop :=
 Aa Tryz.prog 115 [.map (some g)] w (RetR R fun u2 w1 => ∃ v3, u2 = v3 ∧ Aa Tryz.prog 114 [v3] w1 (RetR R fun u6 w5 => ∃ a7 l7 c7, u6 = .slice a7 l7 c7 ∧ ∃ (I9 : Option Addr → Nat → Nat → Int → World → Prop) (m9 : Option Addr → Nat → Nat → Int → World → Nat), I9 none 0 0 0 w5 ∧ ∀ a10 l10 c10 n11 w12, I9 a10 l10 c10 n11 w12 → ifB (decide (n11 < ((l7 : Nat) : Int))) (Ab a7 (fun d13 => (0 ≤ n11 ∧ n11 < (l7 : Nat)) ∧ ∃ n14, w12.cell? (Addr.add d13 (n11.toNat * 1)) = some (.int .u64 n14) ∧ SemW Tryz.prog (Instr.lookup 150 (.map (some g)) (.int .u64 n14) false) (fun u16 w15 => ∃ b17 n18, u16 = .agg #[.bool b17, .int .u64 n18] ∧ ∀ b19 w20, Ag w15 w20 b19 (.cells #[.int .u64 n14, .bool b17, .int .u64 n18] 83) → SemW Tryz.prog (Builtin.append_ #[46, 46] 46 #[.slice a10 l10 c10, .slice (some ⟨b19, 0, none⟩) 1 1]) (fun u22 w21 => ∃ a23 l23 c23, u22 = .slice a23 l23 c23 ∧ (I9 a23 l23 c23 (IntKind.i64.wrap (n11 + 1)) w21 ∧ m9 a23 l23 c23 (IntKind.i64.wrap (n11 + 1)) w21 < m9 a10 l10 c10 n11 w12)) w20) w12)) (R (.returned (.slice a10 l10 c10)) w12)))
theorem sx68.ok {g : Nat} {R : Ending → World → Prop} {w : World} (h : sx68 g R w) : Aa Tryz.prog 68 [.map (some g)] w R :=
 okOf { sem := [18, 21], loops := [(3, { slots := [(3, .slice), (10, .int .i64)], cells := [] })] } mix Tryz.func68 (by kernel_rfl) (by kernel_rfl) (by kernel_rfl) h
def sx33 (list : Option Addr) (list_n list_c : Nat) (kind : Int) (recs : Option Addr) (recs_n recs_c : Nat) (R : Ending → World → Prop) (w : World) : Prop :=
 Aa Tryz.prog 42 [.slice list list_n list_c] w (RetR R fun u2 w1 => ∃ n3, u2 = .int .i64 n3 ∧ ifB (n3 != 0) (R (.returned (.tuple #[.slice none 0 0, .int .i64 0, .int .i64 n3])) w1) (Aa Tryz.prog 65 [.int .i64 kind] w1 (RetR R fun u6 w5 => ∃ b7, u6 = .bool b7 ∧ ifB (!b7) (R (.returned (.tuple #[.slice none 0 0, .int .i64 0, .int .i64 1])) w5) (SemW Tryz.prog (Instr.makeMap 150 none) (fun u10 w9 => ∃ m11, u10 = .map m11 ∧ ∃ (I12 : Int → Int → World → Prop) (m12 : Int → Int → World → Nat), I12 0 0 w9 ∧ ∀ n13 n14 w15, I12 n13 n14 w15 → ifB (decide (n14 < ((recs_n : Nat) : Int))) (Ab recs (fun d16 => (0 ≤ n14 ∧ n14 < (recs_n : Nat)) ∧ ∃ n17 x18, Ae w15 (Addr.add d16 (n14.toNat * 2)) 0 [.int .u64 n17, .float .f64 x18] ∧ ∀ w19, Grew w15 w19 → Aa Tryz.prog 72 [.slice list list_n list_c, .agg #[.int .u64 n17, .float .f64 x18]] w19 (RetR R fun u21 w20 => ∃ n22 x23 n24, u21 = .tuple #[.agg #[.int .u64 n22, .float .f64 x23], .int .i64 n24] ∧ ∀ w26, Grew w20 w26 → ifB (n24 == 1) (∀ w27, Grew w26 w27 → ((SemW Tryz.prog (Instr.lookup 150 (.map m11) (.int .u64 n22) false) (fun u29 w28 => ∃ b30 n31, u29 = .agg #[.bool b30, .int .u64 n31] ∧ Ad w27 w28 [] ∧ Aa Tryz.prog 73 [.int .i64 kind, .float .f64 x23] w28 (RetR R fun u33 w32 => ∃ b34 n35, u33 = .agg #[.bool b34, .int .u64 n35] ∧ Ad w28 w32 [] ∧ Aa Tryz.prog 67 [.int .i64 kind, .agg #[.bool b30, .int .u64 n31], .agg #[.bool b34, .int .u64 n35]] w32 (RetR R fun u38 w37 => ∃ b39 n40, u38 = .agg #[.bool b39, .int .u64 n40] ∧ Ad w32 w37 [] ∧ SemW Tryz.prog (Instr.mapUpdate 150 (.map m11) (.int .u64 n22) (.agg #[.bool b39, .int .u64 n40])) (fun _ w42 => (I12 n13 (IntKind.i64.wrap (n14 + 1)) w42 ∧ m12 n13 (IntKind.i64.wrap (n14 + 1)) w42 < m12 n13 n14 w15)) w37))) w27) ∧ (Aa Tryz.prog 73 [.int .i64 kind, .float .f64 x23] w27 (RetR R fun u44 w43 => ∃ b45 n46, u44 = .agg #[.bool b45, .int .u64 n46] ∧ Ad w27 w43 [] ∧ SemW Tryz.prog (Instr.lookup 150 (.map m11) (.int .u64 n22) false) (fun u49 w48 => ∃ b50 n51, u49 = .agg #[.bool b50, .int .u64 n51] ∧ Ad w43 w48 [] ∧ Aa Tryz.prog 67 [.int .i64 kind, .agg #[.bool b50, .int .u64 n51], .agg #[.bool b45, .int .u64 n46]] w48 (RetR R fun u53 w52 => ∃ b54 n55, u53 = .agg #[.bool b54, .int .u64 n55] ∧ Ad w48 w52 [] ∧ SemW Tryz.prog (Instr.mapUpdate 150 (.map m11) (.int .u64 n22) (.agg #[.bool b54, .int .u64 n55])) (fun _ w57 => (I12 n13 (IntKind.i64.wrap (n14 + 1)) w57 ∧ m12 n13 (IntKind.i64.wrap (n14 + 1)) w57 < m12 n13 n14 w15)) w52)) w43)))) (ifB (n24 == 3) ((I12 (IntKind.i64.wrap (n13 + 1)) (IntKind.i64.wrap (n14 + 1)) w26 ∧ m12 (IntKind.i64.wrap (n13 + 1)) (IntKind.i64.wrap (n14 + 1)) w26 < m12 n13 n14 w15)) ((I12 n13 (IntKind.i64.wrap (n14 + 1)) w26 ∧ m12 n13 (IntKind.i64.wrap (n14 + 1)) w26 < m12 n13 n14 w15)))))) (Aa Tryz.prog 68 [.map m11] w15 (RetR R fun u59 w58 => ∃ a60 l60 c60, u59 = .slice a60 l60 c60 ∧ R (.returned (.tuple #[.slice a60 l60 c60, .int .i64 n13, .int .i64 0])) w58))) w5))))
theorem sx33.ok {list : Option Addr} {list_n list_c : Nat} {kind : Int} {recs : Option Addr} {recs_n recs_c : Nat} {R : Ending → World → Prop} {w : World} (h : sx33 list list_n list_c kind recs recs_n recs_c R w) : Aa Tryz.prog 33 [.slice list list_n list_c, .int .i64 kind, .slice recs recs_n recs_c] w R :=
 okOf { locals := [13, 14], sem := [24, 47], draws := [(13, { order := (ol [0,1,2,3,4,5,6,8,9,10] (.alt (ol [7,11,12,13] .nil) (ol [11,7,12,13] .nil))), bars := [13] })], loops := [(8, { slots := [(11, .int .i64), (27, .int .i64)], cells := [] })] } mix Tryz.func33 (by kernel_rfl) (by kernel_rfl) (by kernel_rfl) h
theorem pair_cells {w : World} {d : Addr} {x : Am} {k : Nat} (h : Ae w (d.add (k * Enc.pair.sz)) 0 (Enc.pair.f x)) : Ae w (Addr.add d (((k : Nat) : Int).toNat * 3)) 0 [.int .u64 x.key, .bool x.has, .int .u64 x.bits] ∧ w.cell? (Addr.add d (((k : Nat) : Int).toNat * 3)) = some (.int .u64 x.key) := by
 refine ⟨h, ?_⟩
 have := Ai h 0 _ rfl
 simpa [Enc.pair, Addr.add_zero'] using this
theorem Aet : B4 Tryz.prog 45 40 (Enc.int .u64).sz 8 := B4.mk' (z := .int .u64 0) (by kernel_rfl) (by kernel_rfl) (by kernel_rfl)
theorem Abe {a : Option Addr} {n c : Nat} {l : List Am} {w : World} (hr : Reads w Enc.pair (a, n, c) l) (hl : l.length ≤ maxLen) (hb : l.length * 24 ≤ 140737488355328) : Aa Tryz.prog 30 [.slice a n c] w (Rets (Dk w 40 (Enc.int .u64) (l.map (·.key)))) := by
 refine sx30.ok ?_
 unfold sx30
 have hn : n = l.length := hr.2.1
 subst hn
 have hl' := hl
 simp only [maxLen] at hl'
 refine Hf (e := 40) (E := Enc.int .u64) (x := 0) (z := .int .u64 0) (bytes := 8) (by kernel_rfl) (by kernel_rfl) rfl (by omega) hl ?_
 rintro v w1 ⟨a3, l3, c3, rfl, ho, hg1⟩
 have hl3 : l3 = l.length := by rw [ho.len]; simp
 subst hl3
 refine ⟨_, _, _, rfl, fun i w' => ∃ k : Nat, i = k ∧ k ≤ l.length ∧ Own w' w.heap.size 40 (Enc.int .u64) a3 l.length c3 ((l.take k).map (·.key) ++ List.replicate (l.length - k) 0) ∧ Grew w w', fun i _ => l.length - i.toNat, ⟨0, rfl, Nat.zero_le _, by simpa using ho, hg1⟩, ?_⟩
 rintro i w6 ⟨k, rfl, hk, ho6, hg6⟩
 refine ⟨fun hlt => ?_, fun hge => ?_⟩
 ·simp only [decide_eq_true_eq] at hlt
  obtain ⟨d, x, rfl, hx, hc⟩ := (hr.grew hg6).at0 (k := k) (by omega)
  obtain ⟨c1, c2⟩ := pair_cells hc
  have hw : IntKind.i64.wrap ((k : Int) + 1) = ((k + 1 : Nat) : Int) := by rw [IntKind.wrap_i64]; omega
  rw [hw]
  refine ⟨⟨by omega, by omega⟩, _, _, _, c1, fun w11 hg11 => ?_⟩
  have ho11 := ho6.grew hg11
  have hrep : List.replicate (l.length - k) (0 : Int) = 0 :: List.replicate (l.length - (k + 1)) 0 := by
   rw [show l.length - k = (l.length - (k + 1)) + 1 from by omega, List.replicate_succ]
  rw [hrep] at ho11
  have hlen : ((l.take k).map (·.key)).length = k := by simp; omega
  obtain ⟨g, hg, hR, hO, hU⟩ := ho11.set1 (i := k) (x := 0) (x' := x.key) (v := .int .u64 x.key) (j := 0) (by rw [List.getElem?_append_right (by omega)]; simp [hlen, show k - min k l.length = 0 from by omega]) (by decide) (by simp [Enc.int])
  have e : k * (Enc.int .u64).sz + 0 = k := by simp [Enc.int]
  rw [e] at hR hO hU
  rw [hg, Ab]
  simp only [Au, Nat.mul_one, Nat.zero_add, Int.toNat_natCast]
  refine ⟨⟨by omega, by omega⟩, hR, ?_⟩
  rintro w13 rfl
  refine ⟨⟨k + 1, rfl, by omega, ?_, (hg6.trans hg11).then_own hU fun b hb => ?_⟩, by omega⟩
  ·rw [List.set_append_right _ _ (by omega), hlen, Nat.sub_self, List.set_cons_zero] at hO
   rw [Ak hx, List.map_append, List.append_assoc]
   rw [hg] at hO
   exact hO
  ·exact (ho11.blk ⟨_, hg, hb.symm⟩).1
 ·simp only [decide_eq_false_iff_not] at hge
  have hkl : k = l.length := by omega
  subst hkl
  rw [List.take_length, Nat.sub_self, List.replicate_zero, List.append_nil] at ho6
  exact ⟨_, rfl, _, _, _, rfl, ho6, hg6⟩
theorem R7 : B4 Tryz.prog 46 83 Enc.pair.sz 24 := B4.mk' (z := .agg #[.int .u64 0, .bool false, .int .u64 0]) (by kernel_rfl) (by kernel_rfl) (by kernel_rfl)
theorem zVal : ∀ w, (zeroValue 81).run Tryz.prog w = .ok val0.v w := Jw (by kernel_rfl)
theorem To : Tryz.prog.underlying 150 = some (.map 40 81) := by kernel_rfl
theorem Tp : Tryz.prog.underlying 40 = some (.int .u64) := by kernel_rfl
def D8 (m : Tab) : Prop := ∀ x ∈ m, (0 ≤ x.1 ∧ x.1 < u64m) ∧ x.2.Fits
theorem Kt (m : Tab) : (Bv m).length = m.length := by unfold Bv; rw [List.length_map, (Bf _).length_eq, List.length_map]
theorem Jd {t k e : TypeId} {w : World} {b : Nat} {m : Tab} {key : Int} {K : Value → World → Prop} (ht : Tryz.prog.underlying t = some (.map k e)) (hkt : Tryz.prog.underlying k = some (.int .u64)) (hz : ∀ w, (zeroValue e).run Tryz.prog w = .ok val0.v w) (h : Av w b .u64 ValV.v m)
  (hk : K ((getM m key).getD val0).v w) : SemW Tryz.prog (Instr.lookup t (.map (some b)) (.int .u64 key) false) K w := by
 refine E4 (F := ValV.v) (z := val0.v) ht hkt hz h ?_
 revert hk
 cases getM m key <;> exact id
theorem Abf {b : Nat} {m : Tab} {w : World} (h : Av w b .u64 ValV.v m) (hb : m.length * 24 ≤ 140737488355328) :
  Aa Tryz.prog 68 [.map (some b)] w (Rets (Dk w 83 Enc.pair (Bv m))) := by
 refine sx68.ok ?_
 unfold sx68
 refine X9.use fun u w1 ⟨g, hv, hal⟩ => ?_
 subst hv
 have h1 := h.grew hal.grew
 have hc1 : w1.cell? ⟨g, 0, none⟩ = some (.map (some b)) := by rw [Lc hal.at_]; rfl
 refine ⟨_, rfl, (Tn hc1 h1 (by omega)).use fun u w5 ⟨a7, l7, c7, hv, ho5, hg5⟩ => ?_⟩
 subst hv
 have hl7 : l7 = m.length := by rw [ho5.len, (Bf _).length_eq, List.length_map]
 subst hl7
 have hg5' := hal.grew.trans hg5
 refine ⟨_, _, _, rfl, fun a l c i w' => ∃ k : Nat, i = k ∧ k ≤ m.length ∧ Own w' w5.heap.size 83 Enc.pair a l c ((Bv m).take k) ∧ Grew w5 w', fun _ _ _ i _ => m.length - i.toNat, ⟨0, rfl, Nat.zero_le _, Own.nil _ _ _ _, Grew.refl _⟩, ?_⟩
 rintro a10 l10 c10 i w12 ⟨k, rfl, hk, ho12, hg12⟩
 refine ⟨fun hlt => ?_, fun hge => ?_⟩
 ·simp only [decide_eq_true_eq] at hlt
  obtain ⟨d, key, hd, hkey, hc⟩ := (ho5.grew hg12).reads.at0 (k := k) (by omega)
  have hcell : w12.cell? (Addr.add d (((k : Nat) : Int).toNat * 1)) = some (.int .u64 key) := by
   have := Ai hc 0 _ rfl
   simpa [Enc.int, Addr.add_zero'] using this
  rw [hd, Ab]
  have hw : IntKind.i64.wrap ((k : Int) + 1) = ((k + 1 : Nat) : Int) := by rw [IntKind.wrap_i64]; omega
  rw [hw]
  refine ⟨⟨by omega, by omega⟩, key, hcell, ?_⟩
  refine Jd To Tp zVal ((h.grew hg5').grew hg12) ?_
  refine ⟨_, _, rfl, fun b19 w20 hal20 => ?_⟩
  have hx : (Bv m)[k]? = some (Bt key ((getM m key).getD val0)) := by unfold Bv; rw [List.getElem?_map, hkey]; rfl
  have hlk : ((Bv m).take k).length ≤ m.length := by rw [List.length_take, Kt]; omega
  have hlk2 : ((Bv m).take k).length = k := by rw [List.length_take, Kt]; omega
  refine Bc (l2 := [Bt key ((getM m key).getD val0)]) R7 ho12 hal20 rfl rfl hg12.size (by simp only [maxLen, List.length_singleton]; omega) (by simp only [List.length_singleton]; omega) ?_
  rintro v22 w21 ⟨a23, l23, c23, rfl, ho21, hu21, hb21⟩
  rw [← Ak hx] at ho21
  refine ⟨_, _, _, rfl, ⟨k + 1, rfl, by omega, ho21, ?_⟩, by show m.length - (((k + 1 : Nat) : Int)).toNat < m.length - ((k : Int)).toNat; omega⟩
  exact hg12.then_own hu21 fun b hb => (ho12.blk hb).1
 ·simp only [decide_eq_false_iff_not] at hge
  rw [List.take_of_length_le (by rw [Kt]; omega)] at ho12
  exact ⟨_, rfl, _, _, _, rfl, ho12.base hg5'.size, hg5'.trans hg12⟩
theorem Jx {m : Tab} (h : D8 m) (k : Int) : ((getM m k).getD val0).Fits := by
 cases hg : getM m k with
 | none => exact ⟨by decide, by decide⟩
 | some v =>
  unfold getM at hg
  rw [Option.map_eq_some_iff] at hg
  obtain ⟨x, hx, rfl⟩ := hg
  exact (h x (List.mem_of_find?_eq_some hx)).2
theorem Mf {m : Tab} (h : D8 m) {k : Int} {v : ValV} (hk : 0 ≤ k ∧ k < u64m) (hv : v.Fits) : D8 (setM m k v) := by
 intro x hx
 unfold setM at hx
 split at hx
 ·obtain ⟨y, hy, rfl⟩ := List.mem_map.1 hx
  split
  ·exact ⟨hk, hv⟩
  ·exact h y hy
 ·rcases List.mem_append.1 hx with hx | hx
  ·exact h x hx
  ·simp at hx; subst hx; exact ⟨hk, hv⟩
theorem Abg {m : Tab} {k : Int} {v : ValV} : (setM m k v).length ≤ m.length + 1 := by
 unfold setM; split <;> simp
theorem Abh {k : Int} (h : 0 ≤ k ∧ k < u64m) : (Lit.int .u64 k).wf = true := by
 simp only [u64m] at h
 simp [Lit.wf, IntKind.min, IntKind.max, IntKind.signed, IntKind.bits]; omega
def A2 (list : List OpV) (kind : Int) (m : Tab × Int) (r : RecV) : Tab × Int := if (runB list r).2 = 1 then (putT kind m.1 (runB list r).1.key (ofV kind (runB list r).1.val), m.2) else if (runB list r).2 = 3 then (m.1, IntKind.i64.wrap (m.2 + 1)) else m
def Aq (list : List OpV) (kind : Int) (rs : List RecV) : Tab × Int := rs.foldl (A2 list kind) ([], 0)
theorem Kj {list : List OpV} {kind : Int} {rs : List RecV} {r : RecV} : Aq list kind (rs ++ [r]) = A2 list kind (Aq list kind rs) r := by unfold Aq; rw [List.foldl_append]; rfl
set_option maxHeartbeats 1000000 in
theorem Abi {a b : Option Addr} {n c m k : Nat} {l : List OpV} {rs : List RecV} {kind : Int} {w : World} (hr : Reads w Enc.op3 (a, n, c) l) (hl : ∀ o ∈ l, o.Fits) (hi : Reads w Enc.rcd (b, m, k) rs) (hf : ∀ x ∈ rs, x.Fits) (hs : rs.length * 24 ≤ 140737488355328) :
  Aa Tryz.prog 33 [.slice a n c, .int .i64 kind, .slice b m k] w (Rets fun u w' => ∃ a' n' c', u = .tuple #[.slice a' n' c', .int .i64 (if Aw l ∧ Cz kind then (Aq l kind rs).2 else 0), .int .i64 (if Aw l then if Cz kind then 0 else 1 else 30)] ∧ Own w' w.heap.size 83 Enc.pair a' n' c' (if Aw l ∧ Cz kind then Bv (Aq l kind rs).1 else []) ∧ Grew w w') := by
 refine sx33.ok ?_
 unfold sx33
 have hm : m = rs.length := hi.2.1
 subst hm
 have nb : ∀ {x y : World}, Ad x y [] := by intro x y; simp [Ad]
 refine (Ll hr).use fun u w1 ⟨hv, hg1⟩ => ?_
 subst hv
 cases hc : Aw l
 ·refine ⟨_, rfl, fun _ => ⟨_, rfl, none, 0, 0, by simp, by simpa using Own.nil _ _ _ _, hg1⟩, fun h => (by simp at h)⟩
 refine ⟨_, rfl, fun h => (by simp at h), fun _ => O0.use fun u w5 ⟨hv, hw⟩ => ?_⟩
 subst hv; subst hw
 cases hk : Cz kind
 ·refine ⟨_, rfl, fun _ => ⟨_, rfl, none, 0, 0, by simp, by simpa using Own.nil _ _ _ _, hg1⟩, fun h => (by simp at h)⟩
 refine ⟨_, rfl, fun h => (by simp at h), fun _ => Et fun mb w9 hal9 => ⟨_, rfl, ?_⟩⟩
 have hg9 := hg1.trans hal9.grew
 have hmb : w.heap.size ≤ mb := Nat.le_trans hg1.size hal9.new
 have up : ∀ {y z : World}, Upd (fun b => b = mb) y z → Grew w y → Grew w z := fun hu hg => hg.then_own hu fun b hb => by rw [hb]; exact hmb
 refine ⟨fun t i w' => ∃ j : Nat, i = j ∧ j ≤ rs.length ∧ t = (Aq l kind (rs.take j)).2 ∧ Av w' mb .u64 ValV.v (Aq l kind (rs.take j)).1 ∧ D8 (Aq l kind (rs.take j)).1 ∧ (Aq l kind (rs.take j)).1.length ≤ j ∧ Grew w w', fun _ i _ => rs.length - i.toNat, ⟨0, rfl, Nat.zero_le _, rfl, Av.empty hal9, by intro x hx; simp [Aq] at hx, by simp [Aq], hg9⟩, ?_⟩
 rintro t i w15 ⟨j, rfl, hj, rfl, hM, hTF, hML, hg15⟩
 refine ⟨fun hlt => ?_, fun hge => ?_⟩
 ·simp only [decide_eq_true_eq] at hlt
  obtain ⟨d, r, rfl, hrj, hcc⟩ := (hi.grew hg15).at0 (k := j) (by omega)
  have hrf := hf r (List.mem_of_getElem? hrj)
  have hw : IntKind.i64.wrap ((j : Int) + 1) = ((j + 1 : Nat) : Int) := by rw [IntKind.wrap_i64]; omega
  have dec : rs.length - (((j + 1 : Nat) : Int)).toNat < rs.length - ((j : Int)).toNat := by omega
  have hstep : Aq l kind (rs.take (j + 1)) = A2 l kind (Aq l kind (rs.take j)) r := by rw [Ak hrj, Kj]
  have hcell : Ae w15 (Addr.add d (((j : Nat) : Int).toNat * 2)) 0 [.int .u64 r.key, .float .f64 r.val] := hcc
  refine ⟨⟨by omega, by omega⟩, _, _, hcell, fun w19 hg19 => ?_⟩
  have hg19 := hg15.trans hg19
  refine (Aa0 (hr.grew hg19) hl hrf).use fun u w20 ⟨hv, hg20⟩ => ?_
  subst hv
  have hg20 := hg19.trans hg20
  have hR := Hl hl hrf
  refine ⟨_, _, _, rfl, fun w26 hg26 => ?_⟩
  have hg26 := hg20.trans hg26
  have hg1526 : Grew w15 w26 := by
   have h1 : Grew w15 w19 := by assumption
   have h2 : Grew w19 w20 := by assumption
   have h3 : Grew w20 w26 := by assumption
   exact h1.trans (h2.trans h3)
  have hM26 := hM.grew hg1526
  rw [hw]
  generalize hX : Aq l kind (rs.take j) = X at hM hTF hML hstep hM26
  generalize hout : (runB l r).1 = out at hR
  refine ⟨fun h1 w27 hg27 => ?_, fun h1 => ⟨fun h3 => ⟨⟨j + 1, rfl, by omega, ?_, ?_, ?_, ?_, hg26⟩, dec⟩, fun h3 => ⟨⟨j + 1, rfl, by omega, ?_, ?_, ?_, ?_, hg26⟩, dec⟩⟩⟩
  all_goals simp only [beq_iff_eq, beq_eq_false_iff_ne, ne_eq] at *
  ·have hnew : Aq l kind (rs.take (j + 1)) = (putT kind X.1 out.key (ofV kind out.val), X.2) := by rw [hstep]; unfold A2; rw [if_pos h1, hout]
   have hM27 := hM26.grew hg27
   have hg27' := hg26.trans hg27
   have hzf := Jx hTF out.key
   have hof := Gh (kind := kind) hR.2
   have fin : ∀ w', Av w' mb .u64 ValV.v (setM X.1 out.key (Cv kind ((getM X.1 out.key).getD val0) (ofV kind out.val))) → Grew w w' →
     (∃ j' : Nat, (((j + 1 : Nat) : Int)) = j' ∧ j' ≤ rs.length ∧ X.2 = (Aq l kind (rs.take j')).2 ∧ Av w' mb .u64 ValV.v (Aq l kind (rs.take j')).1 ∧ D8 (Aq l kind (rs.take j')).1 ∧ (Aq l kind (rs.take j')).1.length ≤ j' ∧ Grew w w') := by
    intro w' hm' hg'
    refine ⟨j + 1, rfl, by omega, by rw [hnew], by rw [hnew]; exact hm', by rw [hnew]; exact Mf hTF hR.1 (Jc hzf hof), ?_, hg'⟩
    rw [hnew]
    have := Abg (m := X.1) (k := out.key) (v := Cv kind ((getM X.1 out.key).getD val0) (ofV kind out.val))
    show (setM X.1 out.key (Cv kind ((getM X.1 out.key).getD val0) (ofV kind out.val))).length ≤ j + 1
    omega
   refine ⟨Jd To Tp zVal hM27 ⟨_, _, rfl, nb, (O4 hR.2).use fun u w32 ⟨hv, hg32⟩ => ?_⟩, (O4 hR.2).use fun u w43 ⟨hv, hg43⟩ => ?_⟩
   ·subst hv
    refine ⟨_, _, rfl, nb, (Tj (kind := kind) hzf hof).use fun u w37 ⟨hv, hg37⟩ => ?_⟩
    subst hv
    have hg2737 := hg32.trans hg37
    refine ⟨_, _, rfl, nb, Ed (F := ValV.v) (x := Cv kind ((getM X.1 out.key).getD val0) (ofV kind out.val)) To Tp (hM27.grew hg2737) (Abh hR.1) fun w' hm' hu' => ?_⟩
    exact ⟨fin w' hm' (up hu' (hg27'.trans hg2737)), dec⟩
   ·subst hv
    refine ⟨_, _, rfl, nb, Jd To Tp zVal (hM27.grew hg43) ⟨_, _, rfl, nb, (Tj (kind := kind) hzf hof).use fun u w52 ⟨hv, hg52⟩ => ?_⟩⟩
    subst hv
    have hg2752 := hg43.trans hg52
    refine ⟨_, _, rfl, nb, Ed (F := ValV.v) (x := Cv kind ((getM X.1 out.key).getD val0) (ofV kind out.val)) To Tp (hM27.grew hg2752) (Abh hR.1) fun w' hm' hu' => ?_⟩
    exact ⟨fin w' hm' (up hu' (hg27'.trans hg2752)), dec⟩
  ·rw [hstep]; unfold A2; rw [if_neg h1, if_pos h3]
  ·rw [hstep]; unfold A2; rw [if_neg h1, if_pos h3]; exact hM26
  ·rw [hstep]; unfold A2; rw [if_neg h1, if_pos h3]; exact hTF
  ·rw [hstep]; unfold A2; rw [if_neg h1, if_pos h3]; show X.1.length ≤ j + 1; omega
  ·rw [hstep]; unfold A2; rw [if_neg h1, if_neg h3]
  ·rw [hstep]; unfold A2; rw [if_neg h1, if_neg h3]; exact hM26
  ·rw [hstep]; unfold A2; rw [if_neg h1, if_neg h3]; exact hTF
  ·rw [hstep]; unfold A2; rw [if_neg h1, if_neg h3]; omega
 ·simp only [decide_eq_false_iff_not] at hge
  rw [List.take_of_length_le (by omega)] at hM hTF hML ⊢
  refine (Abf hM (by omega)).use fun u w58 ⟨a60, l60, c60, hv, ho58, hg58⟩ => ?_
  subst hv
  refine ⟨_, _, _, rfl, _, rfl, a60, l60, c60, by simp, ?_, hg15.trans hg58⟩
  have := ho58.base hg15.size
  simpa using this
end Go.Proofs.YtcpkneemhfnanaaGreat
