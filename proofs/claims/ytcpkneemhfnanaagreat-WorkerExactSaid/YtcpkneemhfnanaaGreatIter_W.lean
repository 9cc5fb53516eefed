/- What slices.Sort hands back, of ints, by the shelf's contract. Conditions: none. -/
import Derived.Test.YtcpkneemhfnanaaGreatProg
import Derived.Test.YtcpkneemhfnanaaGreatAgg
import Derived.Test.YtcpkneemhfnanaaGreatShelf
import Derived.Test.YtcpkneemhfnanaaGreatSxSo
import Derived.Test.YtcpkneemhfnanaaGreatSxZ
namespace Go.Proofs.YtcpkneemhfnanaaGreat
open Go.Sx
set_option maxRecDepth 100000
set_option linter.unusedVariables false
set_option linter.unusedSimpArgs false
theorem Yh {B : Nat} {p : Option Addr} {n c : Nat} {l : List Int} {w : World} (h : Own w B 3 (Enc.int .i64) p n c l) (hsz : l.length < 2305843009213693952) :
  Aa Tryz.prog 109 [.slice p n c] w (Rets fun v w' => v = .tuple #[] ∧ Own w' B 3 (Enc.int .i64) p n c (B3 l) ∧ Upd (Blk p) w w') :=
 Abj ⟨_, Tryz.func109, by kernel_rfl, by kernel_rfl⟩ Tryz.slices_Sort_int Tryz.slices_Sort_int_none h hsz
def sx59 (m : Nat) (R : Ending → World → Prop) (w : World) : Prop :=
 ∀ b1 w2, Ag w w2 b1 (.cells [.map (some m)].toArray 102) → R (.returned (.func (.func 110) #[] #[.pointer (some ⟨b1, 0, none⟩)])) w2
theorem sx59.ok {m : Nat} {R : Ending → World → Prop} {w : World} (h : sx59 m R w) : Aa Tryz.prog 59 [.map (some m)] w R :=
 okOf {} mix Tryz.func59 (by kernel_rfl) (by kernel_rfl) (by kernel_rfl) h
def sx108 (seq : Nat) (seq_c : List Value) (R : Ending → World → Prop) (w : World) : Prop :=
 Aa Tryz.prog 130 [.slice none 0 0, .func (.func seq) #[] seq_c.toArray] w (RetR R fun u2 w1 => ∃ a3 l3 c3, u2 = .slice a3 l3 c3 ∧ R (.returned (.slice a3 l3 c3)) w1)
theorem sx108.ok {seq : Nat} {seq_c : List Value} {R : Ending → World → Prop} {w : World} (h : sx108 seq seq_c R w) : Aa Tryz.prog 108 [.func (.func seq) #[] seq_c.toArray] w R :=
 okOf {} mix Tryz.func108 (by kernel_rfl) (by kernel_rfl) (by kernel_rfl) h
def sx58 (seq : Nat) (seq_c : List Value) (R : Ending → World → Prop) (w : World) : Prop :=
 Aa Tryz.prog 108 [.func (.func seq) #[] seq_c.toArray] w (RetR R fun u2 w1 => ∃ a3 l3 c3, u2 = .slice a3 l3 c3 ∧ Aa Tryz.prog 109 [.slice a3 l3 c3] w1 (RetR R fun u6 w5 => u6 = .tuple #[] ∧ R (.returned (.slice a3 l3 c3)) w5))
theorem sx58.ok {seq : Nat} {seq_c : List Value} {R : Ending → World → Prop} {w : World} (h : sx58 seq seq_c R w) : Aa Tryz.prog 58 [.func (.func seq) #[] seq_c.toArray] w R :=
 okOf {} mix Tryz.func58 (by kernel_rfl) (by kernel_rfl) (by kernel_rfl) h
open Go.Maps (Keyed)
open Go.RowKit Go.Maps Go.Sort
theorem ue_W : Tryz.prog.underlying 3 = some (.int .i64) := by kernel_rfl
theorem us_W : Tryz.prog.underlying 44 = some (.slice 3) := by kernel_rfl
theorem um_W : Tryz.prog.underlying 102 = some (.map 3 136) := by kernel_rfl
set_option maxRecDepth 100000 in
set_option maxHeartbeats 1000000 in
theorem Ads (n : Nat) (hn : 1 ≤ n) (l Bm b nn : Nat) (D0 : DataW Unit) (ks : List Int) (hks : ks.Nodup) (hhas : ∀ x, Maps.has D0 (.int .i64 x) = true ↔ x ∈ ks) (J : List Int → World → Prop)
  (hY : ∀ pre x W, J pre W → pre.length < Maps.size D0 → YieldAt Fence.wide (n - 1) Tryz.prog l #[.int .i64 x] W fun e W' => e = .returned (.bool true) ∧ J (pre ++ [x]) W' ∧ KeepsWalks W W')
  (W : World) (hJ : AbidesFrom W.heap.size J) (hm : W.cell? ⟨Bm, 0, none⟩ = some (.map (some b))) (hown : W.ownsMap Tryz.prog 3 Fv b nn D0) (h0 : J [] W) :
  CallsIn Fence.wide n Tryz.prog 110 #[.func (.yield l) #[] #[], .pointer (some ⟨Bm, 0, none⟩)] W fun e W' => (∃ v, e = .returned v) ∧ ∃ ss : List Int, ss.Perm ks ∧ J ss W' := by
 have hf : Fence.wide.fn 110 := trivial
 refine callsIn_of_wp Tryz.func110 rfl hf ?_ rfl
 simp only [Tryz.ntmps110, List.size_toArray, List.length_cons, List.length_nil, Nat.reduceAdd, Nat.reduceSub, Array.replicate_succ, Array.replicate_zero, List.push_toArray, List.append_toArray, List.nil_append, List.cons_append]
 gi_wp2_with (first
  | (gi_at_range; refine wpListIn_range_own _ rfl _ 102 rfl 3 136 (int_keyed ue_W) um_W _ b nn _ rfl hown ?_; intro w0 hrg0 hg0 hs0)
  | gi_in)
 go_frame
 gi_loopw [3] (fun _ wr => ∃ (left : Lit → Bool) (cnt : Nat) (ss : List Int), wr.ranges Tryz.prog 3 Fv b W.heap.size nn D0 left cnt ∧ ss.length + cnt ≤ Maps.size D0 ∧ Coll .i64 ks left ss ∧ J ss wr)
  (fun _ wr => wr.rangeLeft b W.heap.size)
 case atStart =>
  exact ⟨_, _, [], hrg0, by simp, Coll.start hhas, hJ [] W w0 none h0 hg0 (fun r e => by cases e)⟩
 case round =>
  obtain ⟨left, cnt, ss, hrg, hcs, hC, hJs⟩ := hrel
  gi_wp2_with (first
   | (gi_at_next; refine wpListIn_next_ranges _ rfl _ rfl 3 (int_keyed ue_W) Fv (Value.int .i64) id (fun key kl hk => by obtain ⟨x, hx, _⟩ := Nt ue_W hk; exact ⟨x, hx⟩) (fun v _ _ => ⟨v, rfl⟩) b W.heap.size nn _ _ _ rfl hrg ?_ ?_)
   | gi_in)
  ·intro hc0 hl0
   gi_wp2
   go_end0
   exact ⟨⟨_, rfl⟩, ss, hC.perm hks hl0, hJs⟩
  ·intro x c kl yd yp w2 cnt2 hkey hlk hv hat hrg2 hlt hg2 hs2 hen
   obtain ⟨x', ex, rfl⟩ := Nt ue_W hkey
   obtain rfl : x = x' := by simpa using ex
   have hxk : x ∈ ks := (hhas x).1 (has_true_of_atKey hat)
   have hJ2 : J ss w2 := hJ ss wr w2 (some W.heap.size) hJs hg2 (fun r e => by cases e; exact ⟨Nat.le_refl _, hrg.iter_walk⟩)
   obtain ⟨fn, tmps, assign, body, hy, hR⟩ := hY ss x w2 hJ2 (by omega)
   clear hs2
   gi_wp2
   refine hR.mono ?_
   rintro e W3 ⟨rfl, hJ3, hk3⟩
   gi_wp2
   have hrg3 := hrg2.of_walks hk3
   go_roundw
   case rel => exact ⟨_, cnt2, ss ++ [x], hrg3, by simp; omega, hC.step hlk hxk, hJ3⟩
   case measure => rw [hrg3.left_eq, hrg.left_eq]; exact hlt
theorem Afg (n : Nat) (hn : 1 ≤ n) (Bm b nn : Nat) (D0 : DataW Unit) (ks : List Int) (hks : ks.Nodup) (hhas : ∀ x, Maps.has D0 (.int .i64 x) = true ↔ x ∈ ks) (w : World) (hBm : Bm < w.heap.size)
  (hm : w.cell? ⟨Bm, 0, none⟩ = some (.map (some b))) (hown : w.ownsMap Tryz.prog 3 Fv b nn D0) :
  SeqGives Fence.wide n Tryz.prog 110 #[.pointer (some ⟨Bm, 0, none⟩)] (Value.int .i64) (fun ss => ss.Perm ks) (Maps.size D0) w := fun l J W hW hJ hY h0 => by
 have hown' : W.ownsMap Tryz.prog 3 Fv b nn D0 := by
  have hbl := hown.lt
  obtain ⟨es, clock, hb, Ft, hs, hD⟩ := hown
  exact ⟨es, clock, (hW.block b hbl).trans hb, Ft, hs, hD⟩
 exact Ads n hn l Bm b nn D0 ks hks hhas J hY W hJ ((hW.cell (p := ⟨Bm, 0, none⟩) hBm).trans hm) hown' h0
def Ku : Code := (Code.region 2 #[{ dst := some 5, op := Op.assign (Operand.tmp 7), type := 3, pos := "iter.go:51", after := #[], guard := none }] false)
def Pq : Code := (Code.block 1 (Code.region 3 #[{ dst := some 8, op := Op.load 44 (Operand.tmp 2), type := 44, pos := "iter.go:52", after := #[], guard := none }, { dst := some 9, op := Op.move (Operand.tmp 5), type := 3, pos := "iter.go:52", after := #[], guard := none }, { dst := some 10, op := Op.buildSlice 44 1 #[(0, Operand.tmp 9)], type := 44, pos := "iter.go:52", after := #[{ on := 1, ground := Ground.data }], guard := none }, { dst := some 11, op := Op.call { callee := Callee.builtin Builtin.append, args := #[Operand.tmp 8, Operand.tmp 10], argTypes := #[44, 44] }, type := 44, pos := "iter.go:52", after := #[{ on := 0, ground := Ground.data }, { on := 2, ground := Ground.data }], guard := none }, { dst := none, op := Op.store 44 (Operand.tmp 2) (Operand.tmp 11), type := 0, pos := "iter.go:52", after := #[{ on := 3, ground := Ground.data }, { on := 3, ground := Ground.chain }, { on := 0, ground := Ground.phase }, { on := 1, ground := Ground.phase }, { on := 2, ground := Ground.phase }, { on := 3, ground := Ground.phase }], guard := none }] false))
def Ew (fn : FuncId) (sv : Value) (Bs D : Nat) (st : LoopState) (pend : Option Code) : Loop :=
 { state := st, pending := pend, fn, tmps := #[.slice none 0 0, sv, .pointer (some ⟨Bs, 0, none⟩), undef, .slice none 0 0, undef, sv, undef, undef, undef, undef, undef, undef], params := #[7], assign := Ku, body := Pq, defers := D }
structure Pr (w0 : World) (fn : FuncId) (sv : Value) (Bs l D : Nat) (ss : List Int) (W : World) : Prop where
 box : ∃ v, W.heap[Bs]? = some (.cells #[v] 44 (0, 0)) ∧ W.ownsRow w0.heap.size 3 1 v ss.length (ss.map (Value.int .i64))
 L : W.heap[l]? = some (.loop (Ew fn sv Bs D .ready none))
 K : W.heap[D]? = some (.deferred (some []))
 below : Below w0.heap.size w0 W
theorem Vj (w0 : World) (fn : FuncId) (sv : Value) (Bs l D B : Nat) (hB : w0.heap.size ≤ B) : AbidesFrom B (Pr w0 fn sv Bs l D) := fun s W W' row h hg hrow => by
 have hrow' : ∀ r, row = some r → ∃ o : Obj, W.heap[r]? = some o ∧ o.isWalk = true := fun r e => (hrow r e).2
 obtain ⟨v, hv, hr⟩ := h.box
 exact ⟨⟨v, (grownBy_keeps hg hrow' hv rfl).trans hv, Pb hr hg hrow'⟩, (grownBy_keeps hg hrow' h.L rfl).trans h.L, (grownBy_keeps hg hrow' h.K rfl).trans h.K,
  h.below.grown hg h.below.size (fun k e => Nat.le_trans hB (hrow k e).1)⟩
set_option maxRecDepth 100000 in
set_option maxHeartbeats 2000000 in
theorem Yi (m : Nat) (w0 : World) (fn : FuncId) (sv : Value) (Bs l D : Nat) (hBl : Bs ≠ l) (hDl : D ≠ l) (hDB : D ≠ Bs) (h0B : w0.heap.size ≤ Bs) (h0l : w0.heap.size ≤ l)
    (N : Nat) (hN : N ≤ maxLen) (hNb : N * 8 ≤ 140737488355328) (ss : List Int) (x : Int) (W : World) (h : Pr w0 fn sv Bs l D ss W) (hlen : ss.length < N) :
    YieldAt Fence.wide m Tryz.prog l #[.int .i64 x] W fun e W' => e = .returned (.bool true) ∧ Pr w0 fn sv Bs l D (ss ++ [x]) W' ∧ KeepsWalks W W' := by
  have hne : (44 : Nat) ≠ 3 := by decide
  obtain ⟨i0, hi, hz0, hz1, hz2⟩ := info_parts (show (Tryz.prog.info? 3).map (fun i => (i.zero, i.size, i.bytes)) = some (some (.int .i64 0), 1, 8) by kernel_rfl)
  obtain ⟨v, hv, hrow⟩ := h.box
  refine ⟨fn, #[.slice none 0 0, sv, .pointer (some ⟨Bs, 0, none⟩), undef, .slice none 0 0, undef, sv, .int .i64 x, undef, undef, undef, undef, undef], Ku, Pq, by simpa [Ew] using run_yield (P := Tryz.prog) (args := #[.int .i64 x]) h.L rfl, roundIn_of_wpIn trivial ?_⟩
  have hl : l < W.heap.size := (Array.getElem?_eq_some_iff.1 h.L).1
  have hbr := run_beginRound (P := Tryz.prog) h.L rfl
  obtain ⟨W2, hW2⟩ : ∃ W2, W.putObj l (.loop { Ew fn sv Bs D .ready none with state := .busy }) = W2 := ⟨_, rfl⟩
  rw [hW2] at hbr
  have hg2 : W.grownBy W2 (some l) := by rw [← hW2]; exact Cq _ _ _
  have hk2 : KeepsWalks W W2 := by rw [← hW2]; exact KeepsWalks.putObj _ h.L rfl
  have hv2 : W2.heap[Bs]? = some (.cells #[v] 44 (0, 0)) := by rw [← hW2]; exact (World.putObj_heap_other hBl).trans hv
  have hK2 : W2.heap[D]? = some (.deferred (some [])) := by rw [← hW2]; exact (World.putObj_heap_other hDl).trans h.K
  have hL2 : W2.heap[l]? = some (.loop { Ew fn sv Bs D .ready none with state := .busy }) := by rw [← hW2]; exact World.putObj_heap_same hl
  have hrow2 : W2.ownsRow w0.heap.size 3 1 v ss.length (ss.map (Value.int .i64)) := hrow.kept hg2 (Cr hrow h.L (fun cur e => by first | cases e | exact hne (Obj.cells.inj e).2.1))
  have hb2 : Below w0.heap.size w0 W2 := h.below.grown hg2 h.below.size (fun k e => by cases e; exact h0l)
  obtain ⟨hc2, hf2⟩ := Hn hv2
  have hBlt : Bs < W2.heap.size := (Array.getElem?_eq_some_iff.1 hv2).1
  have hl2 : l < W2.heap.size := (Array.getElem?_eq_some_iff.1 hL2).1
  have hDlt : D < W2.heap.size := (Array.getElem?_eq_some_iff.1 hK2).1
  have ne_of : ∀ {j : Nat} {o : Obj}, W2.heap[j]? = some o → (∀ cur, o ≠ .cells cur 3 (0, 0)) → some j ≠ v.ownBlock := fun hj hno => by
    rcases Cr hrow2 hj hno with e | e
    · rw [e]; simp
    · exact fun e' => e e'.symm
  clear hW2
  unfold Ku
  gi_wp2_with ((rw [Oper.semAt_eq _ _ _ (fun c h => by cases h)]; go_simp; try go_bits))
  unfold Pq
  gi_wp2_with (first
    | (gi_at_builtin; refine wpListIn_append_own _ rfl _ _ 44 rfl w0.heap.size 3 i0 (.int .i64 0) 1 8 us_W hi hz0 hz1 hz2 rfl (by decide) _ _ _ rfl (hrow2.alloc _) ⟨W2.heap.size, 0, none⟩ 1 1 [.int .i64 x] rfl rfl (cell_one_new _ _ _) (by simp [Value.oneCell']) (by omega) (by omega) (by have := hb2.size; simp; omega) ?_; intro v' w3 hown' hg3 hnil3
       have hv3 : w3.heap[Bs]? = some (.cells #[v] 44 (0, 0)) := (hg3.block Bs (by simp; omega) (ne_of hv2 (fun cur e => by first | cases e | exact hne (Obj.cells.inj e).2.1))).trans ((Below.heap_alloc _ _ Bs hBlt).trans hv2)
       obtain ⟨hc3, hf3⟩ := Hn hv3
       obtain ⟨g', cap', cur', rfl, hbase', hgb', hr1, hr2, hr3, hr4⟩ : ∃ g' cap' cur', v' = .slice (some ⟨g', 0, none⟩) (ss.length + 1) cap' ∧ w0.heap.size ≤ g' ∧ w3.heap[g']? = some (.cells cur' 3 (0, 0)) ∧ ss.length + 1 ≤ cap' ∧ cap' ≤ maxLen ∧ cur'.size = cap' * 1 ∧ cur'.toList.take ((ss.length + 1) * 1) = ss.map (Value.int .i64) ++ [.int .i64 x] := by
         rcases hown'.2 with ⟨_, h0⟩ | h'
         · exact absurd h0 (by omega)
         · exact h'
       go_frame)
    | (rw [Oper.semAt_eq _ _ _ (fun c h => by cases h)]; go_simp; try go_bits))
  have hg3' : (W2.alloc (.cells #[.int .i64 x] 3)).grownBy w3 v.ownBlock := hg3
  have hL3 : w3.heap[l]? = some (.loop { Ew fn sv Bs D .ready none with state := .busy }) := (hg3'.block l (by simp; omega) (ne_of hL2 (fun cur e => by first | cases e | exact hne (Obj.cells.inj e).2.1))).trans ((Below.heap_alloc _ _ l hl2).trans hL2)
  have hK3 : w3.heap[D]? = some (.deferred (some [])) := (hg3'.block D (by simp; omega) (ne_of hK2 (fun cur e => by first | cases e | exact hne (Obj.cells.inj e).2.1))).trans ((Below.heap_alloc _ _ D hDlt).trans hK2)
  obtain ⟨w4, hw4⟩ : ∃ w4, w3.setCell ⟨Bs, 0, none⟩ (.slice (some ⟨g', 0, none⟩) (ss.length + 1) cap') = w4 := ⟨_, rfl⟩
  rw [hw4]
  have hg4 : w3.grownBy w4 (some Bs) := by rw [← hw4]; exact O9 _ _ _
  have hv4 : w4.heap[Bs]? = some (.cells #[.slice (some ⟨g', 0, none⟩) (ss.length + 1) cap'] 44 (0, 0)) := by rw [← hw4]; exact Wr _ hv3
  have hL4 : w4.heap[l]? = some (.loop { Ew fn sv Bs D .ready none with state := .busy }) := (hg4.block l (Array.getElem?_eq_some_iff.1 hL3).1 (fun e => hBl (by cases e; rfl))).trans hL3
  have hK4 : w4.heap[D]? = some (.deferred (some [])) := (hg4.block D (Array.getElem?_eq_some_iff.1 hK3).1 (fun e => hDB (by cases e; rfl))).trans hK3
  have hrow4 := hown'.kept hg4 (Cr hown' hv3 (fun cur e => by first | cases e | exact hne (Obj.cells.inj e).2.1))
  have hl4 : l < w4.heap.size := (Array.getElem?_eq_some_iff.1 hL4).1
  have hb3 : Below w0.heap.size w0 w3 := (hb2.alloc hb2.size _).grown hg3' (by have := hb2.size; simp; omega) (fun k e => (hrow2.lt k e).1)
  have hb4 : Below w0.heap.size w0 w4 := hb3.grown hg4 hb3.size (fun k e => by cases e; exact h0B)
  have hk4 : KeepsWalks W w4 := ((hk2.trans (KeepsWalks.alloc _ _)).trans (KeepsWalks.of_grownBy hg3' (Qx (hrow2.alloc _)))).trans (by rw [← hw4]; exact KeepsWalks.setCell _ _ _)
  clear hw4
  refine ⟨_, _, run_endRound none hL4, rfl, ⟨⟨_, (World.putObj_heap_other hBl).trans hv4, ?_⟩, World.putObj_heap_same hl4, (World.putObj_heap_other hDl).trans hK4, hb4.grown (Cq _ _ _) hb4.size (fun k e => by cases e; exact h0l)⟩, hk4.trans (KeepsWalks.putObj _ hL4 rfl)⟩
  have := hrow4.kept (Cq w4 l (.loop { { Ew fn sv Bs D .ready none with state := .busy } with state := if (none : Option Code).isNone then .ready else .done, pending := none })) (Cr hrow4 hL4 (fun cur e => by first | cases e | exact hne (Obj.cells.inj e).2.1))
  simpa using this
set_option maxRecDepth 100000 in
set_option maxHeartbeats 2000000 in
theorem Abk (n : Nat) (hn : 2 ≤ n) (lb : Array Value) (S : List Int → Prop) (N : Nat) (hN : N ≤ maxLen) (hNb : N * 8 ≤ 140737488355328) (w : World) (hseq : SeqGives Fence.wide (n - 1) Tryz.prog 110 lb (Value.int .i64) S N w) :
    CallsIn Fence.wide n Tryz.prog 130 #[.slice none 0 0, .func (.func 110) #[] lb] w fun e w' => ∃ (v : Value) (ss : List Int), e = .returned v ∧ S ss ∧ w'.ownsRow w.heap.size 3 1 v ss.length (ss.map (Value.int .i64)) ∧ Below w.heap.size w w' := by
  have h1 : 1 ≤ n := by omega
  have hne : (44 : Nat) ≠ 3 := by decide
  have hf : Fence.wide.fn 130 := trivial
  refine callsIn_of_wp_marks Tryz.func130 rfl hf ?_ rfl
  simp only [Tryz.ntmps130, List.size_toArray, List.length_cons, List.length_nil, Nat.reduceAdd, Nat.reduceSub, Array.replicate_succ, Array.replicate_zero, List.push_toArray, List.append_toArray, List.nil_append, List.cons_append]
  gi_wp2
  refine wpIn_rangeFunc ?_
  intro fn hfn
  obtain ⟨W0, hW0⟩ : ∃ W0, w.alloc (.cells #[.slice none 0 0] 44) = W0 := ⟨_, rfl⟩
  have hs0 : W0.heap.size = w.heap.size + 1 := by rw [← hW0]; simp
  have hv0 : W0.heap[w.heap.size]? = some (.cells #[.slice none 0 0] 44 (0, 0)) := by rw [← hW0]; exact World.alloc_heap_new w _
  have hb0 : Below w.heap.size w W0 := by rw [← hW0]; exact (Below.refl _ w).alloc (Nat.le_refl _) _
  rw [hW0]
  obtain ⟨W1, hW1⟩ : ∃ W1, (W0.alloc (.deferred (some []))).alloc (.loop (Ew fn (.func (.func 110) #[] lb) w.heap.size W0.heap.size .ready none)) = W1 := ⟨_, rfl⟩
  have hold : ∀ k, k < W0.heap.size → W1.heap[k]? = W0.heap[k]? := fun k hk => by
    rw [← hW1]; exact (Below.heap_alloc _ _ k (by simp; omega)).trans (Below.heap_alloc _ _ k hk)
  have hb1 : Below w.heap.size w W1 := by rw [← hW1]; exact (hb0.alloc hb0.size _).alloc (by have := hb0.size; simp; omega) _
  have hs1 : W1.heap.size = W0.heap.size + 2 := by rw [← hW1]; simp
  have hM : Pr w fn (.func (.func 110) #[] lb) w.heap.size (W0.heap.size + 1) W0.heap.size [] W1 :=
    ⟨⟨_, (hold w.heap.size (by omega)).trans hv0, ⟨rfl, .inl ⟨rfl, rfl⟩⟩⟩,
     by rw [← hW1]; have := World.alloc_heap_new (W0.alloc (.deferred (some []))) (.loop (Ew fn (.func (.func 110) #[] lb) w.heap.size W0.heap.size .ready none)); rwa [World.size_alloc] at this,
     by rw [← hW1]; exact (Below.heap_alloc _ _ _ (by simp)).trans (World.alloc_heap_new W0 _), hb1⟩
  refine ⟨W0.heap.size + 1, [{ target := .collected W0.heap.size, args := #[] }], W1, { target := .fn (.func 110) lb, args := #[.func (.yield (W0.heap.size + 1)) #[] #[]] }, W1, 110,
    #[.func (.yield (W0.heap.size + 1)) #[] #[]] ++ lb, W1, ?_, ?_, ?_, ?_, fun _ => h1, ?_⟩
  · rw [← hW1]; exact run_enterLoop_outer _ _ _ _ _
  · simp [resolve, go_sem]
  · intro f' hf'; trivial
  · simp [invoke, go_sem, Ek (P := Tryz.prog) (g := 110) ⟨_, Tryz.func110, by kernel_rfl, by kernel_rfl⟩]
  · refine (hseq (W0.heap.size + 1) (Pr w fn (.func (.func 110) #[] lb) w.heap.size (W0.heap.size + 1) W0.heap.size) W1 hb1 (Vj _ _ _ _ _ _ _ hb1.size)
      (fun pre x W hJ hl => Yi (n - 1 - 1) w fn _ w.heap.size (W0.heap.size + 1) W0.heap.size (by omega) (by omega) (by omega) (Nat.le_refl _) (by omega) N hN hNb pre x W hJ hl) hM).mono ?_
    rintro e W2 ⟨⟨v0, rfl⟩, ss, hS, h2⟩
    obtain ⟨v, hv, hrow⟩ := h2.box
    have hend := run_endLoop (P := Tryz.prog) h2.L (by simp [Ew])
    obtain ⟨W3, hW3⟩ : ∃ W3, W2.putObj (W0.heap.size + 1) (.loop { Ew fn (.func (.func 110) #[] lb) w.heap.size W0.heap.size .ready none with state := .exhausted }) = W3 := ⟨_, rfl⟩
    rw [hW3] at hend
    have hg3 : W2.grownBy W3 (some (W0.heap.size + 1)) := by rw [← hW3]; exact Cq _ _ _
    have hv3 : W3.heap[w.heap.size]? = some (.cells #[v] 44 (0, 0)) := by rw [← hW3]; exact (World.putObj_heap_other (by omega)).trans hv
    have hK3 : W3.heap[W0.heap.size]? = some (.deferred (some [])) := by rw [← hW3]; exact (World.putObj_heap_other (by omega)).trans h2.K
    have hrow3 := hrow.kept hg3 (Cr hrow h2.L (fun cur e => by first | cases e | exact hne (Obj.cells.inj e).2.1))
    have hb3 : Below w.heap.size w W3 := h2.below.grown hg3 h2.below.size (fun k e => by cases e; omega)
    obtain ⟨hc3, hf3⟩ := Hn hv3
    clear hW3
    refine ⟨none, W3, hend, ?_⟩
    gi_wp2
    rw [← hs0]
    refine ⟨by simp, .inl ⟨_, _, rfl, run_takeDeferred hK3, ?_⟩⟩
    exact ⟨_, results_tmp rfl _ _ _, v, ss, rfl, hS, hrow3.kept (Cq _ _ _) (Cr hrow3 hK3 (fun cur e => by first | cases e | exact hne (Obj.cells.inj e).2.1)), hb3.grown (Cq _ _ _) hb3.size (fun k e => by cases e; omega)⟩
theorem Yj {b : Nat} {w : World} : Aa Tryz.prog 59 [.map (some b)] w (Rets fun v w' => ∃ g, v = .func (.func 110) #[] #[.pointer (some ⟨g, 0, none⟩)] ∧ Ag w w' g (.cells #[.map (some b)] 102)) := by
 refine sx59.ok ?_
 unfold sx59
 exact fun b1 w2 hal => ⟨_, rfl, b1, rfl, hal⟩
def Abl (w : World) (ks : List Int) (v : Value) (w' : World) : Prop := ∃ ss, ss.Perm ks ∧ Dk w 3 (Enc.int .i64) ss v w'
theorem Abm {α : Type} {F : α → Value} {m : List (Int × α)} {Bm b : Nat} {w : World} (hc : w.cell? ⟨Bm, 0, none⟩ = some (.map (some b))) (h : Av w b .i64 F m) (hb : m.length * 8 ≤ 140737488355328) :
  Aa Tryz.prog 130 [.slice none 0 0, .func (.func 110) #[] #[.pointer (some ⟨Bm, 0, none⟩)]] w (Rets (Abl w (m.map (·.1)))) := by
 refine Aa.of_calls ⟨_, Tryz.func130, by kernel_rfl, by kernel_rfl⟩ fun w₀ hw => ?_
 have hmax : m.length ≤ maxLen := by simp only [maxLen]; omega
 obtain ⟨D, hown, hhas, hsz⟩ := Wq ue_W h hw hmax
 have hc₀ := (hw.cell hc).1
 have hlt : Bm < w₀.heap.size := World.block_lt_of_cell? w₀ _ hc₀
 refine ((callsIn_wide (n := 3)).1 (Abk 3 (by decide) #[.pointer (some ⟨Bm, 0, none⟩)] _ _ (by omega) (by omega) w₀ (Afg 2 (by decide) Bm b m.length D (m.map (·.1)) h.nodup hhas w₀ hlt hc₀ hown))).mono ?_
 rintro e w₀' ⟨v, ss, rfl, hp, hrow, hbl⟩
 obtain ⟨a, n, c, rfl, ho⟩ := O8 hw hrow
 exact ⟨hbl, fun hg => ⟨_, rfl, ss, hp, a, n, c, rfl, ho, hg⟩⟩
theorem Abn {α : Type} {F : α → Value} {m : List (Int × α)} {Bm b : Nat} {w : World} (hc : w.cell? ⟨Bm, 0, none⟩ = some (.map (some b))) (h : Av w b .i64 F m) (hb : m.length * 8 ≤ 140737488355328) :
  Aa Tryz.prog 108 [.func (.func 110) #[] #[.pointer (some ⟨Bm, 0, none⟩)]] w (Rets (Abl w (m.map (·.1)))) := by
 refine sx108.ok (seq_c := [.pointer (some ⟨Bm, 0, none⟩)]) ?_
 unfold sx108
 refine (Abm hc h hb).use fun v w1 ⟨ss, hp, a, n, c, hv, ho, hg⟩ => ?_
 subst hv
 exact ⟨_, _, _, rfl, _, rfl, ss, hp, a, n, c, rfl, ho, hg⟩
theorem Tr {α : Type} {F : α → Value} {m : List (Int × α)} {Bm b : Nat} {w : World} (hc : w.cell? ⟨Bm, 0, none⟩ = some (.map (some b))) (h : Av w b .i64 F m) (hb : m.length * 8 ≤ 140737488355328) :
  Aa Tryz.prog 58 [.func (.func 110) #[] #[.pointer (some ⟨Bm, 0, none⟩)]] w (Rets (Dk w 3 (Enc.int .i64) (B3 (m.map (·.1))))) := by
 refine sx58.ok (seq_c := [.pointer (some ⟨Bm, 0, none⟩)]) ?_
 unfold sx58
 refine (Abn hc h hb).use fun v w1 ⟨ss, hp, a, n, c, hv, ho, hg⟩ => ?_
 subst hv
 have hl : ss.length = m.length := by have := hp.length_eq; simpa using this
 refine ⟨_, _, _, rfl, (Yh ho (by omega)).use fun v w2 ⟨hv, ho2, hu2⟩ => ⟨hv, _, rfl, a, n, c, rfl, ?_, hg.then_own hu2 fun b hb => (ho.blk hb).1⟩⟩
 rw [Ki hp] at ho2
 exact ho2
end Go.Proofs.YtcpkneemhfnanaaGreat
