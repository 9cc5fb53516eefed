/- The reference's worker: what it sends for MsgGo. Conditions: none. -/
import Derived.Test.YtcpkneemhfnanaaGreatProg
import Derived.Test.YtcpkneemhfnanaaGreatRWorkA
namespace Go.Proofs.YtcpkneemhfnanaaGreat
open Go.Sx
set_option maxRecDepth 100000
set_option linter.unusedVariables false
set_option linter.unusedSimpArgs false
def sx50 (d : Nat) (i_0 i_1 i_2 i_3 i_4 i_5 : Int) (i_6 : Option Addr) (i_6_n i_6_c : Nat) (i_7 : Option Addr) (i_7_n i_7_c : Nat) (i_8 : Option Addr) (i_8_n i_8_c : Nat) (R : Ending → World → Prop) (w : World) : Prop :=
  ∀ w1, Grew w w1 → Aa Tryz.prog 102 [.pointer (some ⟨d, 0, none⟩), .agg #[.int .i64 i_0, .int .i64 i_1, .int .i64 i_2, .int .i64 i_3, .int .i64 i_4, .int .i64 i_5, .slice i_6 i_6_n i_6_c, .slice i_7 i_7_n i_7_c, .slice i_8 i_8_n i_8_c]] w1 (RetR R fun u3 w2 => ∃ n4, u3 = .int .i64 n4 ∧ ∀ w6, Grew w2 w6 → ifB (decide (n4 < 0)) (R (.returned (.slice none 0 0)) w6) (∃ a7 l7 c7, w6.cell? ⟨d, 9, none⟩ = some (.slice a7 l7 c7) ∧ Ab a7 (fun d8 => (0 ≤ n4 ∧ n4 < (l7 : Nat)) ∧ ∃ b9, w6.cell? (Addr.add (Addr.add d8 (n4.toNat * 6)) 4) = some (.bool b9) ∧ ifB b9 (R (.returned (.slice none 0 0)) w6) (∃ a10 l10 c10, w6.cell? ⟨d, 9, none⟩ = some (.slice a10 l10 c10) ∧ Ab a10 (fun d11 => (0 ≤ n4 ∧ n4 < (l10 : Nat)) ∧ ∃ a12 l12 c12, w6.cell? (Addr.add (Addr.add d11 (n4.toNat * 6)) 2) = some (.slice a12 l12 c12) ∧ Aa Tryz.prog 103 [.slice a12 l12 c12, .slice i_6 i_6_n i_6_c] w6 (RetR R fun u14 w13 => ∃ b15, u14 = .bool b15 ∧ Ad w6 w13 [(Addr.add (Addr.add d11 (n4.toNat * 6)) 2), ⟨d, 9, none⟩, (Addr.add (Addr.add d8 (n4.toNat * 6)) 4), ⟨d, 9, none⟩] ∧ ifB (!b15) (R (.returned (.slice none 0 0)) w13) (∃ a17 l17 c17, w13.cell? ⟨d, 9, none⟩ = some (.slice a17 l17 c17) ∧ Ab a17 (fun d18 => (0 ≤ n4 ∧ n4 < (l17 : Nat)) ∧ Af w13 (Addr.add (Addr.add d18 (n4.toNat * 6)) 4) 0 [.bool true] ∧ ∀ w19, w19 = setCells w13 (Addr.add (Addr.add d18 (n4.toNat * 6)) 4) 0 [.bool true] → ∀ b20 w21, Ag w19 w21 b20 (.cells #[] 48) → ∃ (I22 : Option Addr → Nat → Nat → Int → World → Prop) (m22 : Option Addr → Nat → Nat → Int → World → Nat), I22 (some ⟨b20, 0, none⟩) 0 0 0 w21 ∧ ∀ a23 l23 c23 n24 w25, I22 a23 l23 c23 n24 w25 → ∃ n26, w25.cell? ⟨d, 1, none⟩ = some (.int .i64 n26) ∧ ifB (decide (n24 < n26)) (∀ w27, Grew w25 w27 → ∃ n28, w27.cell? ⟨d, 2, none⟩ = some (.int .i64 n28) ∧ ∀ n29 : Int, n29 = IntKind.i64.wrap ((1 : Int) + n28) → ∀ n30 : Int, n30 = IntKind.i64.wrap (n29 + n24) → ((Aa Tryz.prog 101 [.pointer (some ⟨d, 0, none⟩), .int .i64 4, .int .i64 n30, .agg #[.int .i64 i_0, .int .i64 i_1, .int .i64 i_2, .int .i64 i_3, .int .i64 i_4, .int .i64 i_5, .slice i_6 i_6_n i_6_c, .slice i_7 i_7_n i_7_c, .slice i_8 i_8_n i_8_c]] w27 (RetR R fun u32 w31 => ∃ n33 n34 n35 n36 n37 n38 a39 l39 c39 a40 l40 c40 a41 l41 c41, u32 = .agg #[.int .i64 n33, .int .i64 n34, .int .i64 n35, .int .i64 n36, .int .i64 n37, .int .i64 n38, .slice a39 l39 c39, .slice a40 l40 c40, .slice a41 l41 c41] ∧ Ad w27 w31 [⟨d, 2, none⟩] ∧ ∀ w43, Grew w31 w43 → Ad w31 w43 [⟨d, 2, none⟩] ∧ ∃ a44 l44 c44, w43.cell? ⟨d, 9, none⟩ = some (.slice a44 l44 c44) ∧ Ab a44 (fun d45 => (0 ≤ n4 ∧ n4 < (l44 : Nat)) ∧ ∃ a46 l46 c46, w43.cell? (Addr.add (Addr.add d45 (n4.toNat * 6)) 3) = some (.slice a46 l46 c46) ∧ Ab a46 (fun d47 => (0 ≤ n24 ∧ n24 < (l46 : Nat)) ∧ ∃ a48 l48 c48, w43.cell? (Addr.add d47 (n24.toNat * 1)) = some (.slice a48 l48 c48) ∧ Aa Tryz.prog 104 [.slice a48 l48 c48] w43 (RetR R fun u50 w49 => ∃ a51 l51 c51, u50 = .slice a51 l51 c51 ∧ ∀ b53 w54, Ag w49 w54 b53
 (.cells #[.int .i64 n33, .int .i64 n34, .int .i64 n35, .int .i64 n36, .int .i64 n37, .int .i64 n38, .slice a39 l39 c39, .slice a51 l51 c51, .slice a41 l41 c41] 48) → SemW Tryz.prog (Builtin.append_ #[51, 51] 51 #[.slice a23 l23 c23, .slice (some ⟨b53, 0, none⟩) 1 1]) (fun u56 w55 => ∃ a57 l57 c57, u56 = .slice a57 l57 c57 ∧ (I22 a57 l57 c57 (IntKind.i64.wrap (n24 + 1)) w55 ∧ m22 a57 l57 c57 (IntKind.i64.wrap (n24 + 1)) w55 < m22 a23 l23 c23 n24 w25)) w54))))) ∧ (∀ w58, Grew w27 w58 → Ad w27 w58 [⟨d, 2, none⟩] ∧ Aa Tryz.prog 101 [.pointer (some ⟨d, 0, none⟩), .int .i64 4, .int .i64 n30, .agg #[.int .i64 i_0, .int .i64 i_1, .int .i64 i_2, .int .i64 i_3, .int .i64 i_4, .int .i64 i_5, .slice i_6 i_6_n i_6_c, .slice i_7 i_7_n i_7_c, .slice i_8 i_8_n i_8_c]] w58 (RetR R fun u60 w59 => ∃ n61 n62 n63 n64 n65 n66 a67 l67 c67 a68 l68 c68 a69 l69 c69, u60 = .agg #[.int .i64 n61, .int .i64 n62, .int .i64 n63, .int .i64 n64, .int .i64 n65, .int .i64 n66, .slice a67 l67 c67, .slice a68 l68 c68, .slice a69 l69 c69] ∧ Ad w58 w59 [⟨d, 2, none⟩] ∧ ∃ a71 l71 c71, w59.cell? ⟨d, 9, none⟩ = some (.slice a71 l71 c71) ∧ Ab a71 (fun d72 => (0 ≤ n4 ∧ n4 < (l71 : Nat)) ∧ ∃ a73 l73 c73, w59.cell? (Addr.add (Addr.add d72 (n4.toNat * 6)) 3) = some (.slice a73 l73 c73) ∧ Ab a73 (fun d74 => (0 ≤ n24 ∧ n24 < (l73 : Nat)) ∧ ∃ a75 l75 c75, w59.cell? (Addr.add d74 (n24.toNat * 1)) = some (.slice a75 l75 c75) ∧ Aa Tryz.prog 104 [.slice a75 l75 c75] w59 (RetR R fun u77 w76 => ∃ a78 l78 c78, u77 = .slice a78 l78 c78 ∧ ∀ b80 w81, Ag w76 w81 b80 (.cells #[.int .i64 n61, .int .i64 n62, .int .i64 n63, .int .i64 n64, .int .i64 n65, .int .i64 n66, .slice a67 l67 c67, .slice a78 l78 c78, .slice a69 l69 c69] 48) → SemW Tryz.prog (Builtin.append_ #[51, 51] 51 #[.slice a23 l23 c23, .slice (some ⟨b80, 0, none⟩) 1 1]) (fun u83 w82 => ∃ a84 l84 c84, u83 = .slice a84 l84 c84 ∧ (I22 a84 l84 c84 (IntKind.i64.wrap (n24 + 1)) w82 ∧ m22 a84 l84 c84 (IntKind.i64.wrap (n24 + 1)) w82 < m22 a23 l23 c23 n24 w25)) w81))))))) (R (.returned (.slice a23 l23 c23)) w25)))))))))
theorem sx50.ok {d : Nat} {i_0 i_1 i_2 i_3 i_4 i_5 : Int} {i_6 : Option Addr} {i_6_n i_6_c : Nat} {i_7 : Option Addr} {i_7_n i_7_c : Nat} {i_8 : Option Addr} {i_8_n i_8_c : Nat} {R : Ending → World → Prop} {w : World} (h : sx50 d i_0 i_1 i_2 i_3 i_4 i_5 i_6 i_6_n i_6_c i_7 i_7_n i_7_c i_8 i_8_n i_8_c R w) : Aa Tryz.prog 50 [.pointer (some ⟨d, 0, none⟩), .agg #[.int .i64 i_0, .int .i64 i_1, .int .i64 i_2, .int .i64 i_3, .int .i64 i_4, .int .i64 i_5, .slice i_6 i_6_n i_6_c, .slice i_7 i_7_n i_7_c, .slice i_8 i_8_n i_8_c]] w R :=
 okOf { locals := [3, 8], sem := [82], named := [61, 63], draws := [(2, { order := (ol [0,1,2,3,4,5,6,7,8,9,10,11,12,13,14,15,16,17,18,19,20,21,22,23,24,25] .nil), bars := [] }), (9, { order := (ol [0,1,2,3,4,5,6,7,8,9] (.alt (ol [10,11,12] .nil) (ol [11,10,12] .nil))), bars := [12] })], loops := [(7, { slots := [(6, .slice), (7, .int .i64)], cells := [] })] } mix Tryz.func50 (by kernel_rfl) (by kernel_rfl) (by kernel_rfl) h
def Kx (w : World) (B : Nat) (X : An) (V' : Ac) (ms : List MsgV) (a : Option Addr) (n c : Nat) (w' : World) : Prop := ∃ X' xs, RWM w B X w' X' V' ∧ Ba w' w.heap.size a n c xs ∧ xs.map (·.c) = ms
theorem Gp {w w1 w' : World} {B : Nat} {X X' : An} {V' : Ac} {ms : List MsgV} {a : Option Addr} {n c : Nat} {xs : List Msg} (hM : RWM w B X w1 X' V') (hg : Grew w1 w') (hO : Ba w' w1.heap.size a n c xs) (hc : xs.map (·.c) = ms) : Kx w B X V' ms a n c w' :=
 ⟨X', xs, hM.more hg, hO.base hM.upd.size, hc⟩
theorem Fa {w w' : World} {B : Nat} {X : An} {V : Ac} (h : RWA w B X V) (hg : Grew w w') : Kx w B X V [] none 0 0 w' := Gp (Bj.still h (Grew.refl w)) hg (Ba.nil _ _) rfl
theorem Kx.pre {w0 w w' : World} {B : Nat} {X : An} {V' : Ac} {ms : List MsgV} {a : Option Addr} {n c : Nat} (h : Kx w B X V' ms a n c w') (hg : Grew w0 w) : Kx w0 B X V' ms a n c w' := by
 obtain ⟨X', xs, h1, h2, h3⟩ := h
 exact ⟨X', xs, h1.pre hg, h2.base hg.size, h3⟩
def Rj (w : World) (B : Nat) (X : An) (r : Ac × List MsgV) (u : Value) (w' : World) : Prop := ∃ a n c, u = .slice a n c ∧ Kx w B X r.1 r.2 a n c w'
theorem Ae0 {w : World} {d : Addr} {k : Nat} {x : Sl3} (h : Ae w (d.add (k * Enc.slice.sz)) 0 (Enc.slice.f x)) : w.cell? (Addr.add d (((k : Nat) : Int).toNat * 1)) = some (.slice x.1 x.2.1 x.2.2) := by
 have := Ai h 0 _ rfl
 simpa [Enc.slice, Addr.add_zero'] using this
theorem Mp {w : World} {B : Nat} {x : A7} {p : Bd} {a : AttV} {kk : Int} (h : Bo rwT w B x) (hx : x.c = Cd p kk a) (hok : a.Ok p) {k : Nat} (hk : k < p.stores.toNat) :
  ∃ (d : Addr) (s : Sl3) (pl : List Am), x.d.1 = some d ∧ w.cell? (Addr.add d (((k : Nat) : Int).toNat * 1)) = some (.slice s.1 s.2.1 s.2.2) ∧ a.pairs[k]? = some pl ∧ Own w B 83 Enc.pair s.1 s.2.1 s.2.2 pl ∧ (k < x.d.2.1) := by
 have hdl : x.c.deal = a.pairs := by rw [hx]; rfl
 have hlen : x.ds.length = p.stores.toNat := by rw [h.deal.len, hdl, hok.num]
 obtain ⟨d, s, hd, hs, hc⟩ := h.dl.reads.at0 (k := k) (by have := h.dl.len; omega)
 obtain ⟨pl, hpl⟩ : ∃ pl, a.pairs[k]? = some pl := ⟨_, List.getElem?_eq_getElem (show k < a.pairs.length by rw [hok.num]; exact hk)⟩
 exact ⟨d, s, pl, hd, Ae0 hc, hpl, h.deal.own k s pl hs (by rw [hdl]; exact hpl), by rw [h.dl.len]; omega⟩
set_option maxHeartbeats 2000000 in
theorem Ue {w : World} {B : Nat} {X : An} {V : Ac} {m : Msg} (h : RWA w B X V) (hm : m.At w) :
  Aa Tryz.prog 50 [.pointer (some ⟨X.q, 0, none⟩), m.val] w (Rets (Rj w B X (V.begin m.c))) := by
 refine sx50.ok ?_
 unfold sx50
 have hG := h.ok.good
 have hSt := hG.stores; have hWk := hG.workers
 intro w1 hg1
 refine (Uc (m := m) (h.grew hg1)).use fun u w2 ⟨hg2, hc⟩ => ?_
 have hg2 := hg1.trans hg2
 rcases hc with ⟨hf, rfl⟩ | ⟨i, x, a, rfl, hx, hxb, ha, hf, hxc⟩
 ·refine ⟨_, rfl, fun w6 hg6 => ⟨fun _ => ⟨_, rfl, none, 0, 0, rfl, ?_⟩, fun h => (by simp at h)⟩⟩
  have : V.begin m.c = (V, []) := by unfold Ac.begin; rw [hf]
  rw [this]; exact Fa h (hg2.trans hg6)
 refine ⟨_, rfl, fun w6 hg6 => ⟨fun h => (by simp at h; omega), fun _ => ?_⟩⟩
 have hg6 := hg2.trans hg6
 have h6 := h.grew hg6
 have hok := h.ok.atts _ (Cm ha)
 have hE4 : a.ends.length ≤ 4 := hok.ends.1
 have hxm := List.mem_of_getElem? hx
 have hil := (List.getElem?_eq_some_iff.1 hx).1
 have hb : V.begin m.c = if a.begun = true ∨ a.ends ≠ m.c.ends then (V, []) else (V.setA m.c.batch { a with begun := true }, (List.range V.plan.stores.toNat).map (V.begins m.c a)) := by unfold Ac.begin; rw [hf]
 have hll := h6.list.len
 obtain ⟨d, y, hd, hy, hyc⟩ := h6.list.reads.at0 (k := i) (by omega)
 rw [hx] at hy; cases hy
 obtain ⟨c0, c1, c2, c3, c4, c5⟩ := C9 hyc
 have e1 : x.c.begun = a.begun := by rw [hxc]; rfl
 have e2 : x.c.ends = a.ends := by rw [hxc]; rfl
 have bd : (0 : Int) ≤ (i : Int) ∧ (i : Int) < ((X.l.2.1 : Nat) : Int) := by omega
 have lt9 := World.block_lt_of_cell? w6 _ (Cf h6)
 have lt4 := World.block_lt_of_cell? w6 _ c4
 have lt2 := World.block_lt_of_cell? w6 _ c2
 have hl6 := Cf h6
 rw [hd] at hl6
 refine ⟨_, _, _, hl6, ?_⟩
 rw [Ab]
 refine ⟨bd, _, c4, fun hbt => ?_, fun hbf => ⟨_, _, _, hl6, ?_⟩⟩
 ·rw [hb, if_pos (.inl (by rw [← e1]; exact hbt))]
  exact ⟨_, rfl, none, 0, 0, rfl, Fa h hg6⟩
 have hH6 := h6.each x hxm
 have hEnds := hH6.ends.reads
 rw [e2] at hEnds
 rw [Ab]
 refine ⟨bd, _, _, _, c2, (Aca hEnds (hm.grew hg6).e (by omega)).use fun u w13 ⟨hv, hg13⟩ => ?_⟩
 subst hv
 have hg13' := hg6.trans hg13
 refine ⟨_, rfl, ⟨hg13.block _ lt2, hg13.block _ lt9, hg13.block _ lt4, hg13.block _ lt9, trivial⟩, fun hne => ?_, fun heq => ?_⟩
 ·rw [hb, if_pos (.inr (by simpa using hne))]
  exact ⟨_, rfl, none, 0, 0, rfl, Fa h hg13'⟩
 have hee : a.ends = m.c.ends := by simpa using heq
 rw [hb, if_neg (by rw [e1] at hbf; simp [hbf, hee])]
 have h13 := h.grew hg13'
 obtain ⟨g, hg, hroom, hM⟩ := h13.mark Lt hx hxb ha
 have hl13 := Cf h13
 rw [hg] at hl13
 refine ⟨_, _, _, hl13, ?_⟩
 rw [Ab, Au, Au, Nat.zero_add, Int.toNat_natCast]
 refine ⟨bd, hroom, ?_⟩
 rintro w19 rfl
 have hM0 := hM.pre hg13'
 generalize setCells w13 ⟨g, i * 6 + 4, none⟩ 0 [.bool true] = w19 at hM hM0
 obtain ⟨x', hx'd⟩ : ∃ x' : A7, x' = { x with c := { x.c with begun := true } } := ⟨_, rfl⟩
 rw [← hx'd] at hM hM0
 have hx' : (X.setH i x').hs[i]? = some x' := by show (X.hs.set i x')[i]? = _; rw [List.getElem?_set, if_pos rfl, if_pos hil]
 have hx'c : x'.c = Cd V.plan m.c.batch { a with begun := true } := by rw [hx'd]; show ({ x.c with begun := true } : G7) = _; rw [hxc]; rfl
 have hok' : ({ a with begun := true } : AttV).Ok V.plan := ⟨hok.ends, hok.num, hok.pairs, hok.app⟩
 have hil' : i < (X.setH i x').hs.length := (List.getElem?_eq_some_iff.1 hx').1
 intro b20 w21 hal21
 have ho21 : Own w21 w19.heap.size 48 Enc.msg (some ⟨b20, 0, none⟩) 0 0 [] := Own.alloc (l := []) hal21 (Nat.le_refl _) rfl (by simp [maxLen])
 refine ⟨fun aa n c j w' => ∃ (k : Nat) (xs : List Msg), j = k ∧ k ≤ V.plan.stores.toNat ∧ Ba w' w19.heap.size aa n c xs ∧ xs.map (·.c) = (List.range k).map (V.begins m.c a) ∧ Grew w19 w', fun _ _ _ j _ => 9 - j.toNat, ⟨0, [], rfl, Nat.zero_le _, ⟨ho21, fun v hv => (by simp at hv)⟩, rfl, hal21.grew⟩, ?_⟩
 rintro a23 l23 c23 n24 w25 ⟨k, xs, rfl, hkk, hO, hxs, hg25⟩
 have hxl : xs.length = k := by have := congrArg List.length hxs; simpa using this
 have h25 := hM0.at_.grew hg25
 refine ⟨_, P4 (X := X.setH i x') h25, fun hlt => ?_, fun hge => ?_⟩
 ·have hlt : (k : Int) < V.plan.stores := by rw [decide_eq_true_eq] at hlt; exact hlt
  have hks : k < V.plan.stores.toNat := by omega
  have hw : IntKind.i64.wrap ((k : Int) + 1) = ((k + 1 : Nat) : Int) := by rw [IntKind.wrap_i64]; omega
  intro w27 hg27
  have h27 := h25.grew hg27
  refine ⟨_, Rh (X := X.setH i x') h27, fun n29 h29 n30 h30 => ?_⟩
  have e30 : n30 = 1 + V.plan.workers + (k : Int) := by
   rw [h30, h29]
   show IntKind.i64.wrap (IntKind.i64.wrap (1 + V.plan.workers) + (k : Int)) = _
   rw [IntKind.wrap_i64, IntKind.wrap_i64]; omega
  refine ⟨(Lu (X := X.setH i x') (m := m) (kind := 4) (to := n30) h27).use fun u w31 ⟨hv, hg31⟩ => ?_, fun w58 hg58 => ⟨⟨hg58.block _ h27.row.lt, trivial⟩, (Lu (X := X.setH i x') (m := m) (kind := 4) (to := n30) (h27.grew hg58)).use fun u w59 ⟨hv, hg59⟩ => ?_⟩⟩
  ·subst hv
   refine ⟨_, _, _, _, _, _, _, _, _, _, _, _, _, _, _, rfl, ⟨hg31.block _ h27.row.lt, trivial⟩, fun w43 hg43 => ⟨⟨hg43.block _ (h27.grew hg31).row.lt, trivial⟩, ?_⟩⟩
   have hsw43 := hM0.at_.grew (hg25.trans (hg27.trans (hg31.trans hg43)))
   have hlx := hsw43.list.len
   obtain ⟨dx, y, hdx, hy, hyc⟩ := hsw43.list.reads.at0 (k := i) (by omega)
   rw [hx'] at hy
   cases hy
   have hH := hsw43.each _ (List.mem_of_getElem? hx')
   obtain ⟨dd, sl, pl, hdd, hsc, hpl, hpo, hkd⟩ := Mp hH hx'c hok' hks
   have hpl' := hok.pairs _ (List.mem_of_getElem? hpl)
   refine ⟨_, _, _, Cf (X := X.setH i x') hsw43, ?_⟩
   rw [hdx, Ab]
   refine ⟨⟨by omega, by omega⟩, _, _, _, (C9 hyc).2.2.2.1, ?_⟩
   rw [hdd, Ab]
   refine ⟨⟨by omega, by omega⟩, _, _, _, hsc, (Rf hpo.reads (by simp only [maxLen]; omega) (by omega)).use fun u w49 ⟨a51, l51, c51, hv, ho51, hg49⟩ => ?_⟩
   subst hv
   refine ⟨_, _, _, rfl, fun b53 w54 hal54 => ?_⟩
   let z : Msg := ⟨V.begins m.c a k, (none, 0, 0), (a51, l51, c51), (none, 0, 0)⟩
   have hzk : (V.begins m.c a k).keys = pl.map (·.key) := by unfold Ac.begins; simp only; rw [List.getD_eq_getElem?_getD, hpl]; rfl
   have hgz := (hg25.trans (hg27.trans (hg31.trans hg43))).trans hg49
   have hO45 := hO.grew (((hg27.trans (hg31.trans hg43))).trans hg49)
   have hs := hgz.size
   have hzO : MO w49 w19.heap.size z := by
    refine ⟨Own.nil _ _ _ _, ?_, Own.nil _ _ _ _⟩
    simp only [z]; rw [hzk]; exact ho51.base (hg25.trans (hg27.trans (hg31.trans hg43))).size
   refine Bc (l2 := [z]) Abv hO45.own hal54 (by simp [Enc.msg, z, Msg.vals, Ac.begins, Ac.say, e30]; rfl) rfl hs (by simp only [maxLen, List.length_singleton]; omega) (by simp only [List.length_singleton]; omega) ?_
   rintro v52 w55 ⟨a57, l57, c57, rfl, ho57, hu57, hb57⟩
   have hother : ∀ v : Msg, MO w49 w19.heap.size v → MO w55 w19.heap.size v := fun v hv => hv.upd hu57 fun b hb hb' => by
    obtain ⟨cur, t, ht, ho⟩ := hv.obj hb
    obtain ⟨cur2, ho2⟩ := hO45.own.objC hb'
    rw [ho] at ho2
    have := (Obj.cells.inj (Option.some.inj ho2)).2.1
    rcases ht with rfl | rfl | rfl <;> revert this <;> decide
   refine ⟨_, _, _, rfl, ⟨k + 1, xs ++ [z], hw, by omega, ⟨ho57, fun v hv => ?_⟩, ?_, ?_⟩, by simp only [hw]; omega⟩
   ·rcases List.mem_append.1 hv with hv | hv
    ·exact hother v (hO45.each v hv)
    ·simp at hv; subst hv; exact hother _ hzO
   ·rw [List.map_append, hxs, List.range_succ, List.map_append]; rfl
   ·exact hgz.then_own hu57 fun b hb => (hO45.own.blk hb).1
  ·subst hv
   refine ⟨_, _, _, _, _, _, _, _, _, _, _, _, _, _, _, rfl, ⟨hg59.block _ (h27.grew hg58).row.lt, trivial⟩, ?_⟩
   have hsw59 := hM0.at_.grew (hg25.trans (hg27.trans (hg58.trans hg59)))
   have hlx := hsw59.list.len
   obtain ⟨dx, y, hdx, hy, hyc⟩ := hsw59.list.reads.at0 (k := i) (by omega)
   rw [hx'] at hy
   cases hy
   have hH := hsw59.each _ (List.mem_of_getElem? hx')
   obtain ⟨dd, sl, pl, hdd, hsc, hpl, hpo, hkd⟩ := Mp hH hx'c hok' hks
   have hpl' := hok.pairs _ (List.mem_of_getElem? hpl)
   refine ⟨_, _, _, Cf (X := X.setH i x') hsw59, ?_⟩
   rw [hdx, Ab]
   refine ⟨⟨by omega, by omega⟩, _, _, _, (C9 hyc).2.2.2.1, ?_⟩
   rw [hdd, Ab]
   refine ⟨⟨by omega, by omega⟩, _, _, _, hsc, (Rf hpo.reads (by simp only [maxLen]; omega) (by omega)).use fun u w49 ⟨a51, l51, c51, hv, ho51, hg49⟩ => ?_⟩
   subst hv
   refine ⟨_, _, _, rfl, fun b53 w54 hal54 => ?_⟩
   let z : Msg := ⟨V.begins m.c a k, (none, 0, 0), (a51, l51, c51), (none, 0, 0)⟩
   have hzk : (V.begins m.c a k).keys = pl.map (·.key) := by unfold Ac.begins; simp only; rw [List.getD_eq_getElem?_getD, hpl]; rfl
   have hgz := (hg25.trans (hg27.trans (hg58.trans hg59))).trans hg49
   have hO45 := hO.grew (((hg27.trans (hg58.trans hg59))).trans hg49)
   have hs := hgz.size
   have hzO : MO w49 w19.heap.size z := by
    refine ⟨Own.nil _ _ _ _, ?_, Own.nil _ _ _ _⟩
    simp only [z]; rw [hzk]; exact ho51.base (hg25.trans (hg27.trans (hg58.trans hg59))).size
   refine Bc (l2 := [z]) Abv hO45.own hal54 (by simp [Enc.msg, z, Msg.vals, Ac.begins, Ac.say, e30]; rfl) rfl hs (by simp only [maxLen, List.length_singleton]; omega) (by simp only [List.length_singleton]; omega) ?_
   rintro v52 w55 ⟨a57, l57, c57, rfl, ho57, hu57, hb57⟩
   have hother : ∀ v : Msg, MO w49 w19.heap.size v → MO w55 w19.heap.size v := fun v hv => hv.upd hu57 fun b hb hb' => by
    obtain ⟨cur, t, ht, ho⟩ := hv.obj hb
    obtain ⟨cur2, ho2⟩ := hO45.own.objC hb'
    rw [ho] at ho2
    have := (Obj.cells.inj (Option.some.inj ho2)).2.1
    rcases ht with rfl | rfl | rfl <;> revert this <;> decide
   refine ⟨_, _, _, rfl, ⟨k + 1, xs ++ [z], hw, by omega, ⟨ho57, fun v hv => ?_⟩, ?_, ?_⟩, by simp only [hw]; omega⟩
   ·rcases List.mem_append.1 hv with hv | hv
    ·exact hother v (hO45.each v hv)
    ·simp at hv; subst hv; exact hother _ hzO
   ·rw [List.map_append, hxs, List.range_succ, List.map_append]; rfl
   ·exact hgz.then_own hu57 fun b hb => (hO45.own.blk hb).1
 ·have hge : ¬ (k : Int) < V.plan.stores := by rw [decide_eq_false_iff_not] at hge; exact hge
  have : k = V.plan.stores.toNat := by omega
  subst this
  exact ⟨_, rfl, _, _, _, rfl, Gp hM0 hg25 hO hxs⟩
def sx105 (w0 : Nat) (at1 : Int) (R : Ending → World → Prop) (w : World) : Prop :=
 ∀ b1 w2, Ag w w2 b1 (.cells #[] 144) → ∃ a3 l3 c3, w2.cell? ⟨w0, 9, none⟩ = some (.slice a3 l3 c3) ∧ (0 ≤ at1 ∧ at1 ≤ (c3 : Nat)) ∧ SemW Tryz.prog (Builtin.append_ #[105, 105] 105 #[.slice (some ⟨b1, 0, none⟩) 0 0, .slice a3 at1.toNat c3]) (fun u5 w4 => ∃ a6 l6 c6, u5 = .slice a6 l6 c6 ∧ ∃ a7 l7 c7, w4.cell? ⟨w0, 9, none⟩ = some (.slice a7 l7 c7) ∧ (0 ≤ IntKind.i64.wrap (at1 + 1) ∧ IntKind.i64.wrap (at1 + 1) ≤ (l7 : Nat)) ∧ SemW Tryz.prog (Builtin.append_ #[105, 105] 105 #[.slice a6 l6 c6, .slice (if c7 = (IntKind.i64.wrap (at1 + 1)).toNat then a7 else Option.map (fun x => Addr.add x ((IntKind.i64.wrap (at1 + 1)).toNat * 6)) a7) (l7 - (IntKind.i64.wrap (at1 + 1)).toNat) (c7 - (IntKind.i64.wrap (at1 + 1)).toNat)]) (fun u9 w8 => ∃ a10 l10 c10, u9 = .slice a10 l10 c10 ∧ Af w8 ⟨w0, 9, none⟩ 0 [.slice a10 l10 c10] ∧ ∀ w11, w11 = setCells w8 ⟨w0, 9, none⟩ 0 [.slice a10 l10 c10] → R (.returned (.tuple #[])) w11) w4) w2
theorem sx105.ok {w0 : Nat} {at1 : Int} {R : Ending → World → Prop} {w : World} (h : sx105 w0 at1 R w) : Aa Tryz.prog 105 [.pointer (some ⟨w0, 0, none⟩), .int .i64 at1] w R :=
 okOf { sem := [13, 22] } mix Tryz.func105 (by kernel_rfl) (by kernel_rfl) (by kernel_rfl) h
def sx51 (d : Nat) (i_0 i_1 i_2 i_3 i_4 i_5 : Int) (i_6 : Option Addr) (i_6_n i_6_c : Nat) (i_7 : Option Addr) (i_7_n i_7_c : Nat) (i_8 : Option Addr) (i_8_n i_8_c : Nat) (R : Ending → World → Prop) (w : World) : Prop :=
  ∀ w1, Grew w w1 → Aa Tryz.prog 102 [.pointer (some ⟨d, 0, none⟩), .agg #[.int .i64 i_0, .int .i64 i_1, .int .i64 i_2, .int .i64 i_3, .int .i64 i_4, .int .i64 i_5, .slice i_6 i_6_n i_6_c, .slice i_7 i_7_n i_7_c, .slice i_8 i_8_n i_8_c]] w1 (RetR R fun u3 w2 => ∃ n4, u3 = .int .i64 n4 ∧ ifB (decide (n4 < 0)) (R (.returned (.slice none 0 0)) w2) (∃ a6 l6 c6, w2.cell? ⟨d, 9, none⟩ = some (.slice a6 l6 c6) ∧ Ab a6 (fun d7 => (0 ≤ n4 ∧ n4 < (l6 : Nat)) ∧ ∃ b8, w2.cell? (Addr.add (Addr.add d7 (n4.toNat * 6)) 4) = some (.bool b8) ∧ ifB (!b8) (R (.returned (.slice none 0 0)) w2) (ifB (i_5 != 0) (Aa Tryz.prog 105 [.pointer (some ⟨d, 0, none⟩), .int .i64 n4] w2 (RetR R fun u10 w9 => u10 = .tuple #[] ∧ R (.returned (.slice none 0 0)) w9)) (∃ n12, w2.cell? ⟨d, 2, none⟩ = some (.int .i64 n12) ∧ ∀ n13 : Int, n13 = IntKind.i64.wrap ((IntKind.i64.wrap (i_1 - 1)) - n12) → ∀ w14, Grew w2 w14 → ifB (i_0 == 5) (Aa Tryz.prog 101 [.pointer (some ⟨d, 0, none⟩), .int .i64 6, .int .i64 i_1, .agg #[.int .i64 i_0, .int .i64 i_1, .int .i64 i_2, .int .i64 i_3, .int .i64 i_4, .int .i64 i_5, .slice i_6 i_6_n i_6_c, .slice i_7 i_7_n i_7_c, .slice i_8 i_8_n i_8_c]] w14 (RetR R fun u16 w15 => ∃ n17 n18 n19 n20 n21 n22 a23 l23 c23 a24 l24 c24 a25 l25 c25, u16 = .agg #[.int .i64 n17, .int .i64 n18, .int .i64 n19, .int .i64 n20, .int .i64 n21, .int .i64 n22, .slice a23 l23 c23, .slice a24 l24 c24, .slice a25 l25 c25] ∧ ∀ w27, Grew w15 w27 → ∀ b28 w29, Ag w27 w29 b28 (.cells #[] 83) → ∃ a30 l30 c30, w29.cell? ⟨d, 9, none⟩ = some (.slice a30 l30 c30) ∧ Ab a30 (fun d31 => (0 ≤ n4 ∧ n4 < (l30 : Nat)) ∧ ∃ a32 l32 c32, w29.cell? (Addr.add (Addr.add d31 (n4.toNat * 6)) 3) = some (.slice a32 l32 c32) ∧ Ab a32 (fun d33 => (0 ≤ n13 ∧ n13 < (l32 : Nat)) ∧ ∃ a34 l34 c34, w29.cell? (Addr.add d33 (n13.toNat * 1)) = some (.slice a34 l34 c34) ∧ SemW Tryz.prog (Builtin.append_ #[46, 46] 46 #[.slice (some ⟨b28, 0, none⟩) 0 0, .slice a34 l34 c34]) (fun u36 w35 => ∃ a37 l37 c37, u36 = .slice a37 l37 c37 ∧ ∀ b38 w39, Ag w35 w39 b38 (.cells #[.int .i64 n17, .int .i64 n18, .int .i64 n19, .int .i64 n20, .int .i64 n21, .int .i64 n22, .slice a23 l23 c23, .slice a24 l24 c24, .slice a37 l37 c37] 48) → R (.returned (.slice (some ⟨b38, 0, none⟩) 1 1)) w39) w29)))) (∃ a40 l40 c40, w14.cell? ⟨d, 9, none⟩ = some (.slice a40 l40 c40) ∧ Ab a40 (fun d41 => (0 ≤ n4 ∧ n4 < (l40 : Nat)) ∧ ∃ a42 l42 c42, w14.cell? (Addr.add (Addr.add d41 (n4.toNat * 6)) 5) = some (.slice a42 l42 c42) ∧ Ab a42 (fun d43 => (0 ≤ n13 ∧ n13 < (l42 : Nat)) ∧ Af w14 (Addr.add d43 (n13.toNat * 1)) 0 [.bool true] ∧ ∀ w44, w44 = setCells w14 (Addr.add d43 (n13.toNat * 1)) 0 [.bool true] → ∀ w45, Grew w44 w45 → ∃ a46 l46 c46, w45.cell? ⟨d, 9, none⟩ = some (.slice a46 l46 c46) ∧ Ab a46 (fun d47 => (0 ≤ n4 ∧ n4 < (l46 : Nat)) ∧ ∃ a48 l48 c48, w45.cell? (Addr.add (Addr.add d47 (n4.toNat * 6)) 5) = some (.slice a48 l48 c48) ∧ ∃ n49, w45.cell? ⟨d, 1, none⟩ = some (.int .i64 n49) ∧ Aa Tryz.prog 62
 [.slice a48 l48 c48] w45 (RetR R fun u51 w50 => ∃ n52, u51 = .int .i64 n52 ∧ Ad w45 w50 [⟨d, 1, none⟩, (Addr.add (Addr.add d47 (n4.toNat * 6)) 5), ⟨d, 9, none⟩] ∧ ifB (decide (n52 < n49)) (R (.returned (.slice none 0 0)) w50) (Aa Tryz.prog 101 [.pointer (some ⟨d, 0, none⟩), .int .i64 8, .int .i64 0, .agg #[.int .i64 i_0, .int .i64 i_1, .int .i64 i_2, .int .i64 i_3, .int .i64 i_4, .int .i64 i_5, .slice i_6 i_6_n i_6_c, .slice i_7 i_7_n i_7_c, .slice i_8 i_8_n i_8_c]] w50 (RetR R fun u55 w54 => ∃ n56 n57 n58 n59 n60 n61 a62 l62 c62 a63 l63 c63 a64 l64 c64, u55 = .agg #[.int .i64 n56, .int .i64 n57, .int .i64 n58, .int .i64 n59, .int .i64 n60, .int .i64 n61, .slice a62 l62 c62, .slice a63 l63 c63, .slice a64 l64 c64] ∧ ∀ w66, Grew w54 w66 → ∃ a67 l67 c67, w66.cell? ⟨d, 9, none⟩ = some (.slice a67 l67 c67) ∧ Ab a67 (fun d68 => (0 ≤ n4 ∧ n4 < (l67 : Nat)) ∧ ∃ a69 l69 c69, w66.cell? (Addr.add (Addr.add d68 (n4.toNat * 6)) 2) = some (.slice a69 l69 c69) ∧ Aa Tryz.prog 61 [.slice a69 l69 c69] w66 (RetR R fun u71 w70 => ∃ a72 l72 c72, u71 = .slice a72 l72 c72 ∧ ∀ b74 w75, Ag w70 w75 b74 (.cells #[.int .i64 n56, .int .i64 n57, .int .i64 n58, .int .i64 n59, .int .i64 n60, .int .i64 n61, .slice a72 l72 c72, .slice a63 l63 c63, .slice a64 l64 c64] 48) → R (.returned (.slice (some ⟨b74, 0, none⟩) 1 1)) w75))))))))))))))
theorem sx51.ok {d : Nat} {i_0 i_1 i_2 i_3 i_4 i_5 : Int} {i_6 : Option Addr} {i_6_n i_6_c : Nat} {i_7 : Option Addr} {i_7_n i_7_c : Nat} {i_8 : Option Addr} {i_8_n i_8_c : Nat} {R : Ending → World → Prop} {w : World} (h : sx51 d i_0 i_1 i_2 i_3 i_4 i_5 i_6 i_6_n i_6_c i_7 i_7_n i_7_c i_8 i_8_n i_8_c R w) : Aa Tryz.prog 51 [.pointer (some ⟨d, 0, none⟩), .agg #[.int .i64 i_0, .int .i64 i_1, .int .i64 i_2, .int .i64 i_3, .int .i64 i_4, .int .i64 i_5, .slice i_6 i_6_n i_6_c, .slice i_7 i_7_n i_7_c, .slice i_8 i_8_n i_8_c]] w R :=
 okOf { locals := [3, 7, 9], sem := [62], named := [40], draws := [(15, { order := (ol [0,1,2,3,4,5,6,7,9,10,11,12,13,8,14] .nil), bars := [] })] } mix Tryz.func51 (by kernel_rfl) (by kernel_rfl) (by kernel_rfl) h
theorem elRH : B4 Tryz.prog 105 144 Enc.rheld.sz 96 := B4.mk' (z := .agg #[.int .i64 0, .int .i64 0, .slice none 0 0, .slice none 0 0, .bool false, .slice none 0 0]) (by kernel_rfl) (by kernel_rfl) (by kernel_rfl)
theorem P5 {hs : List A7} : G9 hs ↔ hs.Pairwise fun x y => ∀ b, Blk x.p.1 b → ¬ Blk y.p.1 b := by
 rw [List.pairwise_iff_getElem]
 constructor
 ·intro h i j hi hj hij b h1 h2
  exact h i j _ _ (by omega) (List.getElem?_eq_getElem hi) (List.getElem?_eq_getElem hj) b h1 h2
 ·intro h i j x y hne hx hy b h1 h2
  obtain ⟨hi, rfl⟩ := List.getElem?_eq_some_iff.1 hx
  obtain ⟨hj, rfl⟩ := List.getElem?_eq_some_iff.1 hy
  rcases Nat.lt_or_gt_of_ne hne with hlt | hlt
  ·exact h i j hi hj hlt b h1 h2
  ·exact h j i hj hi hlt b h2 h1
theorem Vt {hs : List A7} (h : G9 hs) (i : Nat) : G9 (hs.take i ++ hs.drop (i + 1)) := by
 rw [P5] at h ⊢
 rw [← List.eraseIdx_eq_take_drop_succ]
 exact h.sublist (List.eraseIdx_sublist ..)
theorem Vu {hs : List A7} (h : G9 hs) (i : Nat) {y : A7} (hy : ∀ x ∈ hs, ∀ b, Blk y.p.1 b → ¬ Blk x.p.1 b) : G9 (hs.take i ++ y :: hs.drop i) := by
 rw [P5] at h ⊢
 have hp : (hs.take i ++ y :: hs.drop i).Perm (y :: hs) := by
  have := List.perm_middle (a := y) (l₁ := hs.take i) (l₂ := hs.drop i)
  rwa [List.take_append_drop] at this
 refine (hp.pairwise_iff (fun {a b} hab c h1 h2 => hab c h2 h1)).2 (List.pairwise_cons.2 ⟨hy, h⟩)
theorem Vv {w : World} {B : Nat} {X : An} {V : Ac} {i : Nat} {k : Int} {x : A7} (h : RWA w B X V) (hB : B ≤ w.heap.size) (hlen : V.held.length ≤ 100000) (hx : X.hs[i]? = some x) (hk : x.c.batch = k) :
  Aa Tryz.prog 105 [.pointer (some ⟨X.q, 0, none⟩), .int .i64 (i : Int)] w (Rets fun u w' => u = .tuple #[] ∧ ∃ X', RWM w B X w' X' (V.delA k)) := by
 refine sx105.ok ?_
 unfold sx105
 obtain ⟨hkl, hll⟩ := h.len
 have hkv : V.keyS.length = V.held.length := by unfold Ac.keyS; rw [(Bf _).length_eq, List.length_map]
 have hil := (List.getElem?_eq_some_iff.1 hx).1
 have hkey := (h.get hx).1
 rw [hk] at hkey
 have hcap := h.list.le
 have hw : IntKind.i64.wrap ((i : Int) + 1) = ((i + 1 : Nat) : Int) := by rw [IntKind.wrap_i64]; omega
 rw [hw]
 simp only [Int.toNat_natCast]
 intro b1 w2 hal2
 have ho2 : Own w2 w.heap.size 144 Enc.rheld (some ⟨b1, 0, none⟩) 0 0 [] := Own.alloc (l := []) hal2 (Nat.le_refl _) rfl (by simp [maxLen])
 have h2 := h.grew hal2.grew
 refine ⟨_, _, _, Cf h2, ⟨by omega, by omega⟩, ?_⟩
 have ht := (h2.list.take (k := i) (by omega)).reads
 refine B5 elRH ho2 ht.1 ht.2.1 ht.2.2.1 hal2.grew.size (by simp only [maxLen, List.length_nil, List.length_take]; omega) (by simp only [List.length_nil, List.length_take]; omega) ?_
 rintro u w4 ⟨a6, l6, c6, rfl, ho4, hu4, hb4⟩
 rw [List.nil_append] at ho4
 have hg4 : Grew w w4 := hal2.grew.then_own hu4 fun b hb => (ho2.blk hb).1
 have h4 := h.grew hg4
 refine ⟨_, _, _, rfl, _, _, _, Cf h4, ⟨by omega, by omega⟩, ?_⟩
 have hc := h4.list.reads.cut (i := i + 1) (j := X.hs.length) (by omega) (by omega)
 rw [List.take_length] at hc
 have hl4 : l6 = i := by rw [ho4.len, List.length_take]; omega
 rw [hll]
 refine B5 elRH ho4 hc.1 hc.2.1 hc.2.2.1 hg4.size (by simp only [maxLen, List.length_drop, List.length_take]; omega) (by simp only [List.length_drop, List.length_take]; omega) ?_
 rintro u w8 ⟨a10, l10, c10, rfl, ho8, hu8, hb8⟩
 have hg8 : Grew w w8 := hg4.then_own hu8 fun b hb => (ho4.blk hb).1
 have h8 := h.grew hg8
 obtain ⟨r1, r2, r3⟩ := h8.row.set1 (o := 9) (by simp [An.vals]) (.slice a10 l10 c10)
 refine ⟨_, _, _, rfl, r1, ?_⟩
 rintro w11 rfl
 have hu := hg8.then_upd r3
 have hq : ∀ {b : Nat}, Blk a10 b → b ≠ X.q := fun hb e => by have := (ho8.blk hb).1; have := h.row.lt; omega
 refine ⟨_, rfl, rfl, ⟨X.q, X.o, (a10, l10, c10), X.hs.take i ++ X.hs.drop (i + 1)⟩, ?_⟩
 have hmem : ∀ z, z ∈ X.hs.take i ++ X.hs.drop (i + 1) → z ∈ X.hs := fun z hz => (List.mem_append.1 hz).elim List.mem_of_mem_take List.mem_of_mem_drop
 refine h.next Lt hu (fun b hb => .inl hb) rfl rfl rfl r2 ((ho8.upd r3 fun b hb e => hq hb e).base hB) ?_ (fun z hz => (h.each z (hmem z hz)).upd hu fun b hb e => (h.each z (hmem z hz)).offW Lt h.row (e ▸ hb)) (Vt h.apart i) (Ac.delA_nd h.nd k) ⟨h.ok.good, h.ok.ops, h.ok.node, fun q hq => h.ok.atts q (C3 q hq).1, fun q hq => h.ok.keys q (C3 q hq).1⟩ (fun b hb => ?_)
 ·rw [Ac.rows_del h.nd hkey, ← h.rows, List.map_append, List.map_take, List.map_drop]
 ·rcases hb with hb | ⟨z, hz, hb⟩
  ·exact .inr (ho8.blk hb).1
  ·exact .inl (.inr (.inr (.inr ⟨z, hmem z hz, hb⟩)))
abbrev Vw (w : World) (d : Addr) (k : Nat) (x : A7) : Prop := w.cell? (Addr.add d (((k : Nat) : Int).toNat * 6)) = some (.int .i64 x.c.batch) ∧ w.cell? (Addr.add (Addr.add d (((k : Nat) : Int).toNat * 6)) 1) = some (.int .i64 x.c.att) ∧ w.cell? (Addr.add (Addr.add d (((k : Nat) : Int).toNat * 6)) 2) = some (.slice x.e.1 x.e.2.1 x.e.2.2) ∧
  w.cell? (Addr.add (Addr.add d (((k : Nat) : Int).toNat * 6)) 3) = some (.slice x.d.1 x.d.2.1 x.d.2.2) ∧ w.cell? (Addr.add (Addr.add d (((k : Nat) : Int).toNat * 6)) 4) = some (.bool x.c.begun) ∧ w.cell? (Addr.add (Addr.add d (((k : Nat) : Int).toNat * 6)) 5) = some (.slice x.p.1 x.p.2.1 x.p.2.2)
theorem Rk {w : World} {B : Nat} {X : An} {V : Ac} (h : RWA w B X V) {i : Nat} {x : A7} {d : Addr} (hx : X.hs[i]? = some x) (hd : X.l.1 = some d) : Vw w d i x := by
 have hl := h.list.len
 have hi := (List.getElem?_eq_some_iff.1 hx).1
 obtain ⟨d', y, hd', hy, hyc⟩ := h.list.reads.at0 (k := i) (by omega)
 rw [hx] at hy; cases hy
 rw [hd] at hd'; cases hd'
 exact C9 hyc
set_option maxHeartbeats 2000000 in
theorem Si {w : World} {B : Nat} {X : An} {V : Ac} {m : Msg} (h : RWA w B X V) (hB : B ≤ w.heap.size) (hlen : V.held.length ≤ 100000) (hm : m.At w) (hk3 : Ax V.plan m.c.frm = 3) :
  Aa Tryz.prog 51 [.pointer (some ⟨X.q, 0, none⟩), m.val] w (Rets (Rj w B X (V.answer m.c))) := by
 refine sx51.ok ?_
 unfold sx51
 have hG := h.ok.good
 have hSt := hG.stores; have hWk := hG.workers
 obtain ⟨si, hsi, hfrm⟩ := Nh hG hk3
 have hmem : m.c.frm ∈ A3 V.plan := Ng.2 ⟨si, hsi, hfrm⟩
 intro w1 hg1
 refine (Uc (m := m) (h.grew hg1)).use fun u w2 ⟨hg2, hc⟩ => ?_
 have hg2 := hg1.trans hg2
 rcases hc with ⟨hf, rfl⟩ | ⟨i, x, a, rfl, hx, hxb, ha, hf, hxc⟩
 ·refine ⟨_, rfl, fun _ => ⟨_, rfl, none, 0, 0, rfl, ?_⟩, fun h => (by simp at h)⟩
  have : V.answer m.c = (V, []) := by unfold Ac.answer; rw [hf]
  rw [this]; exact Fa h hg2
 refine ⟨_, rfl, fun h => (by simp at h; omega), fun _ => ?_⟩
 have h2 := h.grew hg2
 have hok := h.ok.atts _ (Cm ha)
 have hE4 : a.ends.length ≤ 4 := hok.ends.1
 have hxm := List.mem_of_getElem? hx
 have hil := (List.getElem?_eq_some_iff.1 hx).1
 have hll := h.list.len
 have e1 : x.c.begun = a.begun := by rw [hxc]; rfl
 have e2 : x.c.ends = a.ends := by rw [hxc]; rfl
 have e5 : x.c.applied = appB V.plan a.applied := by rw [hxc]; rfl
 have bd : (0 : Int) ≤ (i : Int) ∧ (i : Int) < ((X.l.2.1 : Nat) : Int) := by omega
 obtain ⟨d, hd⟩ : ∃ d, X.l.1 = some d := by
  obtain ⟨d, y, hd, -⟩ := h2.list.reads.at0 (k := i) (by omega)
  exact ⟨d, hd⟩
 have cells : ∀ {w' : World}, RWA w' B X V → Vw w' d i x := fun hw' => Rk hw' hx hd
 obtain ⟨c0, c1, c2, c3, c4, c5⟩ := cells h2
 refine ⟨_, _, _, Cf h2, ?_⟩
 rw [hd, Ab]
 refine ⟨bd, _, c4, fun hbt => ?_, fun hbf => ?_⟩
 ·have hb0 : a.begun = false := by rw [← e1]; simpa using hbt
  have : V.answer m.c = (V, []) := by unfold Ac.answer; rw [hf]; simp only; rw [if_pos hb0]
  rw [this]; exact ⟨_, rfl, none, 0, 0, rfl, Fa h hg2⟩
 have hb1 : ¬ a.begun = false := by rw [← e1]; simpa using hbf
 have hans : V.answer m.c = if m.c.code ≠ 0 then (V.delA m.c.batch, []) else if m.c.kind = 5 then (V, [{ V.say m.c 6 m.c.frm with pairs := a.pairs.getD (m.c.frm - 1 - V.plan.workers).toNat [] }]) else
   (V.setA m.c.batch { a with applied := addN a.applied m.c.frm }, if ((addN a.applied m.c.frm).length : Int) < V.plan.stores then [] else [{ V.say m.c 8 0 with ends := a.ends }]) := by
  unfold Ac.answer; rw [hf]; simp only; rw [if_neg hb1]; rfl
 rw [hans]
 refine ⟨fun hcode => ?_, fun hcode => ⟨_, Rh h2, fun n13 h13 w14 hg14 => ⟨fun h5 => ?_, fun h5 => ?_⟩⟩⟩
 ·have hcode : m.c.code ≠ 0 := by simpa using hcode
  rw [if_pos hcode]
  refine (Vv h2 (Nat.le_trans hB hg2.size) hlen hx hxb).use fun u w9 ⟨hv, X', hM⟩ => ?_
  subst hv
  exact ⟨rfl, _, rfl, none, 0, 0, rfl, Gp (hM.pre hg2) (Grew.refl _) (Ba.nil _ _) rfl⟩
 ·have hcode : ¬ m.c.code ≠ 0 := by simpa using hcode
  have h5 : m.c.kind = 5 := by simpa using h5
  rw [if_neg hcode, if_pos h5]
  have e13 : n13 = ((si : Nat) : Int) := by rw [h13, hfrm, IntKind.wrap_i64, IntKind.wrap_i64]; omega
  subst e13
  have h14 := h2.grew hg14
  refine (Lu (m := m) (kind := 6) (to := m.c.frm) h14).use fun u w15 ⟨hv, hg15⟩ => ?_
  subst hv
  refine ⟨_, _, _, _, _, _, _, _, _, _, _, _, _, _, _, rfl, fun w27 hg27 b28 w29 hal29 => ?_⟩
  have hgk := hg14.trans (hg15.trans hg27)
  have h29 := h2.grew (hgk.trans hal29.grew)
  have ho29 : Own w29 w27.heap.size 83 Enc.pair (some ⟨b28, 0, none⟩) 0 0 [] := Own.alloc (l := []) hal29 (Nat.le_refl _) rfl (by simp [maxLen])
  obtain ⟨dd, sl, pl, hdd, hsc, hpl, hpo, hkd⟩ := Mp (h29.each x hxm) hxc hok hsi
  have hpl' := hok.pairs _ (List.mem_of_getElem? hpl)
  refine ⟨_, _, _, Cf h29, ?_⟩
  rw [hd, Ab]
  refine ⟨bd, _, _, _, (cells h29).2.2.2.1, ?_⟩
  rw [hdd, Ab]
  have hpr := hpo.reads
  refine ⟨⟨by omega, by omega⟩, _, _, _, hsc, ?_⟩
  refine B5 W7 ho29 hpr.1 hpr.2.1 hpr.2.2.1 hal29.grew.size (by simp only [maxLen, List.length_nil]; omega) (by simp only [List.length_nil]; omega) ?_
  rintro u w35 ⟨a37, l37, c37, rfl, ho35, hu35, hb35⟩
  rw [List.nil_append] at ho35
  have hg35 : Grew w27 w35 := hal29.grew.then_own hu35 fun b hb => (ho29.blk hb).1
  refine ⟨_, _, _, rfl, fun b38 w39 hal39 => ⟨_, rfl, _, _, _, rfl, ?_⟩⟩
  have hidx : (m.c.frm - 1 - V.plan.workers).toNat = si := by omega
  let z : Msg := ⟨{ V.say m.c 6 m.c.frm with pairs := pl }, (none, 0, 0), (none, 0, 0), (a37, l37, c37)⟩
  have hz : MO w35 w2.heap.size z := ⟨Own.nil _ _ _ _, Own.nil _ _ _ _, ho35.base hgk.size⟩
  refine Gp (Bj.still h hg2) ((hgk.trans hg35).trans hal39.grew) (J3 (hgk.trans hg35) hz hal39) ?_
  rw [hidx, List.getD_eq_getElem?_getD, hpl]; rfl
 ·have hcode : ¬ m.c.code ≠ 0 := by simpa using hcode
  have h5 : ¬ m.c.kind = 5 := by simpa using h5
  rw [if_neg hcode, if_neg h5]
  have e13 : n13 = ((si : Nat) : Int) := by rw [h13, hfrm, IntKind.wrap_i64, IntKind.wrap_i64]; omega
  subst e13
  have h14 := h2.grew hg14
  have hapok := Wz hok.app hmem
  have hok' : ({ a with applied := addN a.applied (1 + V.plan.workers + (si : Int)) } : AttV).Ok V.plan := ⟨hok.ends, hok.num, hok.pairs, by rw [← hfrm]; exact hapok⟩
  obtain ⟨dp, hdp, hroom, hM⟩ := h14.tick Lt hsi hx hxb ha hok'
  rw [← hfrm] at hM hok'
  have hlp := (h14.each x hxm).app.len
  rw [e5, Ji] at hlp
  refine ⟨_, _, _, Cf h14, ?_⟩
  rw [hd, Ab]
  refine ⟨bd, _, _, _, (cells h14).2.2.2.2.2, ?_⟩
  rw [hdp, Ab, Int.toNat_natCast]
  refine ⟨⟨by omega, by omega⟩, hroom, ?_⟩
  rintro w44 rfl
  have hM0 := hM.pre (hg2.trans hg14)
  generalize setCells w14 (dp.add (si * 1)) 0 [.bool true] = w44 at hM hM0
  obtain ⟨x', hx'd⟩ : ∃ x' : A7, x' = { x with c := { x.c with applied := x.c.applied.set si true } } := ⟨_, rfl⟩
  rw [← hx'd] at hM hM0
  have hx' : (X.setH i x').hs[i]? = some x' := by show (X.hs.set i x')[i]? = _; rw [List.getElem?_set, if_pos rfl, if_pos hil]
  have hxm' := List.mem_of_getElem? hx'
  have hil' : i < (X.setH i x').hs.length := (List.getElem?_eq_some_iff.1 hx').1
  intro w45 hg45
  have h45 := hM.at_.grew hg45
  have cells' : ∀ {w' : World}, RWA w' B (X.setH i x') (V.setA m.c.batch { a with applied := addN a.applied m.c.frm }) → Vw w' d i x' := fun hw' => Rk hw' hx' hd
  have hP45 := (h45.each x' hxm').app
  have hcnt : x'.c.applied.countP id = (addN a.applied m.c.frm).length := by
   have : x'.c.applied = appB V.plan (addN a.applied m.c.frm) := by
    rw [hx'd, hfrm, T8 hsi, ← e5]
   rw [this]; exact Rb hapok.1 hapok.2
  have hpl : x'.c.applied.length ≤ 4 := by rw [hx'd]; show (x.c.applied.set si true).length ≤ 4; rw [List.length_set, e5, Ji]; omega
  refine ⟨_, _, _, Cf (X := X.setH i x') h45, ?_⟩
  rw [show (X.setH i x').l = X.l from rfl, hd, Ab]
  refine ⟨bd, _, _, _, (cells' h45).2.2.2.2.2, _, P4 (X := X.setH i x') h45, (Ud hP45.reads (by omega)).use fun u w50 ⟨hv, hw'⟩ => ?_⟩
  subst hv; subst hw'
  rw [hcnt]
  refine ⟨_, rfl, ⟨rfl, rfl, rfl, trivial⟩, fun hlt => ?_, fun hge => ?_⟩
  ·have hlt : ((addN a.applied m.c.frm).length : Int) < V.plan.stores := by rw [decide_eq_true_eq] at hlt; exact hlt
   rw [if_pos hlt]
   exact ⟨_, rfl, none, 0, 0, rfl, Gp hM0 hg45 (Ba.nil _ _) rfl⟩
  ·have hge : ¬ ((addN a.applied m.c.frm).length : Int) < V.plan.stores := by rw [decide_eq_false_iff_not] at hge; exact hge
   rw [if_neg hge]
   refine (Lu (X := X.setH i x') (m := m) (kind := 8) (to := 0) h45).use fun u w54 ⟨hv, hg54⟩ => ?_
   subst hv
   refine ⟨_, _, _, _, _, _, _, _, _, _, _, _, _, _, _, rfl, fun w66 hg66 => ?_⟩
   have hgk := hg45.trans (hg54.trans hg66)
   have h66 := hM.at_.grew hgk
   have hE66 := (h66.each x' hxm').ends.reads
   have e2' : x'.c.ends = a.ends := by rw [hx'd]; exact e2
   rw [e2'] at hE66
   refine ⟨_, _, _, Cf (X := X.setH i x') h66, ?_⟩
   rw [show (X.setH i x').l = X.l from rfl, hd, Ab]
   refine ⟨bd, _, _, _, (cells' h66).2.2.1, (Mo hE66 (by omega)).use fun u w70 ⟨a72, l72, c72, hv, ho72, hg70⟩ => ?_⟩
   subst hv
   refine ⟨_, _, _, rfl, fun b74 w75 hal75 => ⟨_, rfl, _, _, _, rfl, ?_⟩⟩
   let z : Msg := ⟨{ V.say m.c 8 0 with ends := a.ends }, (a72, l72, c72), (none, 0, 0), (none, 0, 0)⟩
   have hz : MO w70 w44.heap.size z := ⟨ho72.base hgk.size, Own.nil _ _ _ _, Own.nil _ _ _ _⟩
   exact Gp hM0 ((hgk.trans hg70).trans hal75.grew) (J3 (hgk.trans hg70) hz hal75) rfl
end Go.Proofs.YtcpkneemhfnanaaGreat
