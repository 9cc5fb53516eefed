/- NetExact: what it computes, and its row. Conditions: none. -/
import Derived.Test.YtlkfkcgnlnbdeaaProg
import Derived.Test.YtlkfkcgnlnbdeaaNetN
import Derived.Test.YtlkfkcgnlnbdeaaRows
namespace Go.Proofs.Ytlkfkcgnlnbdeaa
open Go.Sx
set_option maxRecDepth 100000
set_option linter.unusedVariables false
set_option linter.unusedSimpArgs false
/- reprise/repriselaw16.NetExact -/
def sx3 (d : Int) (i : Option Addr) (i_n i_c : Nat) (R : Ending → World → Prop) (w : World) : Prop :=
  CallsW Try.prog 7 [] w (RetR R fun u2 w1 => ∃ (b3 : Bool), u2 = .bool b3 ∧ (((!b3) = true → R (.returned (.bool false)) w1) ∧ ((!b3) = false → CallsW Try.prog 8 [.int .i64 d] w1 (RetR R fun u6 w5 => ∃ (p7 : Option Addr)
    (n8 : Int), u6 = .tuple #[.pointer p7, .int .i64 n8] ∧ CallsW Try.prog 9 [.int .i64 d] w5 (RetR R fun u11 w10 => ∃ (p12 : Option Addr) (n13 : Int), u11 = .tuple #[.pointer p12, .int .i64 n13] ∧ ∃ (J15 : Bool → World →
    Prop), ((((n8 != n13) = true → J15 true w10) ∧ ((n8 != n13) = false → J15 (!(Option.isNone p7 == Option.isNone p12)) w10))) ∧ ∀ (b16 : Bool) (w17 : World), J15 b16 w17 → ((b16 = true → R (.returned (.bool false)) w17)
    ∧ (b16 = false → ∃ (J18 : World → Prop), (∃ (I19 : Int → World → Prop) (m19 : Int → World → Nat), I19 0 w17 ∧ ∀ (n20 : Int) (w21 : World), I19 n20 w21 → (((decide (n20 < ((i_n : Nat) : Int))) = true → (((decide (n20 <
    2000)) = true → ∃ (J22 : Option Addr → Option Addr → World → Prop), (withSome i (fun d23 => (0 ≤ n20 ∧ n20 < (i_n : Nat)) ∧ ∃ (n24 : Int), w21.cell? (Addr.add (Addr.add d23 (n20.toNat * 12)) 1) = some (.int .i64 n24)
    ∧ (((2 : Int) = 0 → R (.panicked (divPanic Try.prog)) w21) ∧ ((2 : Int) ≠ 0 → ((((Int.tmod n24 2) != 0) = true → J22 none none w21) ∧ (((Int.tmod n24 2) != 0) = false → J22 p7 p12 w21)))))) ∧ ∀ (p25 : Option Addr)
    (p26 : Option Addr) (w27 : World), J22 p25 p26 w27 → withSome i (fun d28 => (0 ≤ n20 ∧ n20 < (i_n : Nat)) ∧ ∃ (n29 : Int) (n30 : Int) (n31 : Int) (n32 : Int) (n33 : Int) (n34 : Int) (n35 : Int) (n36 : Int) (n37 : Int)
    (a38 : Option Addr) (l38 c38 : Nat) (a39 : Option Addr) (l39 c39 : Nat) (a40 : Option Addr) (l40 c40 : Nat), CellsAt w27 (Addr.add d28 (n20.toNat * 12)) 0 [.int .i64 n29, .int .i64 n30, .int .i64 n31, .int .i64 n32,
    .int .i64 n33, .int .i64 n34, .int .i64 n35, .int .i64 n36, .int .i64 n37, .slice a38 l38 c38, .slice a39 l39 c39, .slice a40 l40 c40] ∧ CallsW Try.prog 10 [.pointer p25, .pointer p26, .agg #[.int .i64 n29, .int .i64
    n30, .int .i64 n31, .int .i64 n32, .int .i64 n33, .int .i64 n34, .int .i64 n35, .int .i64 n36, .int .i64 n37, .slice a38 l38 c38, .slice a39 l39 c39, .slice a40 l40 c40]] w27 (RetR R fun u42 w41 => ∃ (b43 : Bool), u42
    = .bool b43 ∧ (((!b43) = true → R (.returned (.bool false)) w41) ∧ ((!b43) = false → (I19 (IntKind.i64.wrap (n20 + 1)) w41 ∧ m19 (IntKind.i64.wrap (n20 + 1)) w41 < m19 n20 w21)))))) ∧ ((decide (n20 < 2000)) = false →
    J18 w21))) ∧ ((decide (n20 < ((i_n : Nat) : Int))) = false → J18 w21))) ∧ ∀  (w45 : World), J18 w45 → CallsW Try.prog 12 [.pointer p7] w45 (RetR R fun u47 w46 => ∃ (a48 : Option Addr) (l48 c48 : Nat), u47 = .slice a48
    l48 c48 ∧ CallsW Try.prog 13 [.pointer p12] w46 (RetR R fun u51 w50 => ∃ (a52 : Option Addr) (l52 c52 : Nat), u51 = .slice a52 l52 c52 ∧ CallsW Try.prog 11 [.slice a48 l48 c48, .slice a52 l52 c52] w50 (RetR R fun u55
    w54 => ∃ (b56 : Bool), u55 = .bool b56 ∧ ((b56 = true → CallsW Try.prog 14 [.pointer p7] w54 (RetR R fun u59 w58 => ∃ (n60 : Int), u59 = .int .i64 n60 ∧ CallsW Try.prog 15 [.pointer p12] w58 (RetR R fun u63 w62 => ∃
    (n64 : Int), u63 = .int .i64 n64 ∧ R (.returned (.bool (n60 == n64))) w62))) ∧ (b56 = false → R (.returned (.bool false)) w54))))))))))))
theorem sx3.ok {d : Int} {i : Option Addr} {i_n i_c : Nat} {R : Ending → World → Prop} {w : World} (h : sx3 d i i_n i_c R w) : CallsW Try.prog 3 [.int .i64 d, .slice i i_n i_c] w R :=
  callsW_of mix Try.func3 (by kernel_rfl) (by kernel_rfl) (Eq.mpr (by kernel_rfl : denFn Try.prog { loops := [(8, { slots := [(9, .int .i64)], cells := [] })], cuts := [(6, { slots := [(33, .bool)], cells := [] }), (15, { slots := [(10, .ptr), (11, .ptr)], cells := [] }), (17, { slots := [], cells := [] })] } Try.f3 [.int .i64 d, .slice i i_n i_c] R w = sx3 d i i_n i_c R w) h)


/-- a net and the reference's, alike -/
structure Sim (w0 w : World) (most : Int) (p mb q : Nat) (N : Int) : Prop where
  out : ∃ (B1 B2 : Nat) (next : Int) (L : List (Int × Msg)) (a : Option Addr) (n c : Nat) (L' : List (Int × Msg)), NetAt w B1 p mb most next L ∧ RefAt w B2 q a n c most next L' ∧ conts L = conts L' ∧ (∀ b, NFoot p mb L b → ¬ RFoot q a L' b) ∧ next ≤ N ∧ w0.heap.size ≤ B1 ∧ w0.heap.size ≤ B2 ∧ B1 ≤ w.heap.size ∧ B2 ≤ w.heap.size
  grew : Grew w0 w

theorem sim_of {w0 w1 w2 w3 : World} {most next next' N : Int} {p mb q B1 B2 : Nat} {L L2 L' L2' : List (Int × Msg)} {a a' : Option Addr} {n c n' c' : Nat} (hg : Grew w0 w1) (hN : NetAt w2 B1 p mb most next' L2) (hu1 : Upd (fun b => b = p ∨ b = mb) w1 w2)
    (hF1 : ∀ b, Feet L2 b → Feet L b ∨ w1.heap.size ≤ b) (hNA : NetAt w1 B1 p mb most next L) (hRA : RefAt w1 B2 q a n c most next L') (hR : RefAt w3 B2 q a' n' c' most next' L2') (hu2 : Upd (fun b => b = q ∨ Blk a b) w2 w3)
    (hF2 : ∀ b, RFoot q a' L2' b → RFoot q a L' b ∨ w2.heap.size ≤ b) (hc : conts L2 = conts L2') (hd : ∀ b, NFoot p mb L b → ¬ RFoot q a L' b) (hn : next' ≤ N) (h1 : w0.heap.size ≤ B1) (h2 : w0.heap.size ≤ B2) (s1 : B1 ≤ w1.heap.size) (s2 : B2 ≤ w1.heap.size) : Sim w0 w3 most p mb q N := by
  have z1 := hu1.size; have z2 := hu2.size
  have hd2 : ∀ b, NFoot p mb L2 b → ¬ RFoot q a L' b := by
    intro b hb hr
    rcases hb with rfl | rfl | hb
    · exact hd _ (.inl rfl) hr
    · exact hd _ (.inr (.inl rfl)) hr
    · rcases hF1 b hb with hb | hb
      · exact hd _ (.inr (.inr hb)) hr
      · have := (hRA.foot hr).2; omega
  refine ⟨⟨B1, B2, next', L2, a', n', c', L2', hN.upd hu2 (fun b hb hS => hd2 b hb (by rcases hS with rfl | hS; exact .inl rfl; exact .inr (.inl hS))), hR, hc, fun b hb hr => ?_, hn, h1, h2, by omega, by omega⟩, ?_⟩
  · rcases hF2 b hr with hr | hr
    · exact hd2 b hb hr
    · have := (hN.foot hb).2; omega
  · refine (hg.then_own hu1 fun b hb => ?_).then_own hu2 fun b hb => ?_
    · rcases hb with rfl | rfl
      · have := hNA.pB; omega
      · have := hNA.mB; omega
    · rcases hb with rfl | hb
      · have := hRA.pB; omega
      · have := (hRA.own.blk hb).1; omega
theorem Sim.more {w0 w w' : World} {most N : Int} {p mb q : Nat} (h : Sim w0 w most p mb q N) (hg : Grew w w') : Sim w0 w' most p mb q N := by
  obtain ⟨⟨B1, B2, next, L, a, n, c, L', hN, hR, hc, hd, hn, h1, h2, s1, s2⟩, hgr⟩ := h
  exact ⟨⟨B1, B2, next, L, a, n, c, L', hN.grew hg, hR.grew hg, hc, hd, hn, h1, h2, Nat.le_trans s1 hg.size, Nat.le_trans s2 hg.size⟩, hgr.trans hg⟩
theorem Sim.up {w0 w : World} {most N N' : Int} {p mb q : Nat} (h : Sim w0 w most p mb q N) (hn' : N ≤ N') : Sim w0 w most p mb q N' := by
  obtain ⟨⟨B1, B2, next, L, a, n, c, L', hN, hR, hc, hd, hn, rest⟩, hgr⟩ := h
  exact ⟨⟨B1, B2, next, L, a, n, c, L', hN, hR, hc, hd, by omega, rest⟩, hgr⟩

theorem conts_snoc {L : List (Int × Msg)} {k : Int} {y : Msg} : conts (L ++ [(k, y)]) = conts L ++ [(k, y.c)] := by simp [conts]

theorem RFoot.snoc {q : Nat} {a a' : Option Addr} {L' : List (Int × Msg)} {k : Int} {y : Msg} {s : Nat} {b : Nat} (h : RFoot q a' (L' ++ [(k, y)]) b) (ha : ∀ b, Blk a' b → Blk a b ∨ s ≤ b) (hy : ∀ b, y.Blk b → s ≤ b) : RFoot q a L' b ∨ s ≤ b := by
  rcases h with rfl | h | h
  · exact .inl (.inl rfl)
  · rcases ha b h with h | h
    · exact .inl (.inr (.inl h))
    · exact .inr h
  · rcases h.snoc with h | h
    · exact .inl (.inr (.inr h))
    · exact .inr (hy b h)
theorem RFoot.del {q : Nat} {a a' : Option Addr} {L' : List (Int × Msg)} {k : Int} {s : Nat} {b : Nat} (h : RFoot q a' (delM L' k) b) (ha : ∀ b, Blk a' b → s ≤ b) : RFoot q a L' b ∨ s ≤ b := by
  rcases h with rfl | h | h
  · exact .inl (.inl rfl)
  · exact .inr (ha b h)
  · exact .inl (.inr (.inr (Feet.sub (delM_sub L' k) h)))
theorem Feet.snoc' {L : List (Int × Msg)} {k : Int} {y : Msg} {s b : Nat} (h : Feet (L ++ [(k, y)]) b) (hy : ∀ b, y.Blk b → s ≤ b) : Feet L b ∨ s ≤ b := by
  rcases h.snoc with h | h
  · exact .inl h
  · exact .inr (hy b h)

set_option maxHeartbeats 1000000 in
theorem right_ok {w0 w : World} {most N : Int} {p mb q : Nat} {x : OpN} (h : Sim w0 w most p mb q N) (hx : OpOk w0 x) (hN4 : N < 4611686018427387904) :
    CallsW Try.prog 10 [.pointer (some ⟨p, 0, none⟩), .pointer (some ⟨q, 0, none⟩), .agg (Enc.op.f x).toArray] w (Rets fun v w' => v = .bool true ∧ Sim w0 w' most p mb q (N + 1)) := by
  refine sx10.ok ?_
  unfold sx10
  intro w1 hg1
  obtain ⟨⟨B1, B2, next, L, a, n, c, L', hN, hR, hc, hd, hn, b1, b2, s1, s2⟩, hgr⟩ := h.more hg1
  have hlen : L.length = L'.length := by have := congrArg List.length hc; rwa [conts_len, conts_len] at this
  have hgets : ∀ k, (getM L k).map (·.c) = (getM L' k).map (·.c) := fun k => by rw [← conts_get, ← conts_get, hc]
  have stay : ∀ w', Grew w1 w' → Sim w0 w' most p mb q (N + 1) := fun w' hg => by
    have hSim : Sim w0 w1 most p mb q N := ⟨⟨B1, B2, next, L, a, n, c, L', hN, hR, hc, hd, hn, b1, b2, s1, s2⟩, hgr⟩
    exact (hSim.more hg).up (by omega)
  have up1 : ∀ {y z : World}, Upd (fun b => b = p ∨ b = mb) y z → Grew w0 y → Grew w0 z := fun hu hg => hg.then_own hu fun b hb => by
    rcases hb with rfl | rfl
    · have := hN.pB; omega
    · have := hN.mB; omega
  have keepR : ∀ {y z : World}, Upd (fun b => b = p ∨ b = mb) y z → RefAt y B2 q a n c most next L' → RefAt z B2 q a n c most next L' := fun hu hr => hr.upd hu fun b hb hS => hd b (by rcases hS with rfl | rfl; exact .inl rfl; exact .inr (.inl rfl)) hb
  have e1 := hx.e; have e2 := hx.k; have e3 := hx.p
  refine ⟨fun _ => ?_, fun _ => ⟨fun _ => ?_, fun _ => ⟨fun _ => ?_, fun _ => ⟨fun _ => ?_, fun _ => ⟨fun _ => ?_, fun _ => ?_⟩⟩⟩⟩⟩
  · -- Send
    refine (Send_ok (x := x.m) hN (hx.at_.grew hgr) hx.fits (by omega) (by omega) (by omega) (by omega) s1).use fun v w2 hp => ?_
    rcases hp with ⟨hs, hv, hg⟩ | ⟨hs, ⟨hge, hv, hg⟩ | ⟨hlt, hv, y, hy, hyb, hN2, hu⟩⟩
    · subst hv
      refine ⟨_, _, rfl, (rSend_ok (x := x.m) (hR.grew hg) (hx.at_.grew (hgr.trans hg)) hx.fits (by omega) (by omega) (by omega) (by omega) (Nat.le_trans s2 hg.size)).use fun v w7 hp => ?_⟩
      rcases hp with ⟨-, hv, hg7⟩ | ⟨hs', -⟩
      · subst hv; exact ⟨_, _, rfl, fun _ => ⟨_, rfl, rfl, stay _ (hg.trans hg7)⟩, fun h => (by simp at h)⟩
      · rw [hs] at hs'; cases hs'
    · subst hv
      refine ⟨_, _, rfl, (rSend_ok (x := x.m) (hR.grew hg) (hx.at_.grew (hgr.trans hg)) hx.fits (by omega) (by omega) (by omega) (by omega) (Nat.le_trans s2 hg.size)).use fun v w7 hp => ?_⟩
      rcases hp with ⟨hs', -⟩ | ⟨-, ⟨-, hv, hg7⟩ | ⟨hlt', -⟩⟩
      · rw [hs] at hs'; cases hs'
      · subst hv; exact ⟨_, _, rfl, fun _ => ⟨_, rfl, rfl, stay _ (hg.trans hg7)⟩, fun h => (by simp at h)⟩
      · omega
    · subst hv
      have hR2 := keepR hu hR
      have s12 := hu.size
      refine ⟨_, _, rfl, (rSend_ok (x := x.m) hR2 (hx.at_.grew (up1 hu hgr)) hx.fits (by omega) (by omega) (by omega) (by omega) (Nat.le_trans s2 s12)).use fun v w7 hp => ?_⟩
      rcases hp with ⟨hs', -⟩ | ⟨-, ⟨hge', -⟩ | ⟨-, hv, y', a', n', c', hy', hyb', hab', hR7, hu7⟩⟩
      · rw [hs] at hs'; cases hs'
      · omega
      · subst hv
        refine ⟨_, _, rfl, fun _ => ⟨_, rfl, by simp, ?_⟩, fun h => (by simp at h)⟩
        exact sim_of hgr hN2 hu (fun b hb => Feet.snoc' hb hyb) hN hR hR7 hu7 (fun b hb => RFoot.snoc hb hab' hyb') (by rw [conts_snoc, conts_snoc, hc, hy, hy']) hd (by omega) b1 b2 s1 s2
  · -- Deliver
    refine (Deliver_ok (k := x.k) hN).use fun v w12 ⟨z, e, hv, hG⟩ => ?_
    subst hv
    refine ⟨_, _, _, _, _, _, _, _, _, _, _, _, _, _, _, _, rfl, fun w25 hg25 => ?_⟩
    have hk := hgets x.k
    unfold Got at hG
    cases hL : getM L x.k with
    | none =>
      rw [hL] at hG hk
      obtain ⟨rfl, rfl, hg⟩ := hG
      have hL' : getM L' x.k = none := by cases h' : getM L' x.k with | none => rfl | some _ => rw [h'] at hk; cases hk
      have hg25' := hg.trans hg25
      refine (rDeliver_ok (k := x.k) (hR.grew hg25') (Nat.le_trans s2 hg25'.size)).use fun v w26 ⟨z', e', hv, hG'⟩ => ?_
      unfold RGot at hG'
      rw [hL'] at hG'
      obtain ⟨rfl, rfl, hg26⟩ := hG'
      subst hv
      refine ⟨_, _, _, _, _, _, _, _, _, _, _, _, _, _, _, _, rfl, fun w39 hg39 => ?_⟩
      refine (same_ok (x := msg0) (y := msg0) msg0_at msg0_at rfl ⟨by simp [msg0, msgV0], by simp [msg0, msgV0], by simp [msg0, msgV0], by simp [msg0, msgV0]⟩ (by simp [msg0, msgV0]) (by simp [msg0, msgV0]) (by simp [msg0, msgV0])).use fun v w40 ⟨hv, hg40⟩ => ?_
      subst hv
      exact ⟨_, rfl, fun _ => ⟨_, rfl, rfl, stay _ (hg25'.trans (hg26.trans (hg39.trans hg40)))⟩, fun h => (by cases h)⟩
    | some y =>
      rw [hL] at hG hk
      obtain ⟨rfl, rfl, hN12, hy, hys, hyf, hu⟩ := hG
      have hu' := hu.mono (S' := fun b => b = p ∨ b = mb) fun b _ hb => .inr hb
      obtain ⟨y', hL', hyc⟩ : ∃ y', getM L' x.k = some y' ∧ z.c = y'.c := by
        cases h' : getM L' x.k with
        | none => rw [h'] at hk; cases hk
        | some y' => rw [h'] at hk; simp at hk; exact ⟨y', rfl, hk⟩
      have hR25 := (keepR hu' hR).grew hg25
      have hN25 := hN12.grew hg25
      have hU : Upd (fun b => b = p ∨ b = mb) w1 w25 := hu'.trans hg25.upd
      have s25 := hU.size
      refine (rDeliver_ok (k := x.k) hR25 (by omega)).use fun v w26 ⟨z', e', hv, hG'⟩ => ?_
      unfold RGot at hG'
      rw [hL'] at hG'
      obtain ⟨rfl, rfl, a', n', c', hR26, hab', hz'at, hu26⟩ := hG'
      subst hv
      refine ⟨_, _, _, _, _, _, _, _, _, _, _, _, _, _, _, _, rfl, fun w39 hg39 => ?_⟩
      have hz26 := ((hy.grew hg25).upd hu26 fun b hb e => hd b (.inr (.inr (hyf b hb).1)) (.inl e)).grew hg39
      have hsm := soundMsg_small hys.1
      have hS26 : Sim w0 w26 most p mb q (N + 1) := sim_of hgr hN25 hU (fun b hb => .inl (Feet.sub (delM_sub L x.k) hb)) hN hR hR26 (hu26.mono fun b _ hb => .inl hb) (fun b hb => RFoot.del hb hab') (by rw [conts_del, conts_del, hc]) hd (by omega) b1 b2 s1 s2
      refine (same_ok (x := z) (y := z') hz26.at (hz'at.grew hg39) hyc hys.2 (by omega) (by omega) (by omega)).use fun v w40 ⟨hv, hg40⟩ => ?_
      subst hv
      exact ⟨_, rfl, fun _ => ⟨_, rfl, rfl, hS26.more (hg39.trans hg40)⟩, fun h => (by cases h)⟩
  · -- Drop
    intro w44 hg44
    have nb : ∀ {x y : World}, SameB x y [] := by intro x y; simp [SameB]
    refine (Drop_ok (k := x.k) (hN.grew hg44)).use' fun v w45 ⟨z, e, hv, hG⟩ => ?_
    subst hv
    have hk := hgets x.k
    have s44 := hg44.size
    unfold Got at hG
    cases hL : getM L x.k with
    | none =>
      rw [hL] at hG hk
      obtain ⟨rfl, rfl, hg⟩ := hG
      have hL' : getM L' x.k = none := by cases h' : getM L' x.k with | none => rfl | some _ => rw [h'] at hk; cases hk
      have hg45 := hg44.trans hg
      refine ⟨_, rfl, nb, (rDrop_ok (k := x.k) (hR.grew hg45) (Nat.le_trans s2 hg45.size)).use' fun v w49 ⟨z', e', hv, hG'⟩ => ?_⟩
      unfold RGot at hG'
      rw [hL'] at hG'
      obtain ⟨rfl, rfl, hg49⟩ := hG'
      subst hv
      exact ⟨_, rfl, _, rfl, rfl, stay _ (hg45.trans hg49)⟩
    | some y =>
      rw [hL] at hG hk
      obtain ⟨rfl, rfl, hN45, hy, hys, hyf, hu⟩ := hG
      have hu' : Upd (fun b => b = p ∨ b = mb) w1 w45 := hg44.upd.trans (hu.mono fun b _ hb => .inr hb)
      obtain ⟨y', hL', hyc⟩ : ∃ y', getM L' x.k = some y' ∧ z.c = y'.c := by
        cases h' : getM L' x.k with
        | none => rw [h'] at hk; cases hk
        | some y' => rw [h'] at hk; simp at hk; exact ⟨y', rfl, hk⟩
      have hR45 := keepR hu' hR
      have s45 := hu'.size
      refine ⟨_, rfl, nb, (rDrop_ok (k := x.k) hR45 (by omega)).use' fun v w49 ⟨z', e', hv, hG'⟩ => ?_⟩
      unfold RGot at hG'
      rw [hL'] at hG'
      obtain ⟨rfl, rfl, a', n', c', hR49, hab', -, hu49⟩ := hG'
      subst hv
      exact ⟨_, rfl, _, rfl, rfl, sim_of hgr hN45 hu' (fun b hb => .inl (Feet.sub (delM_sub L x.k) hb)) hN hR hR49 (hu49.mono fun b _ hb => .inl hb) (fun b hb => RFoot.del hb hab') (by rw [conts_del, conts_del, hc]) hd (by omega) b1 b2 s1 s2⟩
  · -- Copy
    have hk := hgets x.k
    refine (Copy_ok (k := x.k) hN (by omega) s1).use fun v w53 hp => ?_
    cases hL : getM L x.k with
    | none =>
      rw [hL] at hp hk
      obtain ⟨hv, hg⟩ := hp
      have hL' : getM L' x.k = none := by cases h' : getM L' x.k with | none => rfl | some _ => rw [h'] at hk; cases hk
      subst hv
      refine ⟨_, _, rfl, (rCopy_ok (k := x.k) (hR.grew hg) (by omega) (Nat.le_trans s2 hg.size)).use fun v w58 hp => ?_⟩
      rw [hL'] at hp
      obtain ⟨hv, hg58⟩ := hp
      subst hv
      exact ⟨_, _, rfl, fun _ => ⟨_, rfl, rfl, stay _ (hg.trans hg58)⟩, fun h => (by simp at h)⟩
    | some z =>
      rw [hL] at hp hk
      obtain ⟨z', hL', hzc⟩ : ∃ y', getM L' x.k = some y' ∧ z.c = y'.c := by
        cases h' : getM L' x.k with
        | none => rw [h'] at hk; cases hk
        | some y' => rw [h'] at hk; simp at hk; exact ⟨y', rfl, hk⟩
      rcases hp with ⟨hge, hv, hg⟩ | ⟨hlt, hv, y, hy, hyb, hN2, hu⟩
      · subst hv
        refine ⟨_, _, rfl, (rCopy_ok (k := x.k) (hR.grew hg) (by omega) (Nat.le_trans s2 hg.size)).use fun v w58 hp => ?_⟩
        rw [hL'] at hp
        rcases hp with ⟨-, hv, hg58⟩ | ⟨hlt', -⟩
        · subst hv; exact ⟨_, _, rfl, fun _ => ⟨_, rfl, rfl, stay _ (hg.trans hg58)⟩, fun h => (by simp at h)⟩
        · omega
      · subst hv
        have hR2 := keepR hu hR
        have s12 := hu.size
        refine ⟨_, _, rfl, (rCopy_ok (k := x.k) hR2 (by omega) (Nat.le_trans s2 s12)).use fun v w58 hp => ?_⟩
        rw [hL'] at hp
        rcases hp with ⟨hge', -⟩ | ⟨-, hv, y', a', n', c', hy', hyb', hab', hR7, hu7⟩
        · omega
        · subst hv
          refine ⟨_, _, rfl, fun _ => ⟨_, rfl, by simp, ?_⟩, fun h => (by simp at h)⟩
          exact sim_of hgr hN2 hu (fun b hb => Feet.snoc' hb hyb) hN hR hR7 hu7 (fun b hb => RFoot.snoc hb hab' hyb') (by rw [conts_snoc, conts_snoc, hc, hy, hy', hzc]) hd (by omega) b1 b2 s1 s2
  · -- Flights
    refine (NFlights_ok hN).use fun v w63 ⟨a65, l65, c65, La, hv, hLo, hLc, hLm, hg63⟩ => ?_
    subst hv
    refine ⟨_, _, _, rfl, (rFlights_ok (hR.grew hg63)).use fun v w67 ⟨a69, l69, c69, Lb, hv, hRo, hRc, hRm, hg67⟩ => ?_⟩
    subst hv
    have hl : La.length = L.length := by have := congrArg List.length hLc; rwa [conts_len, conts_len] at this
    have hroom := hN.room; have hm0 := hN.m0
    refine ⟨_, _, _, rfl, (flights_ok ((FlAt.own hLo hLm).grew hg67) (FlAt.own hRo hRm) (by rw [hLc, hRc, hc]) hLm.ok (by omega)).use fun v w71 ⟨hv, hg71⟩ => ?_⟩
    subst hv
    exact ⟨_, rfl, _, rfl, rfl, stay _ (hg63.trans (hg67.trans hg71))⟩
  · -- Next
    refine (Next_ok hN).use fun v w75 ⟨hv, hw⟩ => ?_
    subst hv; subst hw
    refine ⟨_, rfl, (rNext_ok hR).use fun v w79 ⟨hv, hw⟩ => ?_⟩
    subst hv; subst hw
    exact ⟨_, rfl, _, rfl, by simp, stay _ (Grew.refl _)⟩

set_option maxHeartbeats 1000000 in
theorem NetExact_ok {d : Int} {a : Option Addr} {n c : Nat} {l : List OpN} {w : World} (hd : (Lit.int .i64 d).wf = true) (hr : Reads w Enc.op (a, n, c) l) (hcl : ∀ x ∈ l, OpOk w x) (hn : l.length ≤ maxLen) (hb : l.length * 144 ≤ 140737488351232) :
    CallsW Try.prog 3 [.int .i64 d, .slice a n c] w (Rets fun v w' => v = .bool true ∧ Grew w w') := by
  refine sx3.ok ?_
  unfold sx3
  have hS0 : Script w a n c l := ⟨hr, hcl⟩
  refine awakeN_ok.use fun v w1 ⟨hv, hg1⟩ => ?_
  subst hv
  refine ⟨_, rfl, fun h => (by cases h), fun _ => ?_⟩
  refine New_ok.use fun v w5 ⟨hg5, hv⟩ => ?_
  have hg5' := hg1.trans hg5
  rcases hv with ⟨hbad, hv⟩ | ⟨hd4, p, mb, hv, hA⟩
  · -- no net at all
    subst hv
    refine ⟨_, _, rfl, rNew_ok.use fun v w10 ⟨hg10, hv⟩ => ?_⟩
    have hg10' := hg5'.trans hg10
    rcases hv with ⟨-, hv⟩ | ⟨hd4, -⟩
    rotate_left
    · omega
    subst hv
    refine ⟨_, _, rfl, fun b w' => b = false ∧ w' = w10, ⟨fun h => (by simp at h), fun _ => ⟨rfl, rfl⟩⟩, ?_⟩
    rintro b16 w17 ⟨rfl, rfl⟩
    refine ⟨fun h => (by cases h), fun _ => ?_⟩
    refine ⟨fun w' => Grew w w', ⟨fun i w' => ∃ k : Nat, i = k ∧ k ≤ 2000 ∧ Grew w w', fun i _ => 2000 - i.toNat, ⟨0, rfl, Nat.zero_le _, hg10'⟩, ?_⟩, ?_⟩
    · rintro i w21 ⟨k, rfl, hk, hg21⟩
      refine ⟨fun hlt => ⟨fun h2000 => ?_, fun _ => hg21⟩, fun _ => hg21⟩
      simp only [decide_eq_true_eq] at hlt h2000
      have hn' : n = l.length := hr.2.1
      obtain ⟨da, x, hda, hx, -, -, hc1, -, -⟩ := (hS0.grew hg21).cells (k := k) (by omega)
      obtain ⟨da', x', hda', hx', hxc⟩ := (hr.grew hg21).at0 (k := k) (by omega)
      rw [hda] at hda'; cases hda'
      rw [hx] at hx'; cases hx'
      have hxc' : CellsAt w21 (Addr.add da (((k : Nat) : Int).toNat * 12)) 0 (Enc.op.f x) := hxc
      subst hda
      refine ⟨fun p25 p26 w' => w' = w21 ∧ p25 = none ∧ p26 = none, ⟨⟨by omega, by omega⟩, _, hc1, fun h => (by omega), fun _ => ⟨fun _ => ⟨rfl, rfl, rfl⟩, fun _ => ⟨rfl, rfl, rfl⟩⟩⟩, ?_⟩
      rintro p25 p26 w27 ⟨rfl, rfl, rfl⟩
      refine ⟨⟨by omega, by omega⟩, _, _, _, _, _, _, _, _, _, _, _, _, _, _, _, _, _, _, hxc', ?_⟩
      refine (rightNil_ok (x := x) ((hS0.grew hg21).ok x (List.mem_of_getElem? hx))).use fun v w41 ⟨hv, hg41⟩ => ?_
      subst hv
      have hw : IntKind.i64.wrap ((k : Int) + 1) = ((k + 1 : Nat) : Int) := by rw [IntKind.wrap_i64]; omega
      rw [hw]
      exact ⟨_, rfl, fun h => (by cases h), fun _ => ⟨⟨k + 1, rfl, by omega, hg21.trans hg41⟩, by show 2000 - (((k + 1 : Nat) : Int)).toNat < 2000 - ((k : Int)).toNat; omega⟩⟩
    intro w45 hg45
    refine nFlights_ok.use fun v w46 ⟨a48, l48, c48, La, hv, hLo, hLc, hLm, hg46⟩ => ?_
    subst hv
    refine ⟨_, _, _, rfl, nrFlights_ok.use fun v w50 ⟨a52, l52, c52, Lb, hv, hRo, hRc, hRm, hg50⟩ => ?_⟩
    subst hv
    have hl0 : La.length = 0 := by have := congrArg List.length hLc; rwa [conts_len] at this
    refine ⟨_, _, _, rfl, (flights_ok ((FlAt.own hLo hLm).grew hg50) (FlAt.own hRo hRm) (by rw [hLc, hRc]) hLm.ok (by omega)).use fun v w54 ⟨hv, hg54⟩ => ?_⟩
    subst hv
    refine ⟨_, rfl, fun _ => ?_, fun h => (by cases h)⟩
    refine nNext_ok.use fun v w58 ⟨hv, hw⟩ => ?_
    subst hv; subst hw
    refine ⟨_, rfl, nrNext_ok.use fun v w62 ⟨hv, hw⟩ => ?_⟩
    subst hv; subst hw
    exact ⟨_, rfl, _, rfl, by simp, hg45.trans (hg46.trans (hg50.trans hg54))⟩
  subst hv
  refine ⟨_, _, rfl, rNew_ok.use fun v w10 ⟨hg10, hv⟩ => ?_⟩
  have hg10' := hg5'.trans hg10
  rcases hv with ⟨hbad, -⟩ | ⟨-, q, hv, hR⟩
  · omega
  subst hv
  have hA10 := hA.grew hg10
  have s1 := hg1.size; have s5 := hg5.size; have s10 := hg10.size
  have hSim : Sim w w10 d p mb q 0 := ⟨⟨w1.heap.size, w5.heap.size, 0, [], none, 0, 0, [], hA10, hR, rfl, fun b hb hr => by
    have h1 := (hA.foot hb).2
    have h2 := (hR.foot hr).1
    omega, Int.le_refl _, by omega, by omega, by omega, by omega⟩, hg10'⟩
  refine ⟨_, _, rfl, fun b w' => b = false ∧ w' = w10, ⟨fun h => (by simp at h), fun _ => ⟨rfl, rfl⟩⟩, ?_⟩
  rintro b16 w17 ⟨rfl, rfl⟩
  refine ⟨fun h => (by cases h), fun _ => ?_⟩
  refine ⟨fun w' => ∃ N, Sim w w' d p mb q N, ⟨fun i w' => ∃ k : Nat, i = k ∧ k ≤ 2000 ∧ Sim w w' d p mb q k, fun i _ => 2000 - i.toNat, ⟨0, rfl, Nat.zero_le _, hSim⟩, ?_⟩, ?_⟩
  · rintro i w21 ⟨k, rfl, hk, hS⟩
    refine ⟨fun hlt => ⟨fun h2000 => ?_, fun _ => ⟨_, hS⟩⟩, fun _ => ⟨_, hS⟩⟩
    simp only [decide_eq_true_eq] at hlt h2000
    have hg21 := hS.grew
    have hn' : n = l.length := hr.2.1
    obtain ⟨da, x, hda, hx, -, -, hc1, -, -⟩ := (hS0.grew hg21).cells (k := k) (by omega)
    obtain ⟨da', x', hda', hx', hxc⟩ := (hr.grew hg21).at0 (k := k) (by omega)
    rw [hda] at hda'; cases hda'
    rw [hx] at hx'; cases hx'
    have hxc' : CellsAt w21 (Addr.add da (((k : Nat) : Int).toNat * 12)) 0 (Enc.op.f x) := hxc
    subst hda
    have hw : IntKind.i64.wrap ((k : Int) + 1) = ((k + 1 : Nat) : Int) := by rw [IntKind.wrap_i64]; omega
    have hk1 : ((k : Int) + 1) = ((k + 1 : Nat) : Int) := by omega
    have hxm := List.mem_of_getElem? hx
    refine ⟨fun p25 p26 w' => w' = w21 ∧ ((p25 = none ∧ p26 = none) ∨ (p25 = some ⟨p, 0, none⟩ ∧ p26 = some ⟨q, 0, none⟩)), ⟨⟨by omega, by omega⟩, _, hc1, fun h => (by omega), fun _ => ⟨fun _ => ⟨rfl, .inl ⟨rfl, rfl⟩⟩, fun _ => ⟨rfl, .inr ⟨rfl, rfl⟩⟩⟩⟩, ?_⟩
    rintro p25 p26 w27 ⟨rfl, hpp⟩
    refine ⟨⟨by omega, by omega⟩, _, _, _, _, _, _, _, _, _, _, _, _, _, _, _, _, _, _, hxc', ?_⟩
    rw [hw]
    rcases hpp with ⟨rfl, rfl⟩ | ⟨rfl, rfl⟩
    · refine (rightNil_ok (x := x) ((hS0.grew hg21).ok x hxm)).use fun v w41 ⟨hv, hg41⟩ => ?_
      subst hv
      exact ⟨_, rfl, fun h => (by cases h), fun _ => ⟨⟨k + 1, rfl, by omega, (hS.more hg41).up (by omega)⟩, by show 2000 - (((k + 1 : Nat) : Int)).toNat < 2000 - ((k : Int)).toNat; omega⟩⟩
    · refine (right_ok hS (hcl x hxm) (by omega)).use fun v w41 ⟨hv, hS41⟩ => ?_
      subst hv
      exact ⟨_, rfl, fun h => (by cases h), fun _ => ⟨⟨k + 1, rfl, by omega, hk1 ▸ hS41⟩, by show 2000 - (((k + 1 : Nat) : Int)).toNat < 2000 - ((k : Int)).toNat; omega⟩⟩
  rintro w45 ⟨N, ⟨B1, B2, next, L, a', n', c', L', hN, hRr, hc, hdj, -, -, -, -, -⟩, hg45⟩
  refine (NFlights_ok hN).use fun v w46 ⟨a48, l48, c48, La, hv, hLo, hLc, hLm, hg46⟩ => ?_
  subst hv
  refine ⟨_, _, _, rfl, (rFlights_ok (hRr.grew hg46)).use fun v w50 ⟨a52, l52, c52, Lb, hv, hRo, hRc, hRm, hg50⟩ => ?_⟩
  subst hv
  have hl0 : La.length = L.length := by have := congrArg List.length hLc; rwa [conts_len, conts_len] at this
  have hroom := hN.room; have hm0 := hN.m0
  refine ⟨_, _, _, rfl, (flights_ok ((FlAt.own hLo hLm).grew hg50) (FlAt.own hRo hRm) (by rw [hLc, hRc, hc]) hLm.ok (by omega)).use fun v w54 ⟨hv, hg54⟩ => ?_⟩
  subst hv
  refine ⟨_, rfl, fun _ => ?_, fun h => (by cases h)⟩
  have hgg := hg46.trans (hg50.trans hg54)
  refine (Next_ok (hN.grew hgg)).use fun v w58 ⟨hv, hw⟩ => ?_
  subst hv; subst hw
  refine ⟨_, rfl, (rNext_ok (hRr.grew hgg)).use fun v w62 ⟨hv, hw⟩ => ?_⟩
  subst hv; subst hw
  exact ⟨_, rfl, _, rfl, by simp, hg45.trans hgg⟩

open Go.ChangeShapes Go.WideShapes Go.ChangeAt Go.RowKit
set_option maxRecDepth 100000 in
theorem netExact_lifted (os : Os) (started : os.Started) (H : Type) (enc : TypeId × Value → H) :
    ReturnsInHanded {} Try.checked os 3 .any (Rows.netExactSpec.pre6 enc Try.prog Try.f3 Rows.netExactRow.domain false) (Rows.netExactSpec.post enc Try.prog Try.f3 false true false false) := by
  refine returnsInHanded_of_change_sized (C := Try.checked) (by kernel_rfl) started (by kernel_rfl) Try.func3
    (ChangeSpec.witness6 (enc := enc) (C := Try.checked) false ⟨#[], #[.int .i64 0, .slice none 0 0], []⟩ 8 (by kernel_rfl) (by kernel_rfl) (by kernel_rfl) (by kernel_rfl)) ?_
  intro W base args ds gs before hval0 hW hcnd hsz0 _
  have hval : ∀ (j : Nat) t v, Try.f3.params[j]? = some t → args[j]? = some v → Value.okWide Try.prog W .any base t v := hval0
  have hW' := hW
  obtain ⟨p, q, hA0, hV, rfl, hfz, hnd⟩ := hW
  have hA : DataW.TrodAll enc Try.prog W 0 (fun _ => true) true Try.f3.params.toList args.toList ds p := hA0
  have hsz : (DataW.weightsEach Try.prog (Try.f3.params.toList ++ _) (ds ++ gs)).all (· ≤ reachBytes) = true := hsz0
  rw [show Try.f3.params = #[3, 22] from by kernel_rfl] at hA hval hsz
  have hA1 := hA
  obtain ⟨v0, vs0, d0, ds0, p0, q0, hargs, rfl, rfl, h0, r0⟩ := trodAll_cons hA
  obtain ⟨v1, vs1, d1, ds1, p1, q1, rfl, rfl, rfl, h1, r1⟩ := trodAll_cons r0
  obtain ⟨rfl, rfl, rfl⟩ := trodAll_nil r1
  obtain rfl : args = #[v0, v1] := by cases args; simp_all
  obtain ⟨x0, rfl, hcl0⟩ := Go.Sx.open_int (P := Try.prog) (k := .i64) (t := 3) (by kernel_rfl) (hval 0 3 v0 rfl rfl) h0
  obtain ⟨a1, n1, c1, l1, rfl, hr1, hcl1, hn1, hb1⟩ := open_sub (P := Try.prog) (t := 22) (e := 37) (arg_sub (e := 37) (j := 1) hsz rfl rfl (by kernel_rfl) (hval 1 22 v1 rfl rfl) h1) (by kernel_rfl) op_kinds (by kernel_rfl) (B := 144) (by kernel_rfl) (E := Enc.op) rfl op_of
  clear hA0 hA1 hval0 hsz0
  refine (CallsW.calls ⟨_, Try.func3, by kernel_rfl, by kernel_rfl⟩ (NetExact_ok hcl0 hr1 hcl1 hn1 hb1)).mono fun e W' ⟨w', hh, hk, v, he, hv, hg⟩ => ?_
  subst he; subst hv
  exact ⟨_, rfl, post_true (tb := 4) (by kernel_rfl) rfl (by kernel_rfl) (by kernel_rfl) ⟨rfl, rfl, rfl⟩ (by decide +kernel) hW' (below_of hg hh hk)⟩

theorem netExact_holds : Rows.NetExactSaid :=
  OpenClaim.holds_of_wide 3 Try.f3 rfl rfl rfl rfl rfl rfl rfl ⟨rfl, rfl, rfl, rfl, rfl⟩ rfl rfl rfl rfl rfl (by kernel_rfl) Try.func3 (by kernel_rfl)
    (of_decide_eq_true (by kernel_rfl)) (by unfold Func.isWrapper; first | (rw [if_pos (by decide +kernel)]; kernel_rfl) | (rw [if_neg (by decide +kernel)]; exact ⟨rfl, rfl⟩))
    (fun os started H enc _ => netExact_lifted os started H enc)
end Go.Proofs.Ytlkfkcgnlnbdeaa
