/- NetApart: what it computes, and its row. Conditions: none. -/
import Derived.Test.YtlkfkcgnlnbdeaaProg
import Derived.Test.YtlkfkcgnlnbdeaaKindsN
import Derived.Test.YtlkfkcgnlnbdeaaRows
namespace Go.Proofs.Ytlkfkcgnlnbdeaa
open Go.Sx
set_option maxRecDepth 100000
set_option linter.unusedVariables false
set_option linter.unusedSimpArgs false
/- reprise/repriselaw16.NetApart -/
def sx6 (d : Option Addr) (d_n d_c : Nat) (R : Ending → World → Prop) (w : World) : Prop :=
  CallsW Try.prog 7 [] w (RetR R fun u2 w1 => ∃ (b3 : Bool), u2 = .bool b3 ∧ (((!b3) = true → R (.returned (.bool false)) w1) ∧ ((!b3) = false → CallsW Try.prog 8 [.int .i64 9] w1 (RetR R fun u6 w5 => ∃ (p7 : Option Addr)
    (n8 : Int), u6 = .tuple #[.pointer p7, .int .i64 n8] ∧ CallsW Try.prog 8 [.int .i64 9] w5 (RetR R fun u11 w10 => ∃ (p12 : Option Addr) (n13 : Int), u11 = .tuple #[.pointer p12, .int .i64 n13] ∧ ∃ (J15 : Bool → World →
    Prop), ((((n8 != 0) = true → J15 true w10) ∧ ((n8 != 0) = false → (((n13 != 0) = true → J15 true w10) ∧ ((n13 != 0) = false → (((Option.isNone p7) = true → J15 true w10) ∧ ((Option.isNone p7) = false → J15
    (Option.isNone p12) w10))))))) ∧ ∀ (b16 : Bool) (w17 : World), J15 b16 w17 → ((b16 = true → R (.returned (.bool false)) w17) ∧ (b16 = false → ∃ (J18 : World → Prop), (∃ (I19 : Int → World → Prop) (m19 : Int → World →
    Nat), I19 0 w17 ∧ ∀ (n20 : Int) (w21 : World), I19 n20 w21 → (((decide (n20 < ((d_n : Nat) : Int))) = true → (((decide (n20 < 2000)) = true → ∃ (J22 : World → Prop), (withSome d (fun d23 => (0 ≤ n20 ∧ n20 < (d_n :
    Nat)) ∧ ∃ (n24 : Int), w21.cell? (Addr.add d23 (n20.toNat * 12)) = some (.int .i64 n24) ∧ (((n24 == 1) = true → withSome d (fun d25 => (0 ≤ n20 ∧ n20 < (d_n : Nat)) ∧ ∃ (n26 : Int) (n27 : Int) (n28 : Int) (n29 : Int)
    (n30 : Int) (n31 : Int) (a32 : Option Addr) (l32 c32 : Nat) (a33 : Option Addr) (l33 c33 : Nat) (a34 : Option Addr) (l34 c34 : Nat), CellsAt w21 (Addr.add (Addr.add d25 (n20.toNat * 12)) 3) 0 [.int .i64 n26, .int .i64
    n27, .int .i64 n28, .int .i64 n29, .int .i64 n30, .int .i64 n31, .slice a32 l32 c32, .slice a33 l33 c33, .slice a34 l34 c34] ∧ CallsW Try.prog 16 [.pointer p7, .agg #[.int .i64 n26, .int .i64 n27, .int .i64 n28, .int
    .i64 n29, .int .i64 n30, .int .i64 n31, .slice a32 l32 c32, .slice a33 l33 c33, .slice a34 l34 c34]] w21 (RetR R fun u36 w35 => ∃ (n37 : Int) (n38 : Int), u36 = .tuple #[.int .i64 n37, .int .i64 n38] ∧ J22 w35))) ∧
    ((n24 == 1) = false → (((n24 == 2) = true → withSome d (fun d40 => (0 ≤ n20 ∧ n20 < (d_n : Nat)) ∧ ∃ (n41 : Int), w21.cell? (Addr.add (Addr.add d40 (n20.toNat * 12)) 2) = some (.int .i64 n41) ∧ CallsW Try.prog 19
    [.pointer p7, .int .i64 n41] w21 (RetR R fun u43 w42 => ∃ (n44 : Int) (n45 : Int) (n46 : Int) (n47 : Int) (n48 : Int) (n49 : Int) (a50 : Option Addr) (l50 c50 : Nat) (a51 : Option Addr) (l51 c51 : Nat) (a52 : Option
    Addr) (l52 c52 : Nat) (n53 : Int), u43 = .tuple #[.agg #[.int .i64 n44, .int .i64 n45, .int .i64 n46, .int .i64 n47, .int .i64 n48, .int .i64 n49, .slice a50 l50 c50, .slice a51 l51 c51, .slice a52 l52 c52], .int .i64
    n53] ∧ J22 w42))) ∧ ((n24 == 2) = false → (((n24 == 4) = true → withSome d (fun d55 => (0 ≤ n20 ∧ n20 < (d_n : Nat)) ∧ ∃ (n56 : Int), w21.cell? (Addr.add (Addr.add d55 (n20.toNat * 12)) 2) = some (.int .i64 n56) ∧
    CallsW Try.prog 17 [.pointer p7, .int .i64 n56] w21 (RetR R fun u58 w57 => ∃ (n59 : Int) (n60 : Int), u58 = .tuple #[.int .i64 n59, .int .i64 n60] ∧ J22 w57))) ∧ ((n24 == 4) = false → J22 w21)))))))) ∧ ∀  (w62 :
    World), J22 w62 → (I19 (IntKind.i64.wrap (n20 + 1)) w62 ∧ m19 (IntKind.i64.wrap (n20 + 1)) w62 < m19 n20 w21)) ∧ ((decide (n20 < 2000)) = false → J18 w21))) ∧ ((decide (n20 < ((d_n : Nat) : Int))) = false → J18 w21)))
    ∧ ∀  (w63 : World), J18 w63 → ∃ (J64 : Bool → World → Prop), (CallsW Try.prog 14 [.pointer p12] w63 (RetR R fun u66 w65 => ∃ (n67 : Int), u66 = .int .i64 n67 ∧ (((n67 != 0) = true → J64 true w65) ∧ ((n67 != 0) = false
    → CallsW Try.prog 12 [.pointer p12] w65 (RetR R fun u70 w69 => ∃ (a71 : Option Addr) (l71 c71 : Nat), u70 = .slice a71 l71 c71 ∧ J64 (((l71 : Nat) : Int) != 0) w69))))) ∧ ∀ (b73 : Bool) (w74 : World), J64 b73 w74 →
    ((b73 = true → R (.returned (.bool false)) w74) ∧ (b73 = false → CallsW Try.prog 22 [.int .i64 5] w74 (RetR R fun u76 w75 => ∃ (n77 : Int) (n78 : Int) (n79 : Int) (n80 : Int) (n81 : Int) (n82 : Int) (a83 : Option
    Addr) (l83 c83 : Nat) (a84 : Option Addr) (l84 c84 : Nat) (a85 : Option Addr) (l85 c85 : Nat), u76 = .agg #[.int .i64 n77, .int .i64 n78, .int .i64 n79, .int .i64 n80, .int .i64 n81, .int .i64 n82, .slice a83 l83 c83,
    .slice a84 l84 c84, .slice a85 l85 c85] ∧ CallsW Try.prog 16 [.pointer p12, .agg #[.int .i64 n77, .int .i64 n78, .int .i64 n79, .int .i64 n80, .int .i64 n81, .int .i64 n82, .slice a83 l83 c83, .slice a84 l84 c84,
    .slice a85 l85 c85]] w75 (RetR R fun u88 w87 => ∃ (n89 : Int) (n90 : Int), u88 = .tuple #[.int .i64 n89, .int .i64 n90] ∧ CallsW Try.prog 19 [.pointer p12, .int .i64 0] w87 (RetR R fun u93 w92 => ∃ (n94 : Int) (n95 :
    Int) (n96 : Int) (n97 : Int) (n98 : Int) (n99 : Int) (a100 : Option Addr) (l100 c100 : Nat) (a101 : Option Addr) (l101 c101 : Nat) (a102 : Option Addr) (l102 c102 : Nat) (n103 : Int), u93 = .tuple #[.agg #[.int .i64
    n94, .int .i64 n95, .int .i64 n96, .int .i64 n97, .int .i64 n98, .int .i64 n99, .slice a100 l100 c100, .slice a101 l101 c101, .slice a102 l102 c102], .int .i64 n103] ∧ ∀ w105, Grew w92 w105 → ∀ w106, Grew w105 w106 →
    (((n89 == 0) = true → (((n90 == 0) = true → (((n103 == 0) = true → CallsW Try.prog 22 [.int .i64 5] w106 (Ret (fun u108 w107 => ∃ (n109 : Int) (n110 : Int) (n111 : Int) (n112 : Int) (n113 : Int) (n114 : Int) (a115 :
    Option Addr) (l115 c115 : Nat) (a116 : Option Addr) (l116 c116 : Nat) (a117 : Option Addr) (l117 c117 : Nat), u108 = .agg #[.int .i64 n109, .int .i64 n110, .int .i64 n111, .int .i64 n112, .int .i64 n113, .int .i64
    n114, .slice a115 l115 c115, .slice a116 l116 c116, .slice a117 l117 c117] ∧ SameB w106 w107 [] ∧ CallsW Try.prog 21 [.agg #[.int .i64 n94, .int .i64 n95, .int .i64 n96, .int .i64 n97, .int .i64 n98, .int .i64 n99,
    .slice a100 l100 c100, .slice a101 l101 c101, .slice a102 l102 c102], .agg #[.int .i64 n109, .int .i64 n110, .int .i64 n111, .int .i64 n112, .int .i64 n113, .int .i64 n114, .slice a115 l115 c115, .slice a116 l116
    c116, .slice a117 l117 c117]] w107 (Ret (fun u120 w119 => ∃ (b121 : Bool), u120 = .bool b121 ∧ SameB w107 w119 [] ∧ R (.returned (.bool b121)) w119) (fun c122 w119 => False))) (fun c118 w107 => False))) ∧ ((n103 == 0)
    = false → R (.returned (.bool false)) w106))) ∧ ((n90 == 0) = false → R (.returned (.bool false)) w106))) ∧ ((n89 == 0) = false → R (.returned (.bool false)) w106))))))))))))))
theorem sx6.ok {d : Option Addr} {d_n d_c : Nat} {R : Ending → World → Prop} {w : World} (h : sx6 d d_n d_c R w) : CallsW Try.prog 6 [.slice d d_n d_c] w R :=
  callsW_of mix Try.func6 (by kernel_rfl) (by kernel_rfl) (Eq.mpr (by kernel_rfl : denFn Try.prog { locals := [9], draws := [(21, { order := (.cons 0 (.cons 1 (.cons 2 (.cons 3 (.cons 4 (.cons 5 (.cons 6 (.cons 7 (.cons 8 (.cons 9 (.cons 10 (.cons 11 (.cons 12 (.cons 13 (.cons 14 (.cons 15 .nil)))))))))))))))), bars := [] })], loops := [(8, { slots := [(7, .int .i64)], cells := [] })], cuts := [(6, { slots := [(33, .bool)], cells := [] }), (9, { slots := [], cells := [] }), (17, { slots := [], cells := [] }), (18, { slots := [(84, .bool)], cells := [] })] } Try.f6 [.slice d d_n d_c] R w = sx6 d d_n d_c R w) h)


set_option maxHeartbeats 1000000 in
theorem NetApart_ok {a : Option Addr} {n c : Nat} {l : List OpN} {w : World} (hr : Reads w Enc.op (a, n, c) l) (hcl : ∀ x ∈ l, OpOk w x) (hn : l.length ≤ maxLen) (hb : l.length * 144 ≤ 140737488351232) :
    CallsW Try.prog 6 [.slice a n c] w (Rets fun v w' => v = .bool true ∧ Grew w w') := by
  refine sx6.ok ?_
  unfold sx6
  have hS : Script w a n c l := ⟨hr, hcl⟩
  refine awakeN_ok.use fun v w1 ⟨hv, hg1⟩ => ?_
  subst hv
  refine ⟨_, rfl, fun h => (by cases h), fun _ => ?_⟩
  refine New_ok.use fun v w5 ⟨hg5, hv⟩ => ?_
  rcases hv with ⟨hv, -⟩ | ⟨-, pa, ma, hv, hA⟩
  · omega
  subst hv
  refine ⟨_, _, rfl, New_ok.use fun v w10 ⟨hg10, hv⟩ => ?_⟩
  rcases hv with ⟨hv, -⟩ | ⟨-, pb, mb, hv, hB⟩
  · omega
  subst hv
  have hA10 := hA.grew hg10
  have hg5' := hg1.trans hg5
  have hg10' := hg5'.trans hg10
  refine ⟨_, _, rfl, fun b w' => b = false ∧ w' = w10, ⟨fun h => (by simp at h), fun _ => ⟨fun h => (by simp at h), fun _ => ⟨fun h => (by cases h), fun _ => ⟨rfl, rfl⟩⟩⟩⟩, ?_⟩
  rintro b16 w17 ⟨rfl, rfl⟩
  refine ⟨fun h => (by cases h), fun _ => ?_⟩
  have s5 := hg5'.size; have s1 := hg1.size
  have pa5 := (hA.foot (.inl rfl)); have ma5 := hA.foot (.inr (.inl rfl))
  have pbB := hB.pB; have mbB := hB.mB
  refine ⟨fun w' => (∃ next L, NetAt w' w1.heap.size pa ma 9 next L) ∧ NetAt w' w5.heap.size pb mb 9 0 [] ∧ Grew w w', ⟨fun i w' => ∃ (k : Nat) (next : Int) (L : List (Int × Msg)), i = k ∧ k ≤ 2000 ∧ k ≤ n ∧ next ≤ k ∧ NetAt w' w1.heap.size pa ma 9 next L ∧ NetAt w' w5.heap.size pb mb 9 0 [] ∧ Grew w w', fun i _ => 2000 - i.toNat, ⟨0, 0, [], rfl, Nat.zero_le _, Nat.zero_le _, Int.le_refl _, hA10, hB, hg10'⟩, ?_⟩, ?_⟩
  · rintro i w21 ⟨k, next, L, rfl, hk, hkn, hnk, hA21, hB21, hg21⟩
    refine ⟨fun hlt => ⟨fun h2000 => ?_, fun _ => ⟨⟨next, L, hA21⟩, hB21, hg21⟩⟩, fun _ => ⟨⟨next, L, hA21⟩, hB21, hg21⟩⟩
    simp only [decide_eq_true_eq] at hlt h2000
    obtain ⟨d, x, rfl, hx, hxo, hc0, hc1, hc2, hc3⟩ := (hS.grew hg21).cells (k := k) (by omega)
    have hw : IntKind.i64.wrap ((k : Int) + 1) = ((k + 1 : Nat) : Int) := by rw [IntKind.wrap_i64]; omega
    have s21 := hg21.size
    have hB1 : w1.heap.size ≤ w21.heap.size := by have := (hA21.foot (.inl rfl)); omega
    have up : ∀ {y z : World}, Upd (fun b => b = pa ∨ b = ma) y z → Grew w y → Grew w z := fun hu hg => hg.then_own hu fun b hb => by
      rcases hb with rfl | rfl
      · have := hA.pB; omega
      · have := hA.mB; omega
    have bk : ∀ {y z : World}, Upd (fun b => b = pa ∨ b = ma) y z → NetAt y w5.heap.size pb mb 9 0 [] → NetAt z w5.heap.size pb mb 9 0 [] := fun hu h => h.upd hu fun b hb hb' => by
      rcases hb with rfl | rfl | ⟨x, hx, -⟩
      · rcases hb' with h | h <;> omega
      · rcases hb' with h | h <;> omega
      · simp at hx
    refine ⟨fun w' => ∃ (next' : Int) (L' : List (Int × Msg)), next' ≤ k + 1 ∧ NetAt w' w1.heap.size pa ma 9 next' L' ∧ NetAt w' w5.heap.size pb mb 9 0 [] ∧ Grew w w', ⟨⟨by omega, by omega⟩, _, hc0, fun _ => ⟨⟨by omega, by omega⟩, _, _, _, _, _, _, _, _, _, _, _, _, _, _, _, hc3, ?_⟩, fun _ => ⟨fun _ => ⟨⟨by omega, by omega⟩, _, hc2, ?_⟩, fun _ => ⟨fun _ => ⟨⟨by omega, by omega⟩, _, hc2, ?_⟩, fun _ => ⟨next, L, by omega, hA21, hB21, hg21⟩⟩⟩⟩, ?_⟩
    · refine (Send_ok (x := x.m) hA21 hxo.at_ hxo.fits (by have := hxo.e; omega) (by have := hxo.k; omega) (by have := hxo.p; omega) (by omega) hB1).use fun v w35 hp => ?_
      rcases hp with ⟨-, hv, hg⟩ | ⟨-, ⟨-, hv, hg⟩ | ⟨-, hv, y, -, -, hN, hu⟩⟩
      · subst hv; exact ⟨_, _, rfl, next, L, by omega, hA21.grew hg, hB21.grew hg, hg21.trans hg⟩
      · subst hv; exact ⟨_, _, rfl, next, L, by omega, hA21.grew hg, hB21.grew hg, hg21.trans hg⟩
      · subst hv; exact ⟨_, _, rfl, next + 1, _, by omega, hN, bk hu hB21, up hu hg21⟩
    · refine (Deliver_ok (k := x.k) hA21).use fun v w42 ⟨y, e, hv, hG⟩ => ?_
      subst hv
      unfold Got at hG
      refine ⟨_, _, _, _, _, _, _, _, _, _, _, _, _, _, _, _, rfl, ?_⟩
      cases hg : getM L x.k with
      | none => rw [hg] at hG; exact ⟨next, L, by omega, hA21.grew hG.2.2, hB21.grew hG.2.2, hg21.trans hG.2.2⟩
      | some z =>
        rw [hg] at hG
        obtain ⟨-, -, hN, -, -, -, hu⟩ := hG
        have hu' := hu.mono (S' := fun b => b = pa ∨ b = ma) fun b _ hb => .inr hb
        exact ⟨next, _, by omega, hN, bk hu' hB21, up hu' hg21⟩
    · refine (Copy_ok (k := x.k) hA21 (by omega) hB1).use fun v w57 hp => ?_
      cases hg : getM L x.k with
      | none =>
        rw [hg] at hp
        obtain ⟨hv, hg⟩ := hp
        subst hv; exact ⟨_, _, rfl, next, L, by omega, hA21.grew hg, hB21.grew hg, hg21.trans hg⟩
      | some z =>
        rw [hg] at hp
        rcases hp with ⟨-, hv, hg⟩ | ⟨-, hv, y, -, -, hN, hu⟩
        · subst hv; exact ⟨_, _, rfl, next, L, by omega, hA21.grew hg, hB21.grew hg, hg21.trans hg⟩
        · subst hv; exact ⟨_, _, rfl, next + 1, _, by omega, hN, bk hu hB21, up hu hg21⟩
    · rintro w62 ⟨next', L', hn', hA62, hB62, hg62⟩
      rw [hw]
      exact ⟨⟨k + 1, next', L', rfl, by omega, by omega, by omega, hA62, hB62, hg62⟩, by show 2000 - (((k + 1 : Nat) : Int)).toNat < 2000 - ((k : Int)).toNat; omega⟩
  rintro w63 ⟨-, hB63, hg63⟩
  refine ⟨fun b w' => b = false ∧ NetAt w' w5.heap.size pb mb 9 0 [] ∧ Grew w w', ?_, ?_⟩
  · refine (Next_ok hB63).use fun v w65 ⟨hv, hw⟩ => ?_
    subst hv; subst hw
    refine ⟨_, rfl, fun h => (by simp at h), fun _ => ?_⟩
    refine (NFlights_ok hB63).use fun v w69 ⟨a71, l71, c71, Ls, hv, hLo, hLc, _, hg69⟩ => ?_
    subst hv
    have hl := hLo.len
    have hl2 := congrArg List.length hLc
    rw [conts_len] at hl2
    simp [conts] at hl2
    refine ⟨_, _, _, rfl, ?_, hB63.grew hg69, hg63.trans hg69⟩
    subst hl2
    simp at hl; subst hl; rfl
  rintro b73 w74 ⟨rfl, hB74, hg74⟩
  refine ⟨fun h => (by cases h), fun _ => ?_⟩
  refine laid_ok.use fun v w75 ⟨hv, hg75⟩ => ?_
  subst hv
  have hB75 := hB74.grew hg75
  have hg75' := hg74.trans hg75
  refine ⟨_, _, _, _, _, _, _, _, _, _, _, _, _, _, _, rfl, ?_⟩
  have hsz : w5.heap.size ≤ w75.heap.size := by have := hB75.foot (.inl rfl); omega
  have upb : ∀ {y z : World}, Upd (fun b => b = pb ∨ b = mb) y z → Grew w y → Grew w z := fun hu hg => hg.then_own hu fun b hb => by
    rcases hb with rfl | rfl <;> omega
  refine (Send_ok (x := laidM 5) hB75 laidM_at (laid_fits (by omega)) (by simp [laidM]) (by simp [laidM]) (by simp [laidM]) (by omega) hsz).use fun v w87 hp => ?_
  rcases hp with ⟨hs, -⟩ | ⟨-, ⟨hge, -⟩ | ⟨-, hv, y1, hy1, -, hN87, hu87⟩⟩
  · rw [laid_sound (by omega)] at hs; cases hs
  · simp at hge
  subst hv
  have hN87 : NetAt w87 w5.heap.size pb mb 9 1 [(0, y1)] := hN87
  have hg87 := upb hu87 hg75'
  refine ⟨_, _, rfl, ?_⟩
  refine (Deliver_ok (k := 0) hN87).use fun v w92 ⟨x, e, hv, hG⟩ => ?_
  obtain ⟨rfl, rfl, hN92, hx, hxs, hxn, hu92⟩ : x = y1 ∧ e = 0 ∧ NetAt w92 w5.heap.size pb mb 9 1 [] ∧ MO w92 w5.heap.size y1 ∧ (soundMsg y1.c = true ∧ y1.c.Fits) ∧ (∀ b, y1.Blk b → Feet [(0, y1)] b ∧ ¬ NFoot pb mb [] b) ∧ Upd (fun b => b = mb) w87 w92 := hG
  subst hv
  have hg92 : Grew w w92 := upb (hu92.mono fun b _ hb => .inr hb) hg87
  refine ⟨_, _, _, _, _, _, _, _, _, _, _, _, _, _, _, _, rfl, fun w105 hg105 w106 hg106 => ?_⟩
  have hg106' := hg105.trans hg106
  refine ⟨fun _ => ⟨fun _ => ⟨fun _ => ?_, fun h => (by simp at h)⟩, fun h => (by simp at h)⟩, fun h => (by simp at h)⟩
  have nb : ∀ {x y : World}, SameB x y [] := by intro x y; simp [SameB]
  refine laid_ok.use' fun v w107 ⟨hv, hg107⟩ => ?_
  subst hv
  refine ⟨_, _, _, _, _, _, _, _, _, _, _, _, _, _, _, rfl, nb, ?_⟩
  have hx107 := hx.grew (hg106'.trans hg107)
  refine (same_ok (x := x) (y := laidM 5) hx107.at laidM_at hy1 hxs.2 (by rw [hy1]; simp [laidM]) (by rw [hy1]; simp [laidM]) (by rw [hy1]; simp [laidM])).use' fun v w119 ⟨hv, hg119⟩ => ?_
  subst hv
  exact ⟨_, rfl, nb, _, rfl, rfl, hg92.trans (hg106'.trans (hg107.trans hg119))⟩

open Go.ChangeShapes Go.WideShapes Go.ChangeAt Go.RowKit
set_option maxRecDepth 100000 in
theorem netApart_lifted (os : Os) (started : os.Started) (H : Type) (enc : TypeId × Value → H) :
    ReturnsInHanded {} Try.checked os 6 .any (Rows.netApartSpec.pre6 enc Try.prog Try.f6 Rows.netApartRow.domain false) (Rows.netApartSpec.post enc Try.prog Try.f6 false true false false) := by
  refine returnsInHanded_of_change_sized (C := Try.checked) (by kernel_rfl) started (by kernel_rfl) Try.func6
    (ChangeSpec.witness6 (enc := enc) (C := Try.checked) false ⟨#[], #[.slice none 0 0], []⟩ 8 (by kernel_rfl) (by kernel_rfl) (by kernel_rfl) (by kernel_rfl)) ?_
  intro W base args ds gs before hval0 hW hcnd hsz0 _
  have hval : ∀ (j : Nat) t v, Try.f6.params[j]? = some t → args[j]? = some v → Value.okWide Try.prog W .any base t v := hval0
  have hW' := hW
  obtain ⟨p, q, hA0, hV, rfl, hfz, hnd⟩ := hW
  have hA : DataW.TrodAll enc Try.prog W 0 (fun _ => true) true Try.f6.params.toList args.toList ds p := hA0
  have hsz : (DataW.weightsEach Try.prog (Try.f6.params.toList ++ _) (ds ++ gs)).all (· ≤ reachBytes) = true := hsz0
  rw [show Try.f6.params = #[22] from by kernel_rfl] at hA hval hsz
  have hA1 := hA
  obtain ⟨v0, vs0, d0, ds0, p0, q0, hargs, rfl, rfl, h0, r0⟩ := trodAll_cons hA
  obtain ⟨rfl, rfl, rfl⟩ := trodAll_nil r0
  obtain rfl : args = #[v0] := by cases args; simp_all
  obtain ⟨a0, n0, c0, l0, rfl, hr0, hcl0, hn0, hb0⟩ := open_sub (P := Try.prog) (t := 22) (e := 37) (arg_sub (e := 37) (j := 0) hsz rfl rfl (by kernel_rfl) (hval 0 22 v0 rfl rfl) h0) (by kernel_rfl) op_kinds (by kernel_rfl) (B := 144) (by kernel_rfl) (E := Enc.op) rfl op_of
  clear hA0 hA1 hval0 hsz0
  refine (CallsW.calls ⟨_, Try.func6, by kernel_rfl, by kernel_rfl⟩ (NetApart_ok hr0 hcl0 hn0 hb0)).mono fun e W' ⟨w', hh, hk, v, he, hv, hg⟩ => ?_
  subst he; subst hv
  exact ⟨_, rfl, post_true (tb := 4) (by kernel_rfl) rfl (by kernel_rfl) (by kernel_rfl) ⟨rfl, rfl, rfl⟩ (by decide +kernel) hW' (below_of hg hh hk)⟩

theorem netApart_holds : Rows.NetApartSaid :=
  OpenClaim.holds_of_wide 6 Try.f6 rfl rfl rfl rfl rfl rfl rfl ⟨rfl, rfl, rfl, rfl, rfl⟩ rfl rfl rfl rfl rfl (by kernel_rfl) Try.func6 (by kernel_rfl)
    (of_decide_eq_true (by kernel_rfl)) (by unfold Func.isWrapper; first | (rw [if_pos (by decide +kernel)]; kernel_rfl) | (rw [if_neg (by decide +kernel)]; exact ⟨rfl, rfl⟩))
    (fun os started H enc _ => netApart_lifted os started H enc)
end Go.Proofs.Ytlkfkcgnlnbdeaa
