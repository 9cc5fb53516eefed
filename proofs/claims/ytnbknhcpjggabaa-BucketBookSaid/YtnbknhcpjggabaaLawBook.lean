/- BucketBook: what it computes, and its row. Conditions: none. -/
import Derived.Test.YtnbknhcpjggabaaProg
import Derived.Test.YtnbknhcpjggabaaRef4
import Derived.Test.YtnbknhcpjggabaaKindsC
import Derived.Test.YtnbknhcpjggabaaSxU
import Derived.Test.YtnbknhcpjggabaaRows
namespace Go.Proofs.Ytnbknhcpjggabaa
open Go.Sx
set_option maxRecDepth 100000
set_option linter.unusedVariables false
set_option linter.unusedSimpArgs false
/- reprise/repriselaw11.BucketBook -/
def sx7 (d : Option Addr) (d_n d_c : Nat) (R : Ending → World → Prop) (w : World) : Prop :=
  CallsW Try.prog 9 [] w (RetR R fun u2 w1 => ∃ (b3 : Bool), u2 = .bool b3 ∧ (((!b3) = true → R (.returned (.bool false)) w1) ∧ ((!b3) = false → ∃ (I5 : Option Addr → Nat → Nat → Option Addr → Nat → Nat → Option Addr → Nat
    → Nat → Int → World → Prop) (m5 : Option Addr → Nat → Nat → Option Addr → Nat → Nat → Option Addr → Nat → Nat → Int → World → Nat), I5 none 0 0 none 0 0 none 0 0 0 w1 ∧ ∀ (a6 : Option Addr) (l6 c6 : Nat) (a7 : Option
    Addr) (l7 c7 : Nat) (a8 : Option Addr) (l8 c8 : Nat) (n9 : Int) (w10 : World), I5 a6 l6 c6 a7 l7 c7 a8 l8 c8 n9 w10 → (((decide (n9 < ((d_n : Nat) : Int))) = true → (((decide (n9 < 4096)) = true → withSome d (fun d11
    => (0 ≤ n9 ∧ n9 < (d_n : Nat)) ∧ ∃ (b12 : Bool) (n13 : Int) (b14 : Bool) (n15 : Int) (b16 : Bool) (n17 : Int) (n18 : Int), CellsAt w10 (Addr.add d11 (n9.toNat * 7)) 0 [.bool b12, .int .u64 n13, .bool b14, .int .u64
    n15, .bool b16, .int .u64 n17, .int .i64 n18] ∧ ∀ w19, Grew w10 w19 → ∃ (J20 : Int → World → Prop), (∃ (I21 : Int → World → Prop) (m21 : Int → World → Nat), I21 0 w19 ∧ ∀ (n22 : Int) (w23 : World), I21 n22 w23 →
    (((decide (n22 < ((l7 : Nat) : Int))) = true → withSome a7 (fun d24 => (0 ≤ n22 ∧ n22 < (l7 : Nat)) ∧ ∃ (n25 : Int), w23.cell? (Addr.add d24 (n22.toNat * 1)) = some (.int .u64 n25) ∧ ∀ w26, Grew w23 w26 → (((n25 !=
    n13) = true → (I21 (IntKind.i64.wrap (n22 + 1)) w26 ∧ m21 (IntKind.i64.wrap (n22 + 1)) w26 < m21 n22 w23)) ∧ ((n25 != n13) = false → J20 n22 w26)))) ∧ ((decide (n22 < ((l7 : Nat) : Int))) = false → ∀ w27, Grew w23 w27
    → J20 n22 w27))) ∧ ∀ (n28 : Int) (w29 : World), J20 n28 w29 → ∃ (J30 : Option Addr → Nat → Nat → Option Addr → Nat → Nat → Option Addr → Nat → Nat → World → Prop), (((b12 = true → CallsW Try.prog 19 [.slice a6 l6 c6,
    .int .u64 n13] w29 (RetR R fun u32 w31 => ∃ (a33 : Option Addr) (l33 c33 : Nat) (n34 : Int), u32 = .tuple #[.slice a33 l33 c33, .int .i64 n34] ∧ (((n34 != 0) = true → R (.returned (.bool false)) w31) ∧ ((n34 != 0) =
    false → (((decide (n28 < ((l7 : Nat) : Int))) = true → ∀ n36 : Int, n36 = IntKind.i64.wrap (((l7 : Nat) : Int) - 1) → withSome a7 (fun d37 => (0 ≤ n36 ∧ n36 < (l7 : Nat)) ∧ ∃ (n38 : Int), w31.cell? (Addr.add d37
    (n36.toNat * 1)) = some (.int .u64 n38) ∧ withSome a7 (fun d39 => (0 ≤ n28 ∧ n28 < (l7 : Nat)) ∧ RoomAt w31 (Addr.add d39 (n28.toNat * 1)) 0 [.int .u64 n38] ∧ ∀ w40, w40 = setCells w31 (Addr.add d39 (n28.toNat * 1)) 0
    [.int .u64 n38] → ∀ n41 : Int, n41 = IntKind.i64.wrap (((l7 : Nat) : Int) - 1) → withSome a8 (fun d42 => (0 ≤ n41 ∧ n41 < (l8 : Nat)) ∧ ∃ (n43 : Int) (b44 : Bool) (n45 : Int) (b46 : Bool) (n47 : Int) (n48 : Int),
    CellsAt w40 (Addr.add d42 (n41.toNat * 6)) 0 [.int .u64 n43, .bool b44, .int .u64 n45, .bool b46, .int .u64 n47, .int .i64 n48] ∧ withSome a8 (fun d49 => (0 ≤ n28 ∧ n28 < (l8 : Nat)) ∧ RoomAt w40 (Addr.add d49
    (n28.toNat * 6)) 0 [.int .u64 n43, .bool b44, .int .u64 n45, .bool b46, .int .u64 n47, .int .i64 n48] ∧ ∀ w50, w50 = setCells w40 (Addr.add d49 (n28.toNat * 6)) 0 [.int .u64 n43, .bool b44, .int .u64 n45, .bool b46,
    .int .u64 n47, .int .i64 n48] → ∀ n51 : Int, n51 = IntKind.i64.wrap (((l7 : Nat) : Int) - 1) → (0 ≤ n51 ∧ n51 ≤ (c7 : Nat)) ∧ (0 ≤ ((n51.toNat : Nat) : Int) ∧ ((n51.toNat : Nat) : Int) ≤ (c8 : Nat)) ∧ J30 a33 l33 c33
    a7 n51.toNat c7 a8 (((n51.toNat : Nat) : Int).toNat) c8 w50))))) ∧ ((decide (n28 < ((l7 : Nat) : Int))) = false → J30 a33 l33 c33 a7 l7 c7 a8 l8 c8 w31)))))) ∧ (b12 = false → CallsW Try.prog 17 [.slice a6 l6 c6, .agg
    #[.int .u64 n13, .bool b14, .int .u64 n15, .bool b16, .int .u64 n17, .int .i64 n18]] w29 (RetR R fun u53 w52 => ∃ (a54 : Option Addr) (l54 c54 : Nat) (n55 : Int), u53 = .tuple #[.slice a54 l54 c54, .int .i64 n55] ∧ ∃
    (J57 : World → Prop), ((((n28 == ((l7 : Nat) : Int)) = true → (((!((n55 == 92) == (n28 == 16))) = true → R (.returned (.bool false)) w52) ∧ ((!((n55 == 92) == (n28 == 16))) = false → (((n55 != 0) = true → (((n55 !=
    92) = true → R (.returned (.bool false)) w52) ∧ ((n55 != 92) = false → J57 w52))) ∧ ((n55 != 0) = false → J57 w52))))) ∧ ((n28 == ((l7 : Nat) : Int)) = false → (((!((n55 == 92) == false)) = true → R (.returned (.bool
    false)) w52) ∧ ((!((n55 == 92) == false)) = false → (((n55 != 0) = true → (((n55 != 92) = true → R (.returned (.bool false)) w52) ∧ ((n55 != 92) = false → J57 w52))) ∧ ((n55 != 0) = false → J57 w52))))))) ∧ ∀  (w58 :
    World), J57 w58 → (((n55 == 0) = true → ∃ (J59 : Option Addr → Nat → Nat → Option Addr → Nat → Nat → World → Prop), ((((n28 == ((l7 : Nat) : Int)) = true → ∀ (b60 : Nat) (w61 : World), Alloc w58 w61 b60 (.cells #[.int
    .u64 n13] 33) → SemW Try.prog (Builtin.append_ #[45, 45] 45 #[.slice a7 l7 c7, .slice (some ⟨b60, 0, none⟩) 1 1]) (fun u63 w62 => ∃ (a64 : Option Addr) (l64 c64 : Nat), u63 = .slice a64 l64 c64 ∧ ∀ (b65 : Nat) (w66 :
    World), Alloc w62 w66 b65 (.cells #[.int .u64 n13, .bool b14, .int .u64 n15, .bool b16, .int .u64 n17, .int .i64 n18] 37) → SemW Try.prog (Builtin.append_ #[22, 22] 22 #[.slice a8 l8 c8, .slice (some ⟨b65, 0, none⟩) 1
    1]) (fun u68 w67 => ∃ (a69 : Option Addr) (l69 c69 : Nat), u68 = .slice a69 l69 c69 ∧ J59 a64 l64 c64 a69 l69 c69 w67) w66) w61) ∧ ((n28 == ((l7 : Nat) : Int)) = false → J59 a7 l7 c7 a8 l8 c8 w58))) ∧ ∀ (a70 : Option
    Addr) (l70 c70 : Nat) (a71 : Option Addr) (l71 c71 : Nat) (w72 : World), J59 a70 l70 c70 a71 l71 c71 w72 → withSome a71 (fun d73 => (0 ≤ n28 ∧ n28 < (l71 : Nat)) ∧ RoomAt w72 (Addr.add d73 (n28.toNat * 6)) 0 [.int
    .u64 n13, .bool b14, .int .u64 n15, .bool b16, .int .u64 n17, .int .i64 n18] ∧ ∀ w74, w74 = setCells w72 (Addr.add d73 (n28.toNat * 6)) 0 [.int .u64 n13, .bool b14, .int .u64 n15, .bool b16, .int .u64 n17, .int .i64
    n18] → J30 a54 l54 c54 a70 l70 c70 a71 l71 c71 w74)) ∧ ((n55 == 0) = false → J30 a6 l6 c6 a7 l7 c7 a8 l8 c8 w58)))))) ∧ ∀ (a75 : Option Addr) (l75 c75 : Nat) (a76 : Option Addr) (l76 c76 : Nat) (a77 : Option Addr)
    (l77 c77 : Nat) (w78 : World), J30 a75 l75 c75 a76 l76 c76 a77 l77 c77 w78 → (((((l75 : Nat) : Int) != ((l76 : Nat) : Int)) = true → R (.returned (.bool false)) w78) ∧ ((((l75 : Nat) : Int) != ((l76 : Nat) : Int)) =
    false → ∃ (I79 : Int → World → Prop) (m79 : Int → World → Nat), I79 0 w78 ∧ ∀ (n80 : Int) (w81 : World), I79 n80 w81 → (((decide (n80 < ((l76 : Nat) : Int))) = true → withSome a76 (fun d82 => (0 ≤ n80 ∧ n80 < (l76 :
    Nat)) ∧ ∃ (n83 : Int), w81.cell? (Addr.add d82 (n80.toNat * 1)) = some (.int .u64 n83) ∧ CallsW Try.prog 15 [.slice a75 l75 c75, .int .u64 n83] w81 (RetR R fun u85 w84 => ∃ (n86 : Int) (b87 : Bool), u85 = .tuple
    #[.int .i64 n86, .bool b87] ∧ (((!b87) = true → ∀ w89, Grew w84 w89 → R (.returned (.bool false)) w89) ∧ ((!b87) = false → (((decide (n86 < 0)) = true → ∀ w90, Grew w84 w90 → R (.returned (.bool false)) w90) ∧
    ((decide (n86 < 0)) = false → (((decide (n86 ≥ ((l75 : Nat) : Int))) = true → ∀ w91, Grew w84 w91 → R (.returned (.bool false)) w91) ∧ ((decide (n86 ≥ ((l75 : Nat) : Int))) = false → withSome a75 (fun d92 => (0 ≤ n86
    ∧ n86 < (l75 : Nat)) ∧ ∃ (n93 : Int) (b94 : Bool) (n95 : Int) (b96 : Bool) (n97 : Int) (n98 : Int), CellsAt w84 (Addr.add d92 (n86.toNat * 6)) 0 [.int .u64 n93, .bool b94, .int .u64 n95, .bool b96, .int .u64 n97, .int
    .i64 n98] ∧ withSome a77 (fun d99 => (0 ≤ n80 ∧ n80 < (l77 : Nat)) ∧ ∃ (n100 : Int) (b101 : Bool) (n102 : Int) (b103 : Bool) (n104 : Int) (n105 : Int), CellsAt w84 (Addr.add d99 (n80.toNat * 6)) 0 [.int .u64 n100,
    .bool b101, .int .u64 n102, .bool b103, .int .u64 n104, .int .i64 n105] ∧ ∃ (b106 : Bool), PureTo Try.prog (eqS .neq 37 (.tmp 177) (.tmp 181) (.agg #[.int .u64 n93, .bool b94, .int .u64 n95, .bool b96, .int .u64 n97,
    .int .i64 n98]) (.agg #[.int .u64 n100, .bool b101, .int .u64 n102, .bool b103, .int .u64 n104, .int .i64 n105])) (.bool b106) ∧ ((b106 = true → ∀ w107, Grew w84 w107 → R (.returned (.bool false)) w107) ∧ (b106 =
    false → (((decide (n86 > 0)) = true → withSome a75 (fun d108 => (0 ≤ (IntKind.i64.wrap (n86 - 1)) ∧ (IntKind.i64.wrap (n86 - 1)) < (l75 : Nat)) ∧ ∃ (n109 : Int), w84.cell? (Addr.add d108 ((IntKind.i64.wrap (n86 -
    1)).toNat * 6)) = some (.int .u64 n109) ∧ withSome a75 (fun d110 => (0 ≤ n86 ∧ n86 < (l75 : Nat)) ∧ ∃ (n111 : Int), w84.cell? (Addr.add d110 (n86.toNat * 6)) = some (.int .u64 n111) ∧ ∀ w112, Grew w84 w112 → (((decide
    (n109 ≥ n111)) = true → R (.returned (.bool false)) w112) ∧ ((decide (n109 ≥ n111)) = false → (I79 (IntKind.i64.wrap (n80 + 1)) w112 ∧ m79 (IntKind.i64.wrap (n80 + 1)) w112 < m79 n80 w81)))))) ∧ ((decide (n86 > 0)) =
    false → ∀ w113, Grew w84 w113 → (I79 (IntKind.i64.wrap (n80 + 1)) w113 ∧ m79 (IntKind.i64.wrap (n80 + 1)) w113 < m79 n80 w81)))))))))))))))) ∧ ((decide (n80 < ((l76 : Nat) : Int))) = false → (I5 a75 l75 c75 a76 l76
    c76 a77 l77 c77 (IntKind.i64.wrap (n9 + 1)) w81 ∧ m5 a75 l75 c75 a76 l76 c76 a77 l77 c77 (IntKind.i64.wrap (n9 + 1)) w81 < m5 a6 l6 c6 a7 l7 c7 a8 l8 c8 n9 w10))))))) ∧ ((decide (n9 < 4096)) = false → R (.returned
    (.bool true)) w10))) ∧ ((decide (n9 < ((d_n : Nat) : Int))) = false → R (.returned (.bool true)) w10)))))
theorem sx7.ok {d : Option Addr} {d_n d_c : Nat} {R : Ending → World → Prop} {w : World} (h : sx7 d d_n d_c R w) : CallsW Try.prog 7 [.slice d d_n d_c] w R :=
  callsW_of mix Try.func7 (by kernel_rfl) (by kernel_rfl) (Eq.mpr (by kernel_rfl : denFn Try.prog { locals := [7], pureTo := [182], sem := [130, 135], named := [70, 79, 86], loops := [(7, { slots := [(3, .slice), (4, .slice), (5, .slice), (6, .int .i64)], cells := [] }), (11, { slots := [(8, .int .i64)], cells := [] }), (35, { slots := [(13, .int .i64)], cells := [] })], cuts := [(13, { slots := [(8, .int .i64)], cells := [] }), (26, { slots := [], cells := [] }), (31, { slots := [(4, .slice), (5, .slice)], cells := [] }), (32, { slots := [(3, .slice), (4, .slice), (5, .slice)], cells := [] })] } Try.f7 [.slice d d_n d_c] R w = sx7 d d_n d_c R w) h)


theorem e64 : ElemOk Try.prog 45 33 (Enc.int .u64).sz 8 := ElemOk.mk' (z := .int .u64 0) (by kernel_rfl) (by kernel_rfl) (by kernel_rfl)
theorem act_kinds : kindsOf Try.prog 8 47 = some [.bool, .int .u64, .bool, .int .u64, .bool, .int .u64, .int .i64] := by kernel_rfl
theorem act_of_kinds (cs : List Value) (h : AllK [.bool, .int .u64, .bool, .int .u64, .bool, .int .u64, .int .i64] cs) : ∃ x : ActV, cs = Enc.act.f x ∧ x.c.Fits := by
  obtain ⟨hl, h⟩ := h
  match cs, hl with
  | [b0, c0, c1, c2, c3, c4, c5], _ =>
    obtain ⟨_, e, b, rfl⟩ := h 0 _ rfl
    simp at e; subst e
    obtain ⟨x, hx, hf⟩ := cell_of_kinds [c0, c1, c2, c3, c4, c5] ⟨rfl, fun i k hk => by
      obtain ⟨v, hv, ho⟩ := h (i + 1) k (by simpa using hk)
      exact ⟨v, by simpa using hv, ho⟩⟩
    exact ⟨⟨b, x⟩, by rw [hx]; rfl, hf⟩

set_option maxHeartbeats 2000000 in
theorem BucketBook_ok {a : Option Addr} {n c : Nat} {l : List ActV} {w : World} (hr : Reads w Enc.act (a, n, c) l) (hf : ∀ x ∈ l, x.c.Fits) (hl : l.length * 56 ≤ 140737488351232) :
    CallsW Try.prog 7 [.slice a n c] w (Rets fun v w' => v = .bool true ∧ Grew w w') := by
  refine sx7.ok ?_
  unfold sx7
  refine awake_ok.use fun v w1 ⟨hv, hg1⟩ => ?_
  subst hv
  have hn : n = l.length := hr.2.1
  subst hn
  refine ⟨_, rfl, fun h => (by cases h), fun _ => ?_⟩
  refine ⟨fun a6 l6 c6 a7 l7 c7 a8 l8 c8 i w' => ∃ (k : Nat) (cs : List CellV) (keys : List Int) (last : List CellV), i = k ∧ k ≤ l.length ∧ Book cs keys last ∧ Own w' w.heap.size 37 Enc.cell a6 l6 c6 cs ∧ Own w' w.heap.size 33 (Enc.int .u64) a7 l7 c7 keys ∧ Own w' w.heap.size 37 Enc.cell a8 l8 c8 last ∧
      (∀ b, Blk a6 b → ¬ Blk a7 b) ∧ (∀ b, Blk a6 b → ¬ Blk a8 b) ∧ (∀ b, Blk a7 b → ¬ Blk a8 b) ∧ Grew w w', fun _ _ _ _ _ _ _ _ _ i _ => l.length - i.toNat,
    ⟨0, [], [], [], rfl, Nat.zero_le _, Book.nil, Own.nil _ _ _ _, Own.nil _ _ _ _, Own.nil _ _ _ _, fun b h => (by obtain ⟨d, h, -⟩ := h; cases h), fun b h => (by obtain ⟨d, h, -⟩ := h; cases h), fun b h => (by obtain ⟨d, h, -⟩ := h; cases h), hg1⟩, ?_⟩
  rintro a6 l6 c6 a7 l7 c7 a8 l8 c8 i w10 ⟨k, cs, keys, last, rfl, hk, hbook, ho6, ho7, ho8, h67, h68, h78, hg⟩
  refine ⟨fun hlt => ⟨fun _ => ?_, fun _ => ⟨_, rfl, rfl, hg⟩⟩, fun _ => ⟨_, rfl, rfl, hg⟩⟩
  simp only [decide_eq_true_eq] at hlt
  obtain ⟨d, x, rfl, hx, hcx⟩ := (hr.grew hg).at0 (k := k) (by omega)
  have hcx' : CellsAt w10 (d.add (k * 7)) 0 [.bool x.drop, .int .u64 x.c.key, .bool x.c.ph, .int .u64 x.c.pb, .bool x.c.ch, .int .u64 x.c.cb, .int .i64 x.c.batch] := by simpa [CellV.vals, Enc.act] using hcx
  refine ⟨by omega, x.drop, x.c.key, x.c.ph, x.c.pb, x.c.ch, x.c.cb, x.c.batch, hcx', fun w19 hg19 => ?_⟩
  have hbl := hbook.len
  have hmost := hbook.most
  have hw1 : IntKind.i64.wrap ((k : Int) + 1) = ((k + 1 : Nat) : Int) := by rw [IntKind.wrap_i64]; omega
  have hl6 := ho6.len; have hl7 := ho7.len; have hl8 := ho8.len
  have hg19' := hg.trans hg19
  -- where the key stands
  refine ⟨fun i w' => ∃ j : Nat, i = j ∧ At keys x.c.key j ∧ Grew w19 w', ⟨fun i w' => ∃ j : Nat, i = j ∧ j ≤ l7 ∧ (∀ j', j' < j → keys[j']? ≠ some x.c.key) ∧ Grew w19 w', fun i _ => l7 - i.toNat, ⟨0, rfl, Nat.zero_le _, fun j h => (by omega), Grew.refl _⟩, ?_⟩, ?_⟩
  · rintro i w23 ⟨j, rfl, hj, hno, hg23⟩
    refine ⟨fun hjl => ?_, fun hjl w27 hg27 => ⟨j, rfl, ⟨by omega, hno, fun h => (by simp only [decide_eq_false_iff_not] at hjl; omega)⟩, hg23.trans hg27⟩⟩
    simp only [decide_eq_true_eq] at hjl
    obtain ⟨d24, y, rfl, hy, hcy⟩ := (ho7.grew (hg19.trans hg23)).reads.at0 (k := j) (by omega)
    have hw2 : IntKind.i64.wrap ((j : Int) + 1) = ((j + 1 : Nat) : Int) := by rw [IntKind.wrap_i64]; omega
    rw [hw2]
    refine ⟨by omega, y, by simpa [Addr.add_zero', Enc.int, CellsAt] using hcy, fun w26 hg26 => ⟨fun hne => ?_, fun he => ?_⟩⟩
    · have hne' : y ≠ x.c.key := by simpa using hne
      refine ⟨⟨j + 1, rfl, by omega, fun j' hj' => ?_, hg23.trans hg26⟩, by show l7 - (((j + 1 : Nat) : Int)).toNat < l7 - ((j : Int)).toNat; omega⟩
      by_cases hjj : j' < j
      · exact hno j' hjj
      · have : j' = j := by omega
        subst this; rw [hy]; simpa using hne'
    · have he' : y = x.c.key := by simpa using he
      exact ⟨j, rfl, ⟨by omega, hno, fun _ => by rw [hy, he']⟩, hg23.trans hg26⟩
  rintro i w29 ⟨j, rfl, hat, hg29⟩
  have hg29' := hg19'.trans hg29
  have ho6' := ho6.grew (hg19.trans hg29); have ho7' := ho7.grew (hg19.trans hg29); have ho8' := ho8.grew (hg19.trans hg29)
  have b6 := fun b hb => ho6'.blk (b := b) hb; have b7 := fun b hb => ho7'.blk (b := b) hb; have b8 := fun b hb => ho8'.blk (b := b) hb
  have hj := hat.le
  -- the act
  refine ⟨fun a6 l6 c6 a7 l7 c7 a8 l8 c8 w' => ∃ (cs : List CellV) (keys : List Int) (last : List CellV), Book cs keys last ∧ Own w' w.heap.size 37 Enc.cell a6 l6 c6 cs ∧ Own w' w.heap.size 33 (Enc.int .u64) a7 l7 c7 keys ∧ Own w' w.heap.size 37 Enc.cell a8 l8 c8 last ∧
      (∀ b, Blk a6 b → ¬ Blk a7 b) ∧ (∀ b, Blk a6 b → ¬ Blk a8 b) ∧ (∀ b, Blk a7 b → ¬ Blk a8 b) ∧ Grew w w', ⟨fun hdrop => ?_, fun hput => ?_⟩, ?_⟩
  · refine (Drop_ok ho6'.reads (by omega)).use fun v w31 ⟨a33, l33, c33, hv, ho31, hg31⟩ => ?_
    subst hv
    have hg31' := hg29'.trans hg31
    have s31 := hg29'.size
    have n33 : ∀ b, Blk a33 b → w29.heap.size ≤ b := fun b hb => (ho31.blk hb).1
    have ho7'' := ho7'.grew hg31; have ho8'' := ho8'.grew hg31
    by_cases hin : j < keys.length
    · obtain ⟨kl, hkl⟩ : ∃ kl, keys[keys.length - 1]? = some kl := ⟨keys[keys.length - 1]'(by omega), List.getElem?_eq_getElem (by omega)⟩
      obtain ⟨xl, hxl⟩ : ∃ xl, last[keys.length - 1]? = some xl := ⟨last[keys.length - 1]'(by omega), List.getElem?_eq_getElem (by omega)⟩
      obtain ⟨hdc, hbook'⟩ := hbook.drop_in hat hin hkl hxl
      rw [hdc] at ho31 ⊢
      refine ⟨_, _, _, _, rfl, fun h => (by simp at h), fun _ => ⟨fun _ => ?_, fun h => (by simp only [decide_eq_false_iff_not] at h; omega)⟩⟩
      have hwm : IntKind.i64.wrap ((l7 : Int) - 1) = ((l7 - 1 : Nat) : Int) := by rw [IntKind.wrap_i64]; omega
      rintro n36 rfl
      rw [hwm]
      obtain ⟨d37, y, hd37, hy, hcy⟩ := ho7''.reads.at0 (k := l7 - 1) (by omega)
      rw [show l7 - 1 = keys.length - 1 from by omega, hkl] at hy
      cases hy
      obtain ⟨d39, hd39, hroom, hset, hu⟩ := ho7''.set hin kl
      rw [hd37] at hd39; cases hd39
      subst hd37
      refine ⟨by omega, kl, by simpa [Addr.add_zero', Enc.int, CellsAt] using hcy, by omega, by simpa [Enc.int] using hroom, ?_⟩
      rintro w40 rfl
      rintro n41 rfl
      have hset' : Own (setCells w31 (d37.add (((j : Int)).toNat * 1)) 0 [.int .u64 kl]) w.heap.size 33 (Enc.int .u64) (some d37) l7 c7 (keys.set j kl) := by simpa [Enc.int] using hset
      have hu' : Upd (Blk (some d37)) w31 (setCells w31 (d37.add (((j : Int)).toNat * 1)) 0 [.int .u64 kl]) := by simpa [Enc.int] using hu
      generalize setCells w31 (d37.add (((j : Int)).toNat * 1)) 0 [.int .u64 kl] = w40 at hset' hu' ⊢
      have ho8w := ho8''.upd hu' (fun b hb h => h78 b h hb)
      have ho6w := ho31.upd hu' (fun b hb h => (by have := n33 b hb; have := (b7 b h).2; omega))
      obtain ⟨d42, z, hd42, hz, hcz⟩ := ho8w.reads.at0 (k := l7 - 1) (by omega)
      rw [show l7 - 1 = keys.length - 1 from by omega, hxl] at hz
      cases hz
      obtain ⟨d49, hd49, hroom2, hset2, hu2⟩ := ho8w.set (i := j) (by omega) xl
      rw [hd42] at hd49; cases hd49
      subst hd42
      refine ⟨by omega, xl.key, xl.ph, xl.pb, xl.ch, xl.cb, xl.batch, by simpa [CellV.vals, Enc.cell] using hcz, by omega, by simpa [CellV.vals, Enc.cell] using hroom2, ?_⟩
      rintro w50 rfl
      rintro n51 rfl
      have hset2' : Own (setCells w40 (d42.add (((j : Int)).toNat * 6)) 0 [.int .u64 xl.key, .bool xl.ph, .int .u64 xl.pb, .bool xl.ch, .int .u64 xl.cb, .int .i64 xl.batch]) w.heap.size 37 Enc.cell (some d42) l8 c8 (last.set j xl) := by simpa [CellV.vals, Enc.cell] using hset2
      have hu2' : Upd (Blk (some d42)) w40 (setCells w40 (d42.add (((j : Int)).toNat * 6)) 0 [.int .u64 xl.key, .bool xl.ph, .int .u64 xl.pb, .bool xl.ch, .int .u64 xl.cb, .int .i64 xl.batch]) := by simpa [CellV.vals, Enc.cell] using hu2
      generalize setCells w40 (d42.add (((j : Int)).toNat * 6)) 0 [.int .u64 xl.key, .bool xl.ph, .int .u64 xl.pb, .bool xl.ch, .int .u64 xl.cb, .int .i64 xl.batch] = w50 at hset2' hu2' ⊢
      have hle7 := ho7.le; have hle8 := ho8.le
      simp only [Int.toNat_natCast]
      have t7 := (hset'.upd hu2' (fun b hb h => h78 b hb h)).take (k := l7 - 1) (by omega)
      have t8 := hset2'.take (k := l7 - 1) (by omega)
      have t6 := ho6w.upd hu2' (fun b hb h => (by have := n33 b hb; have := (b8 b h).2; omega))
      rw [show l7 - 1 = keys.length - 1 from by omega] at t7 t8 ⊢
      refine ⟨by omega, by omega, _, _, _, hbook', t6.base (by omega), t7, t8, fun b hb h => (by have := n33 b hb; have := (b7 b h).2; omega), fun b hb h => (by have := n33 b hb; have := (b8 b h).2; omega), h78, ?_⟩
      exact (hg31'.then_own hu' fun b hb => (b7 b hb).1).then_own hu2' fun b hb => (b8 b hb).1
    · have hdc := hbook.drop_out hat hin
      rw [hdc] at ho31 ⊢
      refine ⟨_, _, _, _, rfl, fun h => (by simp at h), fun _ => ⟨fun h => (by simp only [decide_eq_true_eq] at h; omega), fun _ => ?_⟩⟩
      exact ⟨_, _, _, hbook, ho31.base (by omega), ho7'', ho8'', fun b hb h => (by have := n33 b hb; have := (b7 b h).2; omega), fun b hb h => (by have := n33 b hb; have := (b8 b h).2; omega), h78, hg31'⟩
  · refine (Put_cells_ok (x := x.c) ho6'.reads (by omega)).use fun v w52 ⟨a54, l54, c54, hv, ho52, hg52⟩ => ?_
    subst hv
    have hg52' := hg29'.trans hg52
    have s52 := hg29'.size
    have n54 : ∀ b, Blk a54 b → w29.heap.size ≤ b := fun b hb => (ho52.blk hb).1
    have ho7'' := ho7'.grew hg52; have ho8'' := ho8'.grew hg52
    have hkl : ∀ {p : Prop}, (((j : Int) == ((l7 : Nat) : Int)) = true → p) → (j = l7 → p) := fun h e => h (by simp [e])
    by_cases hin : j < keys.length
    · obtain ⟨cs', hpc, hbook'⟩ := hbook.put_in hat hin
      rw [hpc] at ho52 ⊢
      refine ⟨_, _, _, _, rfl, fun w' => w' = w52, ⟨fun h => (by simp at h; omega), fun _ => ⟨fun h => (by simp at h), fun _ => ⟨fun h => (by simp at h), fun _ => rfl⟩⟩⟩, ?_⟩
      rintro w58 rfl
      refine ⟨fun _ => ⟨fun a70 l70 c70 a71 l71 c71 w' => a70 = a7 ∧ l70 = l7 ∧ c70 = c7 ∧ a71 = a8 ∧ l71 = l8 ∧ c71 = c8 ∧ w' = w58, ⟨fun h => (by simp at h; omega), fun _ => ⟨rfl, rfl, rfl, rfl, rfl, rfl, rfl⟩⟩, ?_⟩, fun h => (by simp at h)⟩
      rintro a70 l70 c70 a71 l71 c71 w72 ⟨rfl, rfl, rfl, rfl, rfl, rfl, rfl⟩
      obtain ⟨d73, hd73, hroom2, hset2, hu2⟩ := ho8''.set (i := j) (by omega) x.c
      subst hd73
      refine ⟨by omega, by simpa [CellV.vals, Enc.cell] using hroom2, ?_⟩
      rintro w74 rfl
      refine ⟨_, _, _, hbook', ?_, ?_, by simpa [CellV.vals, Enc.cell] using hset2, fun b hb h => (by have := n54 b hb; have := (b7 b h).2; omega), fun b hb h => (by have := n54 b hb; have := (b8 b h).2; omega), h78, ?_⟩
      · have := (ho52.upd hu2 (fun b hb h => (by have := n54 b hb; have := (b8 b h).2; omega))).base s52
        simpa [CellV.vals, Enc.cell] using this
      · simpa [CellV.vals, Enc.cell] using ho7''.upd hu2 (fun b hb h => h78 b hb h)
      · have := hg52'.then_own hu2 fun b hb => (b8 b hb).1
        simpa [CellV.vals, Enc.cell] using this
    · have hjl : j = l7 := by omega
      by_cases hfull : keys.length = 16
      · have hpc := hbook.put_full hat hin hfull
        rw [hpc] at ho52 ⊢
        have hj16 : j = 16 := by omega
        refine ⟨_, _, _, _, rfl, fun w' => w' = w52, ⟨fun _ => ⟨fun h => (by rw [hj16] at h; simp at h), fun _ => ⟨fun _ => ⟨fun h => (by simp at h), fun _ => rfl⟩, fun h => (by simp at h)⟩⟩, fun h => (by simp at h; omega)⟩, ?_⟩
        rintro w58 rfl
        exact ⟨fun h => (by simp at h), fun _ => ⟨_, _, _, hbook, ho6'.grew hg52, ho7'', ho8'', h67, h68, h78, hg52'⟩⟩
      · obtain ⟨cs', hpc, hbook'⟩ := hbook.put_new hat hin hfull
        rw [hpc] at ho52 ⊢
        have hj16 : j ≠ 16 := by omega
        refine ⟨_, _, _, _, rfl, fun w' => w' = w52, ⟨fun _ => ⟨fun h => (by simp at h; omega), fun _ => ⟨fun h => (by simp at h), fun _ => rfl⟩⟩, fun h => (by simp at h; omega)⟩, ?_⟩
        rintro w58 rfl
        refine ⟨fun _ => ⟨fun a70 l70 c70 a71 l71 c71 w' => Own w' w.heap.size 33 (Enc.int .u64) a70 l70 c70 (keys ++ [x.c.key]) ∧ Own w' w.heap.size 37 Enc.cell a71 l71 c71 (last ++ [x.c]) ∧ Own w' w.heap.size 37 Enc.cell a54 l54 c54 cs' ∧ (∀ b, Blk a54 b → ¬ Blk a70 b) ∧ (∀ b, Blk a54 b → ¬ Blk a71 b) ∧ (∀ b, Blk a70 b → ¬ Blk a71 b) ∧ Grew w w', ⟨fun _ => ?_, fun h => (by simp at h; omega)⟩, ?_⟩, fun h => (by simp at h)⟩
        · intro b60 w61 hal61
          refine append_new (l2 := [x.c.key]) e64 ho7'' hal61 rfl rfl hg52'.size (by simp only [maxLen, List.length_cons, List.length_nil]; omega) (by simp only [List.length_cons, List.length_nil]; omega) ?_
          rintro v w62 ⟨a64, l64, c64, rfl, ho64, hu64, hb64⟩
          refine ⟨_, _, _, rfl, fun b65 w66 hal66 => ?_⟩
          have ho8u := ho8''.upd hu64 (fun b hb h => h78 b h hb)
          have hg62 : Grew w w62 := hg52'.then_own hu64 fun b hb => (b7 b hb).1
          have s62 := hg62.size
          have s62' := hu64.size
          refine append_new (l2 := [x.c]) ec ho8u hal66 (by simp [Enc.cell, CellV.vals]) rfl s62 (by simp only [maxLen, List.length_cons, List.length_nil]; omega) (by simp only [List.length_cons, List.length_nil]; omega) ?_
          rintro v w67 ⟨a69, l69, c69, rfl, ho69, hu69, hb69⟩
          have s58 := hg52.size
          have h54_7 : ∀ b, Blk a54 b → ¬ Blk a64 b := fun b hb h => by
            rcases hb64 b h with h' | h'
            · have := n54 b hb; have := (b7 b h').2; omega
            · have := (ho52.blk hb).2; omega
          have h54_8 : ∀ b, Blk a54 b → ¬ Blk a8 b := fun b hb h => by have := n54 b hb; have := (b8 b h).2; omega
          have h64_8 : ∀ b, Blk a64 b → ¬ Blk a8 b := fun b hb h => by
            rcases hb64 b hb with h' | h'
            · exact h78 b h' h
            · have := (b8 b h).2; omega
          refine ⟨_, _, _, rfl, ho64.upd hu69 (fun b hb h => h64_8 b hb h), ho69, ((ho52.upd hu64 (fun b hb h => (by have := n54 b hb; have := (b7 b h).2; omega))).upd hu69 (fun b hb h => h54_8 b hb h)).base (by omega), h54_7, fun b hb h => ?_, fun b hb h => ?_, hg62.then_own hu69 fun b hb => (b8 b hb).1⟩
          · rcases hb69 b h with h' | h'
            · exact h54_8 b hb h'
            · have := (ho52.blk hb).2; omega
          · rcases hb69 b h with h' | h'
            · exact h64_8 b hb h'
            · have := (ho64.blk hb).2; omega
        · rintro a70 l70 c70 a71 l71 c71 w72 ⟨ho70, ho71, ho54, h1, h2, h3, hg72⟩
          have hl71 := ho71.len
          simp only [List.length_append, List.length_cons, List.length_nil] at hl71
          obtain ⟨d73, hd73, hroom2, hset2, hu2⟩ := ho71.set (i := j) (by simp; omega) x.c
          have hsame : (last ++ [x.c]).set j x.c = last ++ [x.c] := by
            rw [show j = last.length from by omega, List.set_append_right _ _ (Nat.le_refl _), Nat.sub_self]; rfl
          rw [hsame] at hset2
          have b71 := fun b hb => ho71.blk (b := b) hb
          subst hd73
          refine ⟨by omega, by simpa [CellV.vals, Enc.cell] using hroom2, ?_⟩
          rintro w74 rfl
          refine ⟨_, _, _, hbook', ?_, ?_, by simpa [CellV.vals, Enc.cell] using hset2, h1, h2, h3, ?_⟩
          · simpa [CellV.vals, Enc.cell] using ho54.upd hu2 (fun b hb h => h2 b hb h)
          · simpa [CellV.vals, Enc.cell] using ho70.upd hu2 (fun b hb h => h3 b hb h)
          · have := hg72.then_own hu2 fun b hb => (b71 b hb).1
            simpa [CellV.vals, Enc.cell] using this
  clear hbook ho6 ho7 ho8 h67 h68 h78 ho6' ho7' ho8' b6 b7 b8 hbl hmost hl6 hl7 hl8 hat hj
  rintro a6' l6' c6' a7' l7' c7' a8' l8' c8' w78 ⟨cs, keys, last, hbook, ho6, ho7, ho8, h67, h68, h78, hg78⟩
  have hbl := hbook.len
  have hmost := hbook.most
  have hl6 := ho6.len; have hl7 := ho7.len; have hl8 := ho8.len
  refine ⟨fun h => (by simp only [bne_iff_ne, ne_eq] at h; omega), fun _ => ?_⟩
  refine ⟨fun i w' => ∃ q : Nat, i = q ∧ q ≤ l7' ∧ Grew w78 w', fun i _ => l7' - i.toNat, ⟨0, rfl, Nat.zero_le _, Grew.refl _⟩, ?_⟩
  rintro i w81 ⟨q, rfl, hq, hg81⟩
  have ho6' := ho6.grew hg81; have ho7' := ho7.grew hg81; have ho8' := ho8.grew hg81
  refine ⟨fun hlt' => ?_, fun _ => ⟨⟨k + 1, cs, keys, last, hw1, by omega, hbook, ho6', ho7', ho8', h67, h68, h78, hg78.trans hg81⟩, by rw [hw1]; show l.length - (((k + 1 : Nat) : Int)).toNat < l.length - ((k : Int)).toNat; omega⟩⟩
  simp only [decide_eq_true_eq] at hlt'
  have hw2 : IntKind.i64.wrap ((q : Int) + 1) = ((q + 1 : Nat) : Int) := by rw [IntKind.wrap_i64]; omega
  rw [hw2]
  obtain ⟨d82, y, hd82, hy, hcy⟩ := ho7'.reads.at0 (k := q) (by omega)
  subst hd82
  refine ⟨by omega, y, by simpa [Addr.add_zero', Enc.int, CellsAt] using hcy, (Find_ok ho6'.reads (by omega)).use fun v w84 ⟨hv, hg84⟩ => ?_⟩
  subst hv
  obtain ⟨d99, z, hd99, hz, hcz⟩ := (ho8'.grew hg84).reads.at0 (k := q) (by omega)
  subst hd99
  have hyz : y = z.key := by rw [hbook.keysOf, List.getElem?_map, hz] at hy; simpa using hy.symm
  obtain ⟨p, hp, hpz⟩ := findB_mem hbook.rising (hbook.perm.mem_iff.1 (List.mem_of_getElem? hz))
  have hpl : p < cs.length := by
    rcases Nat.lt_or_ge p cs.length with h' | h'
    · exact h'
    · rw [List.getElem?_eq_none h'] at hpz; cases hpz
  rw [hyz, hp]
  refine ⟨_, _, rfl, fun h => (by simp at h), fun _ => ⟨fun h => (by simp only [decide_eq_true_eq] at h; omega), fun _ => ⟨fun h => (by simp only [decide_eq_true_eq, ge_iff_le] at h; omega), fun _ => ?_⟩⟩⟩
  obtain ⟨d92, u, hd92, hu', hcu⟩ := (ho6'.grew hg84).reads.at0 (k := p) (by omega)
  subst hd92
  rw [hpz] at hu'; cases hu'
  have hkey : w84.cell? (d92.add (((p : Int)).toNat * 6)) = some (.int .u64 z.key) := by simpa [Addr.add_zero', Enc.cell] using hcu.1
  have hg84' := hg81.trans hg84
  refine ⟨by simp only; omega, z.key, z.ph, z.pb, z.ch, z.cb, z.batch, by simpa [CellV.vals, Enc.cell] using hcu, by omega, z.key, z.ph, z.pb, z.ch, z.cb, z.batch, by simpa [CellV.vals, Enc.cell] using hcz, !(z.eqb z), eqS_neq (by kernel_rfl) (by kernel_rfl), ?_⟩
  rw [CellV.eqb_iff]
  have hm : l7' - (((q + 1 : Nat) : Int)).toNat < l7' - ((q : Int)).toNat := by omega
  refine ⟨fun h => (by simp at h), fun _ => ⟨fun h0 => ?_, fun _ w113 hg113 => ⟨⟨q + 1, rfl, by omega, hg84'.trans hg113⟩, hm⟩⟩⟩
  simp only [decide_eq_true_eq] at h0
  have hw3 : IntKind.i64.wrap ((p : Int) - 1) = ((p - 1 : Nat) : Int) := by rw [IntKind.wrap_i64]; omega
  rw [hw3]
  obtain ⟨d108, u', hd108, hu2', hcu'⟩ := (ho6'.grew hg84).reads.at0 (k := p - 1) (by omega)
  cases hd108
  have hlt2 := (risingB_iff cs).1 hbook.rising (p - 1) u' z hu2' (by rw [show p - 1 + 1 = p from by omega]; exact hpz)
  exact ⟨by omega, u'.key, by simpa [Addr.add_zero', Enc.cell] using hcu'.1, by simp only; omega, z.key, hkey, fun w112 hg112 => ⟨fun h => (by simp only [decide_eq_true_eq, ge_iff_le] at h; omega), fun _ => ⟨⟨q + 1, rfl, by omega, hg84'.trans hg112⟩, hm⟩⟩⟩

open Go.ChangeShapes Go.WideShapes Go.ChangeAt Go.RowKit
set_option maxRecDepth 100000 in
theorem bucketBook_lifted (os : Os) (started : os.Started) (H : Type) (enc : TypeId × Value → H) :
    ReturnsInHanded {} Try.checked os 7 .any (Rows.bucketBookSpec.pre6 enc Try.prog Try.f7 Rows.bucketBookRow.domain false) (Rows.bucketBookSpec.post enc Try.prog Try.f7 false true false false) := by
  refine returnsInHanded_of_change_sized (C := Try.checked) (by kernel_rfl) started (by kernel_rfl) Try.func7
    (ChangeSpec.witness6 (enc := enc) (C := Try.checked) false ⟨#[], #[.slice none 0 0], []⟩ 8 (by kernel_rfl) (by kernel_rfl) (by kernel_rfl) (by kernel_rfl)) ?_
  intro W base args ds gs before hval0 hW hcnd hsz0 _
  have hval : ∀ (j : Nat) t v, Try.f7.params[j]? = some t → args[j]? = some v → Value.okWide Try.prog W .any base t v := hval0
  have hW' := hW
  obtain ⟨p, q, hA0, hV, rfl, hfz, hnd⟩ := hW
  have hA : DataW.TrodAll enc Try.prog W 0 (fun _ => true) true Try.f7.params.toList args.toList ds p := hA0
  have hsz : (DataW.weightsEach Try.prog (Try.f7.params.toList ++ _) (ds ++ gs)).all (· ≤ reachBytes) = true := hsz0
  rw [show Try.f7.params = #[44] from by kernel_rfl] at hA hval hsz
  have hA1 := hA
  obtain ⟨v0, vs0, d0, ds0, p0, q0, hargs, rfl, rfl, h0, r0⟩ := trodAll_cons hA
  obtain ⟨rfl, rfl, rfl⟩ := trodAll_nil r0
  obtain rfl : args = #[v0] := by cases args; simp_all
  obtain ⟨a0, n0, c0, l0, rfl, hr0, hcl0, hn0, hs0⟩ := open_flat (P := Try.prog) (t := 44) (e := 47) (by kernel_rfl) act_kinds (by kernel_rfl) (hval 0 44 v0 rfl rfl) h0 (E := Enc.act) rfl act_of_kinds
  have hb0 : l0.length * 56 ≤ 140737488351232 := by have h1 := sized_len hsz (j := 0) (t := 44) (e := 47) rfl rfl (by kernel_rfl) (B := 56) (by kernel_rfl) hs0; have h2 := hr0.2.1; simp only at h2; omega
  clear hA0 hA1 hval0 hsz0
  refine (CallsW.calls ⟨_, Try.func7, by kernel_rfl, by kernel_rfl⟩ (BucketBook_ok hr0 hcl0 hb0)).mono fun e W' ⟨w', hh, hk, v, he, hv, hg⟩ => ?_
  subst he; subst hv
  exact ⟨_, rfl, post_true (tb := 4) (by kernel_rfl) rfl (by kernel_rfl) (by kernel_rfl) ⟨rfl, rfl, rfl⟩ (by decide +kernel) hW' (below_of hg hh hk)⟩

theorem bucketBook_holds : Rows.BucketBookSaid :=
  OpenClaim.holds_of_wide 7 Try.f7 rfl rfl rfl rfl rfl rfl rfl ⟨rfl, rfl, rfl, rfl, rfl⟩ rfl rfl rfl rfl rfl (by kernel_rfl) Try.func7 (by kernel_rfl)
    (of_decide_eq_true (by kernel_rfl)) (by unfold Func.isWrapper; first | (rw [if_pos (by decide +kernel)]; kernel_rfl) | (rw [if_neg (by decide +kernel)]; exact ⟨rfl, rfl⟩))
    (fun os started H enc _ => bucketBook_lifted os started H enc)
end Go.Proofs.Ytnbknhcpjggabaa
