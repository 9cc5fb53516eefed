/- FoldMemory: what it computes, and its row. Conditions: none. -/
import Derived.Test.YtoljpkdokpinhaaProg
import Derived.Test.YtoljpkdokpinhaaFoldK
import Derived.Test.YtoljpkdokpinhaaSxX
import Derived.Test.YtoljpkdokpinhaaSxQ
import Derived.Test.YtoljpkdokpinhaaSxT
import Derived.Deep.CondSized
import Derived.Test.YtoljpkdokpinhaaRows
namespace Go.Proofs.Ytoljpkdokpinhaa
open Go.Sx
set_option maxRecDepth 100000
set_option linter.unusedVariables false
set_option linter.unusedSimpArgs false
/- reprise/repriselaw05.FoldMemory -/
def sx9 (d : Int) (i : Option Addr) (i_n i_c : Nat) (p2 : Option Addr) (p2_n p2_c : Nat) (R : Ending → World → Prop) (w : World) : Prop :=
  CallsW Try.prog 10 [] w (RetR R fun u2 w1 => ∃ (b3 : Bool), u2 = .bool b3 ∧ (((!b3) = true → R (.returned (.bool false)) w1) ∧ ((!b3) = false → ∀ n5 : Int, n5 = IntKind.i64.wrap (((i_n : Nat) : Int) + 4) → SemW Try.prog
    (Instr.makeSlice 22 (.int .i64 0) (.int .i64 n5)) (fun u7 w6 => ∃ (a8 : Option Addr) (l8 c8 : Nat), u7 = .slice a8 l8 c8 ∧ SemW Try.prog (Builtin.append_ #[22, 22] 22 #[.slice a8 l8 c8, .slice i i_n i_c]) (fun u10 w9
    => ∃ (a11 : Option Addr) (l11 c11 : Nat), u10 = .slice a11 l11 c11 ∧ CallsW Try.prog 28 [.int .u64 71, .int .u64 1] w9 (RetR R fun u13 w12 => ∃ (n14 : Int) (b15 : Bool) (n16 : Int), u13 = .agg #[.int .u64 n14, .bool
    b15, .int .u64 n16] ∧ CallsW Try.prog 28 [.int .u64 72, .int .u64 2] w12 (RetR R fun u19 w18 => ∃ (n20 : Int) (b21 : Bool) (n22 : Int), u19 = .agg #[.int .u64 n20, .bool b21, .int .u64 n22] ∧ CallsW Try.prog 28 [.int
    .u64 73, .int .u64 3] w18 (RetR R fun u25 w24 => ∃ (n26 : Int) (b27 : Bool) (n28 : Int), u25 = .agg #[.int .u64 n26, .bool b27, .int .u64 n28] ∧ CallsW Try.prog 28 [.int .u64 74, .int .u64 4] w24 (RetR R fun u31 w30
    => ∃ (n32 : Int) (b33 : Bool) (n34 : Int), u31 = .agg #[.int .u64 n32, .bool b33, .int .u64 n34] ∧ ∀ (b36 : Nat) (w37 : World), Alloc w30 w37 b36 (.cells #[.int .u64 n14, .bool b15, .int .u64 n16, .int .u64 n20, .bool
    b21, .int .u64 n22, .int .u64 n26, .bool b27, .int .u64 n28, .int .u64 n32, .bool b33, .int .u64 n34] 38) → SemW Try.prog (Builtin.append_ #[22, 22] 22 #[.slice a11 l11 c11, .slice (some ⟨b36, 0, none⟩) 4 4]) (fun u39
    w38 => ∃ (a40 : Option Addr) (l40 c40 : Nat), u39 = .slice a40 l40 c40 ∧ (0 ≤ ((i_n : Nat) : Int) ∧ ((i_n : Nat) : Int) ≤ (c40 : Nat)) ∧ CallsW Try.prog 13 [.int .i64 d, .slice a40 (((i_n : Nat) : Int).toNat) c40,
    .slice p2 p2_n p2_c] w38 (RetR R fun u42 w41 => ∃ (a43 : Option Addr) (l43 c43 : Nat) (n44 : Int), u42 = .tuple #[.slice a43 l43 c43, .int .i64 n44] ∧ CallsW Try.prog 13 [.int .i64 d, .slice a40 (((i_n : Nat) :
    Int).toNat) c40, .slice p2 p2_n p2_c] w41 (RetR R fun u47 w46 => ∃ (a48 : Option Addr) (l48 c48 : Nat) (n49 : Int), u47 = .tuple #[.slice a48 l48 c48, .int .i64 n49] ∧ CallsW Try.prog 17 [.slice a40 (((i_n : Nat) :
    Int).toNat) c40] w46 (RetR R fun u52 w51 => ∃ (a53 : Option Addr) (l53 c53 : Nat), u52 = .slice a53 l53 c53 ∧ CallsW Try.prog 17 [.slice a40 (((i_n : Nat) : Int).toNat) c40] w51 (RetR R fun u56 w55 => ∃ (a57 : Option
    Addr) (l57 c57 : Nat), u56 = .slice a57 l57 c57 ∧ ∀ (b59 : Nat) (w60 : World), Alloc w55 w60 b59 (.cells #[] 38) → SemW Try.prog (Builtin.append_ #[22, 22] 22 #[.slice (some ⟨b59, 0, none⟩) 0 0, .slice a48 l48 c48])
    (fun u62 w61 => ∃ (a63 : Option Addr) (l63 c63 : Nat), u62 = .slice a63 l63 c63 ∧ ∀ (b64 : Nat) (w65 : World), Alloc w61 w65 b64 (.cells #[] 30) → SemW Try.prog (Builtin.append_ #[32, 32] 32 #[.slice (some ⟨b64, 0,
    none⟩) 0 0, .slice a57 l57 c57]) (fun u67 w66 => ∃ (a68 : Option Addr) (l68 c68 : Nat), u67 = .slice a68 l68 c68 ∧ ∃ (I69 : Int → World → Prop) (m69 : Int → World → Nat), I69 0 w66 ∧ ∀ (n70 : Int) (w71 : World), I69
    n70 w71 → (((decide (n70 < ((l43 : Nat) : Int))) = true → CallsW Try.prog 28 [.int .u64 99, .int .u64 9] w71 (RetR R fun u73 w72 => ∃ (n74 : Int) (b75 : Bool) (n76 : Int), u73 = .agg #[.int .u64 n74, .bool b75, .int
    .u64 n76] ∧ withSome a43 (fun d78 => (0 ≤ n70 ∧ n70 < (l43 : Nat)) ∧ RoomAt w72 (Addr.add d78 (n70.toNat * 3)) 0 [.int .u64 n74, .bool b75, .int .u64 n76] ∧ ∀ w79, w79 = setCells w72 (Addr.add d78 (n70.toNat * 3)) 0
    [.int .u64 n74, .bool b75, .int .u64 n76] → (I69 (IntKind.i64.wrap (n70 + 1)) w79 ∧ m69 (IntKind.i64.wrap (n70 + 1)) w79 < m69 n70 w71)))) ∧ ((decide (n70 < ((l43 : Nat) : Int))) = false → ∃ (I80 : Int → World → Prop)
    (m80 : Int → World → Nat), I80 0 w71 ∧ ∀ (n81 : Int) (w82 : World), I80 n81 w82 → (((decide (n81 < ((l53 : Nat) : Int))) = true → withSome a53 (fun d83 => (0 ≤ n81 ∧ n81 < (l53 : Nat)) ∧ RoomAt w82 (Addr.add d83
    (n81.toNat * 1)) 0 [.int .u64 98] ∧ ∀ w84, w84 = setCells w82 (Addr.add d83 (n81.toNat * 1)) 0 [.int .u64 98] → (I80 (IntKind.i64.wrap (n81 + 1)) w84 ∧ m80 (IntKind.i64.wrap (n81 + 1)) w84 < m80 n81 w82))) ∧ ((decide
    (n81 < ((l53 : Nat) : Int))) = false → ∃ (I85 : Option Addr → Nat → Nat → Option Addr → Nat → Nat → Int → World → Prop) (m85 : Option Addr → Nat → Nat → Option Addr → Nat → Nat → Int → World → Nat), I85 a43 l43 c43
    a53 l53 c53 0 w82 ∧ ∀ (a86 : Option Addr) (l86 c86 : Nat) (a87 : Option Addr) (l87 c87 : Nat) (n88 : Int) (w89 : World), I85 a86 l86 c86 a87 l87 c87 n88 w89 → (((decide (n88 < 9)) = true → CallsW Try.prog 28 [.int
    .u64 97, .int .u64 7] w89 (RetR R fun u91 w90 => ∃ (n92 : Int) (b93 : Bool) (n94 : Int), u91 = .agg #[.int .u64 n92, .bool b93, .int .u64 n94] ∧ ∀ (b96 : Nat) (w97 : World), Alloc w90 w97 b96 (.cells #[.int .u64 n92,
    .bool b93, .int .u64 n94] 38) → SemW Try.prog (Builtin.append_ #[22, 22] 22 #[.slice a86 l86 c86, .slice (some ⟨b96, 0, none⟩) 1 1]) (fun u99 w98 => ∃ (a100 : Option Addr) (l100 c100 : Nat), u99 = .slice a100 l100
    c100 ∧ ∀ (b101 : Nat) (w102 : World), Alloc w98 w102 b101 (.cells #[.int .u64 96] 30) → SemW Try.prog (Builtin.append_ #[32, 32] 32 #[.slice a87 l87 c87, .slice (some ⟨b101, 0, none⟩) 1 1]) (fun u104 w103 => ∃ (a105 :
    Option Addr) (l105 c105 : Nat), u104 = .slice a105 l105 c105 ∧ (I85 a100 l100 c100 a105 l105 c105 (IntKind.i64.wrap (n88 + 1)) w103 ∧ m85 a100 l100 c100 a105 l105 c105 (IntKind.i64.wrap (n88 + 1)) w103 < m85 a86 l86
    c86 a87 l87 c87 n88 w89)) w102) w97)) ∧ ((decide (n88 < 9)) = false → ∀ w106, Grew w89 w106 → (((n44 == n49) = true → CallsW Try.prog 15 [.slice a48 l48 c48, .slice a63 l63 c63] w106 (RetR R fun u108 w107 => ∃ (b109 :
    Bool), u108 = .bool b109 ∧ SameB w106 w107 [] ∧ ((b109 = true → CallsW Try.prog 16 [.slice a57 l57 c57, .slice a68 l68 c68] w107 (RetR R fun u112 w111 => ∃ (b113 : Bool), u112 = .bool b113 ∧ SameB w107 w111 [] ∧
    ((b113 = true → CallsW Try.prog 15 [.slice a40 (((i_n : Nat) : Int).toNat) c40, .slice i i_n i_c] w111 (RetR R fun u116 w115 => ∃ (b117 : Bool), u116 = .bool b117 ∧ SameB w111 w115 [] ∧ ((b117 = true → (0 ≤ ((i_n :
    Nat) : Int) ∧ ((i_n : Nat) : Int) ≤ (l40 : Nat)) ∧ CallsW Try.prog 28 [.int .u64 71, .int .u64 1] w115 (RetR R fun u120 w119 => ∃ (n121 : Int) (b122 : Bool) (n123 : Int), u120 = .agg #[.int .u64 n121, .bool b122, .int
    .u64 n123] ∧ SameB w115 w119 [] ∧ CallsW Try.prog 28 [.int .u64 72, .int .u64 2] w119 (RetR R fun u126 w125 => ∃ (n127 : Int) (b128 : Bool) (n129 : Int), u126 = .agg #[.int .u64 n127, .bool b128, .int .u64 n129] ∧
    SameB w119 w125 [] ∧ CallsW Try.prog 28 [.int .u64 73, .int .u64 3] w125 (RetR R fun u132 w131 => ∃ (n133 : Int) (b134 : Bool) (n135 : Int), u132 = .agg #[.int .u64 n133, .bool b134, .int .u64 n135] ∧ SameB w125 w131
    [] ∧ CallsW Try.prog 28 [.int .u64 74, .int .u64 4] w131 (RetR R fun u138 w137 => ∃ (n139 : Int) (b140 : Bool) (n141 : Int), u138 = .agg #[.int .u64 n139, .bool b140, .int .u64 n141] ∧ SameB w131 w137 [] ∧ ∀ (b143 :
    Nat) (w144 : World), Alloc w137 w144 b143 (.cells #[.int .u64 n121, .bool b122, .int .u64 n123, .int .u64 n127, .bool b128, .int .u64 n129, .int .u64 n133, .bool b134, .int .u64 n135, .int .u64 n139, .bool b140, .int
    .u64 n141] 38) → SameB w137 w144 [] ∧ CallsW Try.prog 15 [.slice (if c40 = ((i_n : Nat) : Int).toNat then a40 else Option.map (fun x => Addr.add x (((i_n : Nat) : Int).toNat * 3)) a40) (l40 - ((i_n : Nat) :
    Int).toNat) (c40 - ((i_n : Nat) : Int).toNat), .slice (some ⟨b143, 0, none⟩) 4 4] w144 (RetR R fun u146 w145 => ∃ (b147 : Bool), u146 = .bool b147 ∧ SameB w144 w145 [] ∧ ((b147 = true → ∀ n149 : Int, n149 =
    IntKind.i64.wrap (((l48 : Nat) : Int) + 9) → (((((l86 : Nat) : Int) == n149) = true → ∀ n150 : Int, n150 = IntKind.i64.wrap (((l57 : Nat) : Int) + 9) → R (.returned (.bool (((l87 : Nat) : Int) == n150))) w145) ∧
    ((((l86 : Nat) : Int) == n149) = false → R (.returned (.bool false)) w145))) ∧ (b147 = false → R (.returned (.bool false)) w145)))))))) ∧ (b117 = false → R (.returned (.bool false)) w115)))) ∧ (b113 = false → R
    (.returned (.bool false)) w111)))) ∧ (b109 = false → R (.returned (.bool false)) w107)))) ∧ ((n44 == n49) = false → R (.returned (.bool false)) w106))))))))) w65) w60))))) w37))))) w6) w1)))
theorem sx9.ok {d : Int} {i : Option Addr} {i_n i_c : Nat} {p2 : Option Addr} {p2_n p2_c : Nat} {R : Ending → World → Prop} {w : World} (h : sx9 d i i_n i_c p2 p2_n p2_c R w) : CallsW Try.prog 9 [.int .i64 d, .slice i i_n i_c, .slice p2 p2_n p2_c] w R :=
  callsW_of mix Try.func9 (by kernel_rfl) (by kernel_rfl) (Eq.mpr (by kernel_rfl : denFn Try.prog { sem := [25, 28, 35, 60, 63, 90, 93], named := [24, 129, 137], draws := [(26, { order := (.cons 0 (.cons 1 (.cons 2 (.cons 3 (.cons 4 (.cons 5 (.cons 6 (.cons 7 (.cons 8 (.cons 9 (.cons 10 (.cons 11 (.cons 12 (.cons 13 (.cons 14 (.cons 15 (.cons 16 (.cons 17 (.cons 18 (.cons 19 (.cons 20 (.cons 21 (.cons 22 (.cons 23 (.cons 24 (.cons 25 (.cons 26 (.cons 27 (.cons 28 (.cons 29 (.cons 30 (.cons 31 (.cons 32 (.cons 33 (.cons 34 (.cons 35 (.cons 36 (.cons 37 (.cons 38 (.cons 39 (.cons 40 (.cons 41 (.cons 42 (.cons 43 (.cons 44 (.cons 45 (.cons 46 .nil))))))))))))))))))))))))))))))))))))))))))))))), bars := [] })], loops := [(14, { slots := [(17, .int .i64)], cells := [] }), (18, { slots := [(18, .int .i64)], cells := [] }), (22, { slots := [(9, .slice), (13, .slice), (19, .int .i64)], cells := [] })] } Try.f9 [.int .i64 d, .slice i i_n i_c, .slice p2 p2_n p2_c] R w = sx9 d i i_n i_c p2 p2_n p2_c R w) h)

theorem elU64F : ElemOk Try.prog 32 30 (Enc.int .u64).sz 8 := elKeyF
def four : List PairV := [⟨71, true, 1⟩, ⟨72, true, 2⟩, ⟨73, true, 3⟩, ⟨74, true, 4⟩]
theorem restsF (l r : List PairV) : (l ++ r).take l.length = l ∧ (l ++ r).drop l.length = r := ⟨List.take_left, List.drop_left⟩
def addOut (kind : Int) (l r : List PairV) : List PairV := if knownB kind ∧ soundB l ∧ soundB r then tableT (addT kind [] (l ++ r)) else []
theorem addT_len (kind : Int) : ∀ (l : List PairV) (m : Tab), (addT kind m l).length ≤ m.length + l.length
  | [], m => by simp [addT]
  | p :: l, m => by
    have h1 := addT_len kind l (putT kind m p.key p.val)
    have h2 : (putT kind m p.key p.val).length ≤ m.length + 1 := setM_len
    have e : addT kind m (p :: l) = addT kind (putT kind m p.key p.val) l := rfl
    rw [e, List.length_cons]; omega
theorem addOut_len (kind : Int) (l r : List PairV) : (addOut kind l r).length ≤ l.length + r.length := by
  unfold addOut
  split
  · rw [tableT_lenV]; have := addT_len kind (l ++ r) []; simp at this; omega
  · simp
set_option maxHeartbeats 2000000 in
theorem FoldMemory_ok {kind : Int} {a b : Option Addr} {n c m k : Nat} {l r : List PairV} {w : World} (hd : (Lit.int .i64 kind).wf = true) (hr : Reads w Enc.pair (a, n, c) l) (hl : ∀ x ∈ l, x.Fits) (hll : l.length ≤ 1048576) (hi : Reads w Enc.pair (b, m, k) r) (hf : ∀ x ∈ r, x.Fits) (hrl : r.length ≤ 1048576) :
    CallsW Try.prog 9 [.int .i64 kind, .slice a n c, .slice b m k] w (Rets fun v w' => v = .bool true ∧ Grew w w') := by
  refine sx9.ok ?_
  unfold sx9
  have nb : ∀ {x y : World}, SameB x y [] := by intro x y; simp [SameB]
  have hn : n = l.length := hr.2.1
  subst hn
  have hm : m = r.length := hi.2.1
  subst hm
  refine awakeF_ok.use fun v w1 ⟨hv, hg1⟩ => ?_
  subst hv
  refine ⟨_, rfl, fun h => (by cases h), fun _ => ?_⟩
  rintro n5 rfl
  have hw5 : IntKind.i64.wrap ((l.length : Int) + 4) = ((l.length + 4 : Nat) : Int) := by rw [IntKind.wrap_i64]; omega
  rw [hw5]
  refine make_room (e := 38) (bytes := 24) (E := Enc.pair) (by kernel_rfl) (z := .agg #[.int .u64 0, .bool false, .int .u64 0]) (by kernel_rfl) (by omega) (by simp only [maxLen]; omega) ?_
  intro b9 w7 ho7 hg7
  refine ⟨_, _, _, rfl, ?_⟩
  have hr7 := (hr.grew hg1).grew hg7
  refine append_sl elPair ho7 hr7.1 hr7.2.1 hr7.2.2.1 hg7.size (by simp only [maxLen, List.length_nil]; omega) (by simp; omega) ?_
  rintro v w10 ⟨a11, l11, c11, rfl, ho10, hu10, hb10⟩
  have hg10 : Grew w1 w10 := hg7.then_own hu10 fun b hb => (ho7.blk hb).1
  rw [List.nil_append] at ho10
  refine ⟨_, _, _, rfl, ?_⟩
  refine pair_ok.use fun u w12 ⟨hv, hg12⟩ => ?_
  subst hv
  refine ⟨_, _, _, rfl, pair_ok.use fun u w18 ⟨hv, hg18⟩ => ?_⟩
  subst hv
  refine ⟨_, _, _, rfl, pair_ok.use fun u w24 ⟨hv, hg24⟩ => ?_⟩
  subst hv
  refine ⟨_, _, _, rfl, pair_ok.use fun u w30 ⟨hv, hg30⟩ => ?_⟩
  subst hv
  refine ⟨_, _, _, rfl, fun b36 w37 hal37 => ?_⟩
  have hgp := hg12.trans (hg18.trans (hg24.trans hg30))
  have ho30 := ho10.grew hgp
  refine append_new (l2 := four) elPair ho30 hal37 rfl rfl (hg10.trans hgp).size (by simp only [maxLen, four, List.length_cons, List.length_nil]; omega) (by simp [four]; omega) ?_
  rintro v w38 ⟨a40, l40, c40, rfl, ho40, hu40, hb40⟩
  have hg38 : Grew w1 w38 := (hg10.trans hgp).then_own hu40 fun b hb => (ho30.blk hb).1
  have hlen40 := ho40.len
  have hle40 := ho40.le
  simp only [List.length_append, four, List.length_cons, List.length_nil] at hlen40
  have hsplit := restsF l four
  refine ⟨_, _, _, rfl, ⟨by omega, by omega⟩, ?_⟩
  simp only [Int.toNat_natCast]
  have hg38' := hg1.trans hg38
  have hmine : Own w38 w1.heap.size 38 Enc.pair a40 l.length c40 l := by
    have := ho40.take (k := l.length) (by omega)
    rwa [hsplit.1] at this
  have hll' : l.length ≤ maxLen := by simp only [maxLen]; omega
  have hrl' : r.length ≤ maxLen := by simp only [maxLen]; omega
  have hol := addOut_len kind l r
  refine (Add_ok (kind := kind) hmine.reads hl hll' (hi.grew hg38') hf hrl' (by omega)).use fun u w41 ⟨a43, l43, c43, hv, ho43, hg41⟩ => ?_
  subst hv
  refine ⟨_, _, _, _, rfl, (Add_ok (kind := kind) (hmine.grew hg41).reads hl hll' ((hi.grew hg38').grew hg41) hf hrl' (by omega)).use fun u w46 ⟨a48, l48, c48, hv, ho48, hg46⟩ => ?_⟩
  subst hv
  have hg46' := hg41.trans hg46
  change Own w41 w38.heap.size 38 Enc.pair a43 l43 c43 (addOut kind l r) at ho43
  change Own w46 w41.heap.size 38 Enc.pair a48 l48 c48 (addOut kind l r) at ho48
  generalize addOut kind l r = T at ho43 ho48 hol
  refine ⟨_, _, _, _, rfl, (FKeys_ok (hmine.grew hg46').reads hll' (by omega)).use fun u w51 ⟨a53, l53, c53, hv, ho53, hg51⟩ => ?_⟩
  subst hv
  have hg51' := hg46'.trans hg51
  refine ⟨_, _, _, rfl, (FKeys_ok (hmine.grew hg51').reads hll' (by omega)).use fun u w55 ⟨a57, l57, c57, hv, ho57, hg55⟩ => ?_⟩
  subst hv
  have hg55' := hg51'.trans hg55
  refine ⟨_, _, _, rfl, fun b59 w60 hal60 => ?_⟩
  have ho60 : Own w60 w55.heap.size 38 Enc.pair (some ⟨b59, 0, none⟩) 0 0 [] := Own.alloc (l := []) hal60 (Nat.le_refl _) rfl (by simp [maxLen])
  have ho48' := ho48.grew (hg51.trans (hg55.trans hal60.grew))
  refine append_sl elPair ho60 ho48'.sl ho48'.len ho48'.out_none hal60.grew.size (by simp only [maxLen, List.length_nil]; omega) (by simp; omega) ?_
  rintro v w61 ⟨a63, l63, c63, rfl, ho63, hu63, hb63⟩
  rw [List.nil_append] at ho63
  have hg61 : Grew w55 w61 := hal60.grew.then_own hu63 fun b hb => (ho60.blk hb).1
  refine ⟨_, _, _, rfl, fun b64 w65 hal65 => ?_⟩
  have ho65 : Own w65 w61.heap.size 30 (Enc.int .u64) (some ⟨b64, 0, none⟩) 0 0 [] := Own.alloc (l := []) hal65 (Nat.le_refl _) rfl (by simp [maxLen])
  have ho57' := ho57.grew (hg61.trans hal65.grew)
  refine append_sl elU64F ho65 ho57'.sl ho57'.len ho57'.out_none hal65.grew.size (by simp only [maxLen, List.length_nil, List.length_map]; omega) (by simp; omega) ?_
  rintro v w66 ⟨a68, l68, c68, rfl, ho68, hu68, hb68⟩
  rw [List.nil_append] at ho68
  have hg66 : Grew w61 w66 := hal65.grew.then_own hu68 fun b hb => (ho65.blk hb).1
  refine ⟨_, _, _, rfl, ?_⟩
  -- everything at w66
  have hG66 := hg55'.trans (hg61.trans hg66)
  have t66 := ho43.grew (hg46.trans (hg51.trans (hg55.trans (hg61.trans hg66))))
  have u66 := ho48.grew (hg51.trans (hg55.trans (hg61.trans hg66)))
  have k66 := ho53.grew (hg55.trans (hg61.trans hg66))
  have l66 := ho57.grew (hg61.trans hg66)
  have wt66 := ho63.grew hg66
  have m66 := ho40.grew hG66
  have hr66 := (hr.grew hg38').grew hG66
  have s38 := hg38'.size; have s41 := hg41.size; have s46 := hg46.size; have s51 := hg51.size; have s55 := hg55.size; have s61 := hg61.size; have s66 := hg66.size; have s1 := hg1.size
  have s3 := hg38.size
  have bt : ∀ b, Blk a43 b → w38.heap.size ≤ b ∧ b < w41.heap.size := fun b hb => ho43.blk hb
  have bu : ∀ b, Blk a48 b → w41.heap.size ≤ b ∧ b < w46.heap.size := fun b hb => ho48.blk hb
  have bk : ∀ b, Blk a53 b → w46.heap.size ≤ b ∧ b < w51.heap.size := fun b hb => ho53.blk hb
  have bl : ∀ b, Blk a57 b → w51.heap.size ≤ b ∧ b < w55.heap.size := fun b hb => ho57.blk hb
  have bwt : ∀ b, Blk a63 b → w55.heap.size ≤ b ∧ b < w61.heap.size := fun b hb => ho63.blk hb
  have bnk : ∀ b, Blk a68 b → w61.heap.size ≤ b ∧ b < w66.heap.size := fun b hb => ho68.blk hb
  have bm : ∀ b, Blk a40 b → w1.heap.size ≤ b ∧ b < w38.heap.size := fun b hb => ho40.blk hb
  have hlt43 := ho43.len
  have hlt53 := ho53.len
  rw [List.length_map] at hlt53
  -- t is written over
  refine ⟨fun i w' => ∃ (q : Nat) (p : List PairV), i = q ∧ q ≤ l43 ∧ p.length = l43 ∧ Own w' w38.heap.size 38 Enc.pair a43 l43 c43 p ∧ Upd (fun b => Blk a43 b ∨ w66.heap.size ≤ b) w66 w', fun i _ => l43 - i.toNat, ⟨0, T, rfl, Nat.zero_le _, hlt43.symm, t66, Upd.refl _ _⟩, ?_⟩
  rintro i w71 ⟨q, p, rfl, hq, hpl, ho71, hu71⟩
  have hwq : q ≤ 4194304 → IntKind.i64.wrap ((q : Int) + 1) = ((q + 1 : Nat) : Int) := by intro h; rw [IntKind.wrap_i64]; omega
  refine ⟨fun hlt => ?_, fun hge => ?_⟩
  · simp only [decide_eq_true_eq] at hlt
    refine pair_ok.use fun u w72 ⟨hv, hg72⟩ => ?_
    subst hv
    obtain ⟨d, hd', hroom, hset, hu⟩ := (ho71.grew hg72).set (i := q) (by omega) ⟨99, true, 9⟩
    refine ⟨_, _, _, rfl, ?_⟩
    rw [hd', withSome]
    refine ⟨⟨by omega, by omega⟩, hroom, ?_⟩
    rintro w79 rfl
    have h1 := hwq (by omega)
    refine ⟨⟨q + 1, p.set q ⟨99, true, 9⟩, h1, by omega, by rw [List.length_set]; exact hpl, by rw [← hd']; exact hset, ?_⟩, by show l43 - (IntKind.i64.wrap ((q : Int) + 1)).toNat < l43 - ((q : Int)).toNat; rw [h1]; omega⟩
    rw [← hd']
    exact (hu71.trans (hg72.upd)).trans (hu.mono fun b hb h => .inl h)
  clear hge hq hwq hpl q
  have s71 := hu71.size
  have k71 := k66.upd hu71 (fun b h1 h2 => by have := bk b h1; rcases h2 with h2 | h2; have := bt b h2; omega; omega)
  refine ⟨fun i w' => ∃ (q : Nat) (p : List Int), i = q ∧ q ≤ l53 ∧ p.length = l53 ∧ Own w' w46.heap.size 30 (Enc.int .u64) a53 l53 c53 p ∧ Upd (fun b => Blk a53 b) w71 w', fun i _ => l53 - i.toNat, ⟨0, _, rfl, Nat.zero_le _, by rw [List.length_map]; exact hlt53.symm, k71, Upd.refl _ _⟩, ?_⟩
  rintro i w82 ⟨q, pk, rfl, hq, hpkl, ho82, hu82⟩
  have hwq : q ≤ 4194304 → IntKind.i64.wrap ((q : Int) + 1) = ((q + 1 : Nat) : Int) := by intro h; rw [IntKind.wrap_i64]; omega
  refine ⟨fun hlt => ?_, fun hge => ?_⟩
  · simp only [decide_eq_true_eq] at hlt
    obtain ⟨d, hd', hroom, hset, hu⟩ := ho82.set (i := q) (by omega) 98
    rw [hd', withSome]
    refine ⟨⟨by omega, by omega⟩, by simpa [Enc.int] using hroom, ?_⟩
    rintro w84 rfl
    have h1 := hwq (by omega)
    exact ⟨⟨q + 1, pk.set q 98, h1, by omega, by rw [List.length_set]; exact hpkl, by rw [← hd']; simpa [Enc.int] using hset, by rw [← hd']; simpa [Enc.int] using hu82.trans hu⟩, by show l53 - (IntKind.i64.wrap ((q : Int) + 1)).toNat < l53 - ((q : Int)).toNat; rw [h1]; omega⟩
  clear hge hq hwq q
  have s82 := hu82.size
  have t82 := ho71.upd hu82 (fun b h1 h2 => by have := bt b h1; have := bk b h2; omega)
  have U82 : Upd (fun b => Blk a43 b ∨ Blk a53 b ∨ w66.heap.size ≤ b) w66 w82 := (hu71.mono fun b _ h => h.elim .inl (fun h => .inr (.inr h))).trans (hu82.mono fun b _ h => .inr (.inl h))
  -- both grow
  refine ⟨fun ta tn tc ka kn kc i w' => ∃ (q : Nat) (p : List PairV) (s : List Int), i = q ∧ q ≤ 9 ∧ p.length = l43 + q ∧ s.length = l53 + q ∧ Own w' w38.heap.size 38 Enc.pair ta tn tc p ∧ Own w' w46.heap.size 30 (Enc.int .u64) ka kn kc s ∧ (∀ b, Blk ta b → Blk a43 b ∨ w66.heap.size ≤ b) ∧ (∀ b, Blk ka b → Blk a53 b ∨ w66.heap.size ≤ b) ∧ (∀ b, Blk ta b → ¬ Blk ka b) ∧ Upd (fun b => Blk a43 b ∨ Blk a53 b ∨ w66.heap.size ≤ b) w66 w', fun _ _ _ _ _ _ i _ => 9 - i.toNat,
    ⟨0, p, pk, rfl, by omega, by have := ho71.len; omega, by omega, t82, ho82, fun b h => .inl h, fun b h => .inl h, fun b h1 h2 => by have := bt b h1; have := bk b h2; omega, U82⟩, ?_⟩
  rintro ta tn tc ka kn kc i w89 ⟨q, pt, ps, rfl, hq, hpt, hps, hoT, hoK, hbT, hbK, hap, hU⟩
  refine ⟨fun hlt => ?_, fun hge w106 hg106 => ?_⟩
  · simp only [decide_eq_true_eq] at hlt
    have h1 : IntKind.i64.wrap ((q : Int) + 1) = ((q + 1 : Nat) : Int) := by rw [IntKind.wrap_i64]; omega
    refine pair_ok.use fun u w90 ⟨hv, hg90⟩ => ?_
    subst hv
    refine ⟨_, _, _, rfl, fun b96 w97 hal97 => ?_⟩
    have sU := hU.size; have s90 := hg90.size
    have hoT90 := hoT.grew hg90
    refine append_new (l2 := [⟨97, true, 7⟩]) elPair hoT90 hal97 rfl rfl (by omega) (by simp only [maxLen, List.length_singleton]; omega) (by simp only [List.length_singleton]; omega) ?_
    rintro v98 w98 ⟨a100, l100, c100, rfl, ho100, hu100, hb100⟩
    have s98 := hu100.size
    have hoK98 := (hoK.grew hg90).upd hu100 fun b hb h => hap b h hb
    refine ⟨_, _, _, rfl, fun b101 w102 hal102 => ?_⟩
    refine append_new (l2 := [96]) elU64F hoK98 hal102 rfl rfl (by omega) (by simp only [maxLen, List.length_singleton]; omega) (by simp only [List.length_singleton]; omega) ?_
    rintro v103 w103 ⟨a105, l105, c105, rfl, ho105, hu105, hb105⟩
    have hapT : ∀ b, Blk a100 b → ¬ Blk ka b := fun b h1 h2 => by
      rcases hb100 b h1 with h | h
      · exact hap b h h2
      · have := (hoK.blk h2).2; omega
    have hoT103 := ho100.upd hu105 fun b h1 h2 => hapT b h1 h2
    refine ⟨_, _, _, rfl, ⟨q + 1, pt ++ [⟨97, true, 7⟩], ps ++ [96], h1, by omega, by simp; omega, by simp; omega, hoT103, ho105, fun b hb => ?_, fun b hb => ?_, fun b hb1 hb2 => ?_, ?_⟩, by show 9 - (IntKind.i64.wrap ((q : Int) + 1)).toNat < 9 - ((q : Int)).toNat; rw [h1]; omega⟩
    · rcases hb100 b hb with h | h
      · exact hbT b h
      · exact .inr (by omega)
    · rcases hb105 b hb with h | h
      · exact hbK b h
      · exact .inr (by omega)
    · rcases hb105 b hb2 with h | h
      · exact hapT b hb1 h
      · have := (ho100.blk hb1).2; omega
    · refine (hU.trans hg90.upd).trans ((hu100.mono fun b _ h => ?_).trans (hu105.mono fun b _ h => ?_))
      · rcases hbT b h with h | h
        · exact .inl h
        · exact .inr (.inr h)
      · rcases hbK b h with h | h
        · exact .inr (.inl h)
        · exact .inr (.inr h)
  simp only [decide_eq_false_iff_not] at hge
  have hq9 : q = 9 := by omega
  subst hq9
  have hUg := hU.trans hg106.upd
  have far : ∀ b, b < w66.heap.size → ¬ Blk a43 b → ¬ Blk a53 b → ¬ (Blk a43 b ∨ Blk a53 b ∨ w66.heap.size ≤ b) := fun b h1 h2 h3 h => by rcases h with h | h | h; exact h2 h; exact h3 h; omega
  have u106 := u66.upd hUg fun b hb => far b (by have := bu b hb; omega) (fun h => by have := bu b hb; have := bt b h; omega) (fun h => by have := bu b hb; have := bk b h; omega)
  have wt106 := wt66.upd hUg fun b hb => far b (by have := bwt b hb; omega) (fun h => by have := bwt b hb; have := bt b h; omega) (fun h => by have := bwt b hb; have := bk b h; omega)
  have l106 := l66.upd hUg fun b hb => far b (by have := bl b hb; omega) (fun h => by have := bl b hb; have := bt b h; omega) (fun h => by have := bl b hb; have := bk b h; omega)
  have nk106 := ho68.upd hUg fun b hb => far b (by have := bnk b hb; omega) (fun h => by have := bnk b hb; have := bt b h; omega) (fun h => by have := bnk b hb; have := bk b h; omega)
  have m106 := m66.upd hUg fun b hb => far b (by have := bm b hb; omega) (fun h => by have := bm b hb; have := bt b h; omega) (fun h => by have := bm b hb; have := bk b h; omega)
  have G106 : Grew w w106 := ((hg38'.trans hG66).then_own hUg fun b hb => by
    rcases hb with h | h | h
    · have := bt b h; omega
    · have := bk b h; omega
    · omega)
  have hrZ := hr.grew G106
  refine ⟨fun _ => ?_, fun h => (by simp at h)⟩
  refine (same_ok u106.reads wt106.reads (by omega)).use fun u w107 ⟨hv, hg107⟩ => ?_
  subst hv
  refine ⟨_, rfl, nb, fun _ => ?_, fun h => (by simp at h)⟩
  refine (lkeys_ok (l106.grew hg107).reads (nk106.grew hg107).reads (by rw [List.length_map]; omega)).use fun u w111 ⟨hv, hg111⟩ => ?_
  subst hv
  have hg111' := hg107.trans hg111
  have hmineZ : Own w111 w1.heap.size 38 Enc.pair a40 l.length c40 l := by
    have := (m106.grew hg111').take (k := l.length) (by omega)
    rwa [hsplit.1] at this
  refine ⟨_, rfl, nb, fun _ => ?_, fun h => (by cases h)⟩
  refine (same_ok hmineZ.reads (hrZ.grew hg111') (by omega)).use fun u w115 ⟨hv, hg115⟩ => ?_
  subst hv
  have hg115' := hg111'.trans hg115
  refine ⟨_, rfl, nb, fun _ => ⟨⟨by omega, by omega⟩, ?_⟩, fun h => (by simp at h)⟩
  refine pair_ok.use fun u w119 ⟨hv, hg119⟩ => ?_
  subst hv
  refine ⟨_, _, _, rfl, nb, pair_ok.use fun u w125 ⟨hv, hg125⟩ => ?_⟩
  subst hv
  refine ⟨_, _, _, rfl, nb, pair_ok.use fun u w131 ⟨hv, hg131⟩ => ?_⟩
  subst hv
  refine ⟨_, _, _, rfl, nb, pair_ok.use fun u w137 ⟨hv, hg137⟩ => ?_⟩
  subst hv
  refine ⟨_, _, _, rfl, nb, fun b143 w144 hal144 => ⟨nb, ?_⟩⟩
  have hg144 := hg115'.trans (hg119.trans (hg125.trans (hg131.trans (hg137.trans hal144.grew))))
  have htail : Reads w144 Enc.pair (if c40 = l.length then a40 else Option.map (fun x => Addr.add x (l.length * 3)) a40, l40 - l.length, c40 - l.length) four := by
    have := (m106.reads.grew hg144).from (i := l.length) (by omega)
    rw [hsplit.2] at this
    exact this
  have h4 := (Own.alloc (E := Enc.pair) (l := four) hal144 (Nat.le_refl _) rfl (by simp [maxLen, four])).reads
  refine (same_ok htail h4 (by simp [four])).use fun u w145 ⟨hv, hg145⟩ => ?_
  subst hv
  have hl48 := ho48.len
  have hl57 := ho57.len
  have hlT := hoT.len
  have hlK := hoK.len
  rw [List.length_map] at hl57
  refine ⟨_, rfl, nb, fun _ n149 h149 => ⟨fun _ n150 h150 => ⟨_, rfl, ?_, G106.trans (hg144.trans hg145)⟩, fun h => ?_⟩, fun h => (by simp at h)⟩
  · have : (kn : Int) = n150 := by rw [h150, IntKind.wrap_i64]; omega
    rw [this]; simp
  · exfalso
    have : (tn : Int) = n149 := by rw [h149, IntKind.wrap_i64]; omega
    rw [this] at h; simp at h

theorem pair_kindsF : kindsOf Try.prog 3 38 = some [.int .u64, .bool, .int .u64] := by kernel_rfl
theorem pair_ofF (cs : List Value) (h : AllK [.int .u64, .bool, .int .u64] cs) : ∃ x : PairV, cs = Enc.pair.f x ∧ x.Fits := by
  obtain ⟨hl, h⟩ := h
  match cs, hl with
  | [c0, c1, c2], _ =>
    obtain ⟨_, e0, n0, rfl, w0⟩ := h 0 _ rfl
    obtain ⟨_, e1, n1, rfl⟩ := h 1 _ rfl
    obtain ⟨_, e2, n2, rfl, w2⟩ := h 2 _ rfl
    simp at e0 e1 e2; subst e0; subst e1; subst e2
    refine ⟨⟨n0, n1, n2⟩, rfl, ?_⟩
    simp [Lit.wf, IntKind.min, IntKind.max, IntKind.signed, IntKind.bits] at w0 w2
    refine ⟨⟨?_, ?_⟩, ⟨?_, ?_⟩⟩ <;> simp only [u64m] <;> omega

section
variable {H : Type}
theorem upto_pos (d : DataW H) : 1 ≤ Rows.uptoBulk d := by
  cases d with
  | lit l => cases l <;> simp [Rows.uptoBulk]
  | _ => simp [Rows.uptoBulk]
theorem upto_all_len : ∀ ds : List (DataW H), ds.length ≤ Rows.uptoBulkAll ds
  | [] => by simp [Rows.uptoBulkAll]
  | d :: r => by
    have h1 := upto_pos d; have h2 := upto_all_len r
    simp only [Rows.uptoBulkAll, List.length_cons]; omega
theorem upto_mem : ∀ {ds : List (DataW H)} {j : Nat} {d : DataW H}, ds[j]? = some d → Rows.uptoBulk d ≤ Rows.uptoBulkAll ds
  | [], j, d, h => by simp at h
  | x :: r, 0, d, h => by simp at h; subst h; simp only [Rows.uptoBulkAll]; omega
  | x :: r, j + 1, d, h => by
    have := upto_mem (ds := r) (j := j) (d := d) (by simpa using h)
    simp only [Rows.uptoBulkAll]; omega
theorem upto_len {ds : List (DataW H)} {B : Nat} (h : Rows.uptoBulkAll ds ≤ B) {j : Nat} {d : DataW H} {n : Nat} (hd : ds[j]? = some d) (hs : (d = .nil ∧ n = 0) ∨ ∃ es sp, d = .slice es sp ∧ es.length = n) : n ≤ B := by
  have h1 := upto_mem hd
  rcases hs with ⟨-, rfl⟩ | ⟨es, sp, rfl, rfl⟩
  · omega
  · have h2 := upto_all_len es
    simp only [Rows.uptoBulk] at h1; omega
end
open Go.ChangeShapes Go.WideShapes Go.ChangeAt Go.RowKit
set_option maxRecDepth 100000 in
theorem foldMemory_lifted (os : Os) (started : os.Started) (H : Type) (enc : TypeId × Value → H) (F : Stop.Interp) :
    ReturnsInHanded {} Try.checked os 9 .any ((Rows.OpenSpec.upto Rows.foldMemorySpec).pre6 enc Try.prog Try.f9 Rows.foldMemoryUptoRow.domain false) (((Rows.OpenSpec.upto Rows.foldMemorySpec).at F).post enc Try.prog Try.f9 false true false false) := by
  refine returnsInHanded_of_cond_sized (s := Rows.OpenSpec.upto Rows.foldMemorySpec) (k := Rows.uptoSmall) (by rfl) (C := Try.checked) (by kernel_rfl) started (by kernel_rfl) Try.func9
    (OpenSpec.witness (s := Rows.OpenSpec.upto Rows.foldMemorySpec) (k := Rows.uptoSmall) (by rfl) (enc := enc) (C := Try.checked) (x := ([.lit (.int .i64 0), .nil, .nil], [], [])) false ⟨#[], #[.int .i64 0, .slice none 0 0, .slice none 0 0], []⟩ 8 (by kernel_rfl) (by kernel_rfl) (by kernel_rfl) (by kernel_rfl) (by kernel_rfl) (by kernel_rfl)) ?_
  intro W base args ds gs before hval0 hW hcnd hsm0 hsz0 _
  have hval : ∀ (j : Nat) t v, Try.f9.params[j]? = some t → args[j]? = some v → Value.okWide Try.prog W .any base t v := hval0
  have hW' := hW
  obtain ⟨p, q, hA0, hV, rfl, hfz, hnd⟩ := hW
  have hA : DataW.TrodAll enc Try.prog W 0 (fun _ => true) true Try.f9.params.toList args.toList ds p := hA0
  have hsz : (DataW.weightsEach Try.prog (Try.f9.params.toList ++ _) (ds ++ gs)).all (· ≤ reachBytes) = true := hsz0
  rw [show Try.f9.params = #[3, 22, 22] from by kernel_rfl] at hA hval hsz
  have hA1 := hA
  obtain ⟨v0, vs0, d0, ds0, p0, q0, hargs, rfl, rfl, h0, r0⟩ := trodAll_cons hA
  obtain ⟨v1, vs1, d1, ds1, p1, q1, rfl, rfl, rfl, h1, r1⟩ := trodAll_cons r0
  obtain ⟨v2, vs2, d2, ds2, p2, q2, rfl, rfl, rfl, h2, r2⟩ := trodAll_cons r1
  obtain ⟨rfl, rfl, rfl⟩ := trodAll_nil r2
  obtain rfl : args = #[v0, v1, v2] := by cases args; simp_all
  obtain ⟨x0, rfl, hcl0⟩ := Go.Sx.open_int (P := Try.prog) (k := .i64) (t := 3) (by kernel_rfl) (hval 0 3 v0 rfl rfl) h0
  obtain ⟨a1, n1, c1, l1, rfl, hr1, hcl1, hn1, hs1⟩ := open_flat (P := Try.prog) (t := 22) (e := 38) (by kernel_rfl) pair_kindsF (by kernel_rfl) (hval 1 22 v1 rfl rfl) h1 (E := Enc.pair) rfl pair_ofF
  have hb1 : l1.length * 24 ≤ 140737488351232 := by have h1 := sized_len hsz (j := 1) (t := 22) (e := 38) rfl rfl (by kernel_rfl) (B := 24) (by kernel_rfl) hs1; have h2 := hr1.2.1; simp only at h2; omega
  obtain ⟨a2, n2, c2, l2, rfl, hr2, hcl2, hn2, hs2⟩ := open_flat (P := Try.prog) (t := 22) (e := 38) (by kernel_rfl) pair_kindsF (by kernel_rfl) (hval 2 22 v2 rfl rfl) h2 (E := Enc.pair) rfl pair_ofF
  have hb2 : l2.length * 24 ≤ 140737488351232 := by have h1 := sized_len hsz (j := 2) (t := 22) (e := 38) rfl rfl (by kernel_rfl) (B := 24) (by kernel_rfl) hs2; have h2 := hr2.2.1; simp only at h2; omega
  have hsm : Rows.uptoBulkAll _ ≤ 1048576 := of_decide_eq_true hsm0
  have hbk1 : l1.length ≤ 1048576 := by have h2 := hr1.2.1; simp only at h2; have h3 := upto_len hsm (j := 1) rfl hs1; omega
  have hbk2 : l2.length ≤ 1048576 := by have h2 := hr2.2.1; simp only at h2; have h3 := upto_len hsm (j := 2) rfl hs2; omega
  clear hA0 hA1 hval0 hsz0
  refine (CallsW.calls ⟨_, Try.func9, by kernel_rfl, by kernel_rfl⟩ (FoldMemory_ok hcl0 hr1 hcl1 hbk1 hr2 hcl2 hbk2)).mono fun e W' ⟨w', hh, hk, v, he, hv, hg⟩ => ?_
  subst he; subst hv
  exact ⟨_, rfl, post_true (tb := 4) (by kernel_rfl) rfl (by kernel_rfl) (by kernel_rfl) ⟨rfl, rfl, rfl⟩ (by decide +kernel) hW' (below_of hg hh hk)⟩

theorem foldMemory_holds : Rows.FoldMemoryUptoSaid :=
  OpenClaim.holds_of_cond 9 Try.f9 rfl rfl rfl rfl rfl rfl rfl ⟨rfl, rfl, rfl, rfl, rfl⟩ rfl rfl rfl rfl rfl (by kernel_rfl) Try.func9 (by kernel_rfl)
    (of_decide_eq_true (by kernel_rfl)) (by unfold Func.isWrapper; first | (rw [if_pos (by decide +kernel)]; kernel_rfl) | (rw [if_neg (by decide +kernel)]; exact ⟨rfl, rfl⟩))
    (fun os started H enc _ F => foldMemory_lifted os started H enc F)
end Go.Proofs.Ytoljpkdokpinhaa
