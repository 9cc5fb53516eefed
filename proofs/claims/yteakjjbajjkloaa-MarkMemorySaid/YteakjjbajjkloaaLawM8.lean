/- MarkMemory: what it computes, and its row. Conditions: none. -/
import Derived.Test.YteakjjbajjkloaaProg
import Derived.Test.YteakjjbajjkloaaMarkA
import Derived.Test.YteakjjbajjkloaaRows
import Derived.Test.YteakjjbajjkloaaSxT
namespace Go.Proofs.Yteakjjbajjkloaa
open Go.Sx
set_option maxRecDepth 100000
set_option linter.unusedVariables false
set_option linter.unusedSimpArgs false
/- reprise/repriselaw12.MarkMemory -/
def sx10 (d_0 : Int) (d_1 : Int) (d_2 : Option Addr) (d_2_n d_2_c : Nat) (R : Ending → World → Prop) (w : World) : Prop :=
  ∀ w1, Grew w w1 → CallsW Try.prog 11 [] w1 (RetR R fun u3 w2 => ∃ (b4 : Bool), u3 = .bool b4 ∧ (((!b4) = true → R (.returned (.bool false)) w2) ∧ ((!b4) = false → ∀ n6 : Int, n6 = IntKind.i64.wrap (((d_2_n : Nat) : Int) +
    3) → SemW Try.prog (Instr.makeSlice 22 (.int .i64 0) (.int .i64 n6)) (fun u8 w7 => ∃ (a9 : Option Addr) (l9 c9 : Nat), u8 = .slice a9 l9 c9 ∧ SemW Try.prog (Builtin.append_ #[22, 22] 22 #[.slice a9 l9 c9, .slice d_2
    d_2_n d_2_c]) (fun u11 w10 => ∃ (a12 : Option Addr) (l12 c12 : Nat), u11 = .slice a12 l12 c12 ∧ ∀ (b13 : Nat) (w14 : World), Alloc w10 w14 b13 (.cells #[.int .u64 71, .int .u64 72, .int .u64 73] 38) → SemW Try.prog
    (Builtin.append_ #[22, 22] 22 #[.slice a12 l12 c12, .slice (some ⟨b13, 0, none⟩) 3 3]) (fun u16 w15 => ∃ (a17 : Option Addr) (l17 c17 : Nat), u16 = .slice a17 l17 c17 ∧ ∀ w18, Grew w15 w18 → (0 ≤ ((d_2_n : Nat) : Int)
    ∧ ((d_2_n : Nat) : Int) ≤ (c17 : Nat)) ∧ ∀ w19, Grew w18 w19 → SameB w18 w19 [] ∧ CallsW Try.prog 12 [.agg #[.int .i64 d_0, .int .i64 d_1, .slice a17 (((d_2_n : Nat) : Int).toNat) c17]] w19 (RetR R fun u21 w20 => ∃
    (a22 : Option Addr) (l22 c22 : Nat) (n23 : Int), u21 = .tuple #[.slice a22 l22 c22, .int .i64 n23] ∧ CallsW Try.prog 12 [.agg #[.int .i64 d_0, .int .i64 d_1, .slice a17 (((d_2_n : Nat) : Int).toNat) c17]] w20 (RetR R
    fun u26 w25 => ∃ (a27 : Option Addr) (l27 c27 : Nat) (n28 : Int), u26 = .tuple #[.slice a27 l27 c27, .int .i64 n28] ∧ (((n23 != n28) = true → R (.returned (.bool false)) w25) ∧ ((n23 != n28) = false → SemW Try.prog
    (convert 26 9 (.slice a22 l22 c22)) (fun u31 w30 => ∃ (s32 : ByteArray), u31 = .string s32 ∧ SemW Try.prog (convert 26 9 (.slice a27 l27 c27)) (fun u34 w33 => ∃ (s35 : ByteArray), u34 = .string s35 ∧ ∃ (b36 : Bool),
    PureTo Try.prog (eqS .neq 9 (.tmp 54) (.tmp 56) (.string s32) (.string s35)) (.bool b36) ∧ ((b36 = true → R (.returned (.bool false)) w33) ∧ (b36 = false → CallsW Try.prog 18 [.agg #[.int .i64 d_0, .int .i64 d_1,
    .slice a17 (((d_2_n : Nat) : Int).toNat) c17], .agg #[.int .i64 d_0, .int .i64 d_1, .slice d_2 d_2_n d_2_c]] w33 (RetR R fun u38 w37 => ∃ (b39 : Bool), u38 = .bool b39 ∧ (((!b39) = true → R (.returned (.bool false))
    w37) ∧ ((!b39) = false → (0 ≤ ((d_2_n : Nat) : Int) ∧ ((d_2_n : Nat) : Int) ≤ (l17 : Nat)) ∧ ∀ (b41 : Nat) (w42 : World), Alloc w37 w42 b41 (.cells #[.int .u64 71, .int .u64 72, .int .u64 73] 38) → CallsW Try.prog 23
    [.slice (if c17 = ((d_2_n : Nat) : Int).toNat then a17 else Option.map (fun x => Addr.add x (((d_2_n : Nat) : Int).toNat * 1)) a17) (l17 - ((d_2_n : Nat) : Int).toNat) (c17 - ((d_2_n : Nat) : Int).toNat), .slice (some
    ⟨b41, 0, none⟩) 3 3] w42 (RetR R fun u44 w43 => ∃ (b45 : Bool), u44 = .bool b45 ∧ (((!b45) = true → R (.returned (.bool false)) w43) ∧ ((!b45) = false → (((n23 != 0) = true → R (.returned (.bool true)) w43) ∧ ((n23 !=
    0) = false → CallsW Try.prog 16 [.slice a22 l22 c22] w43 (RetR R fun u48 w47 => ∃ (n49 : Int) (n50 : Int) (a51 : Option Addr) (l51 c51 : Nat) (n52 : Int), u48 = .tuple #[.agg #[.int .i64 n49, .int .i64 n50, .slice a51
    l51 c51], .int .i64 n52] ∧ ∀ w54, Grew w47 w54 → CallsW Try.prog 16 [.slice a22 l22 c22] w54 (RetR R fun u56 w55 => ∃ (n57 : Int) (n58 : Int) (a59 : Option Addr) (l59 c59 : Nat) (n60 : Int), u56 = .tuple #[.agg #[.int
    .i64 n57, .int .i64 n58, .slice a59 l59 c59], .int .i64 n60] ∧ ∀ w62, Grew w55 w62 → ∃ (I63 : Int → World → Prop) (m63 : Int → World → Nat), I63 0 w62 ∧ ∀ (n64 : Int) (w65 : World), I63 n64 w65 → (((decide (n64 <
    ((l22 : Nat) : Int))) = true → withSome a22 (fun d66 => (0 ≤ n64 ∧ n64 < (l22 : Nat)) ∧ RoomAt w65 (Addr.add d66 (n64.toNat * 1)) 0 [.int .u8 85] ∧ ∀ w67, w67 = setCells w65 (Addr.add d66 (n64.toNat * 1)) 0 [.int .u8
    85] → (I63 (IntKind.i64.wrap (n64 + 1)) w67 ∧ m63 (IntKind.i64.wrap (n64 + 1)) w67 < m63 n64 w65))) ∧ ((decide (n64 < ((l22 : Nat) : Int))) = false → ∃ (I68 : Int → World → Prop) (m68 : Int → World → Nat), I68 0 w65 ∧
    ∀ (n69 : Int) (w70 : World), I68 n69 w70 → (((decide (n69 < ((l51 : Nat) : Int))) = true → withSome a51 (fun d71 => (0 ≤ n69 ∧ n69 < (l51 : Nat)) ∧ RoomAt w70 (Addr.add d71 (n69.toNat * 1)) 0 [.int .u64 9] ∧ ∀ w72,
    w72 = setCells w70 (Addr.add d71 (n69.toNat * 1)) 0 [.int .u64 9] → (I68 (IntKind.i64.wrap (n69 + 1)) w72 ∧ m68 (IntKind.i64.wrap (n69 + 1)) w72 < m68 n69 w70))) ∧ ((decide (n69 < ((l51 : Nat) : Int))) = false → ∀
    (b73 : Nat) (w74 : World), Alloc w70 w74 b73 (.cells #[.int .u64 8, .int .u64 8, .int .u64 8, .int .u64 8] 38) → SemW Try.prog (Builtin.append_ #[22, 22] 22 #[.slice a51 l51 c51, .slice (some ⟨b73, 0, none⟩) 4 4])
    (fun u76 w75 => ∃ (a77 : Option Addr) (l77 c77 : Nat), u76 = .slice a77 l77 c77 ∧ CallsW Try.prog 12 [.agg #[.int .i64 n57, .int .i64 n58, .slice a59 l59 c59]] w75 (RetR R fun u79 w78 => ∃ (a80 : Option Addr) (l80 c80
    : Nat) (n81 : Int), u79 = .tuple #[.slice a80 l80 c80, .int .i64 n81] ∧ (((n52 == 0) = true → (((n60 == 0) = true → (((n81 == 0) = true → CallsW Try.prog 18 [.agg #[.int .i64 n57, .int .i64 n58, .slice a59 l59 c59],
    .agg #[.int .i64 d_0, .int .i64 d_1, .slice d_2 d_2_n d_2_c]] w78 (RetR R fun u84 w83 => ∃ (b85 : Bool), u84 = .bool b85 ∧ ((b85 = true → SemW Try.prog (convert 26 9 (.slice a80 l80 c80)) (fun u88 w87 => ∃ (s89 :
    ByteArray), u88 = .string s89 ∧ SemW Try.prog (convert 26 9 (.slice a27 l27 c27)) (fun u91 w90 => ∃ (s92 : ByteArray), u91 = .string s92 ∧ ∃ (b93 : Bool), PureTo Try.prog (eqS .eql 9 (.tmp 132) (.tmp 134) (.string
    s89) (.string s92)) (.bool b93) ∧ R (.returned (.bool b93)) w90) w87) w83) ∧ (b85 = false → R (.returned (.bool false)) w83)))) ∧ ((n81 == 0) = false → R (.returned (.bool false)) w78))) ∧ ((n60 == 0) = false → R
    (.returned (.bool false)) w78))) ∧ ((n52 == 0) = false → R (.returned (.bool false)) w78)))) w74))))))))))))))))) w30) w25))))) w14) w7) w2)))
theorem sx10.ok {d_0 : Int} {d_1 : Int} {d_2 : Option Addr} {d_2_n d_2_c : Nat} {R : Ending → World → Prop} {w : World} (h : sx10 d_0 d_1 d_2 d_2_n d_2_c R w) : CallsW Try.prog 10 [.agg #[.int .i64 d_0, .int .i64 d_1, .slice d_2 d_2_n d_2_c]] w R :=
  callsW_of mix Try.func10 (by kernel_rfl) (by kernel_rfl) (Eq.mpr (by kernel_rfl : denFn Try.prog { locals := [1, 5, 10, 11], pureTo := [57, 135], sem := [23, 27, 30, 54, 56, 108, 132, 134], named := [22], draws := [(7, { order := (.cons 0 (.cons 1 (.cons 2 (.cons 3 (.cons 4 (.cons 5 (.cons 6 (.cons 7 (.cons 8 (.cons 9 .nil)))))))))), bars := [9] })], loops := [(17, { slots := [(12, .int .i64)], cells := [] }), (21, { slots := [(13, .int .i64)], cells := [] })] } Try.f10 [.agg #[.int .i64 d_0, .int .i64 d_1, .slice d_2 d_2_n d_2_c]] R w = sx10 d_0 d_1 d_2 d_2_n d_2_c R w) h)


theorem rests (l r : List Int) : (l ++ r).take l.length = l ∧ (l ++ r).drop l.length = r := ⟨List.take_left, List.drop_left⟩

set_option maxHeartbeats 2000000 in
theorem MarkMemory_ok {a : Option Addr} {n c : Nat} {m : MarkV} {w : World} (hr : Reads w (Enc.int .u64) (a, n, c) m.keys) (hf : m.Fits) (hl : m.keys.length ≤ maxLen) (hb : m.keys.length * 8 ≤ 140737488351232) :
    CallsW Try.prog 10 [mval m a n c] w (Rets fun v w' => v = .bool true ∧ Grew w w') := by
  refine sx10.ok ?_
  unfold sx10
  have hlen : m.keys.length ≤ 9223372036854775806 := by omega
  intro w1 hg1
  refine awakeM_ok.use fun v w2 ⟨hv, hg2⟩ => ?_
  subst hv
  have hg2 := hg1.trans hg2
  have hn : n = m.keys.length := hr.2.1
  subst hn
  refine ⟨_, rfl, fun h => (by cases h), fun _ => ?_⟩
  rintro n6 rfl
  have hw4 : IntKind.i64.wrap ((m.keys.length : Int) + 3) = ((m.keys.length + 3 : Nat) : Int) := by rw [IntKind.wrap_i64]; omega
  rw [hw4]
  refine make_room (e := 38) (bytes := 8) (E := Enc.int .u64) (by kernel_rfl) (z := .int .u64 0) (by kernel_rfl) (by omega) (by simp only [maxLen]; omega) ?_
  intro b9 w7 ho7 hg7
  refine ⟨_, _, _, rfl, ?_⟩
  have hr7 := (hr.grew hg2).grew hg7
  have ec : ElemOk Try.prog 22 38 (Enc.int .u64).sz 8 := en_U
  refine append_sl ec ho7 hr7.1 hr7.2.1 hr7.2.2.1 hg7.size (by simp only [maxLen, List.length_nil]; omega) (by simp; omega) ?_
  rintro v w10 ⟨a12, l12, c12, rfl, ho10, hu10, hb10⟩
  have hg10 : Grew w2 w10 := hg7.then_own hu10 fun b hb => (ho7.blk hb).1
  rw [List.nil_append] at ho10
  refine ⟨_, _, _, rfl, fun b13 w14 hal => ?_⟩
  refine append_new (l2 := [71, 72, 73]) ec ho10 hal rfl rfl hg10.size (by simp only [maxLen, List.length_cons, List.length_nil]; omega) (by simp; omega) ?_
  rintro v w15 ⟨a17, l17, c17, rfl, ho15, hu15, hb15⟩
  have hg15 : Grew w2 w15 := hg10.then_own hu15 fun b hb => (ho10.blk hb).1
  refine ⟨_, _, _, rfl, fun w18 hg18 => ?_⟩
  have ho18 := ho15.grew hg18
  have hlen17 := ho18.len
  have hle17 := ho18.le
  simp only [List.length_append, List.length_cons, List.length_nil] at hlen17
  refine ⟨⟨by omega, by omega⟩, fun w19 hg19 => ⟨by simp [SameB], ?_⟩⟩
  have hg19' := hg2.trans (hg15.trans (hg18.trans hg19))
  have hsplit := rests m.keys [71, 72, 73]
  have ho19 := ho18.grew hg19
  simp only [Int.toNat_natCast]
  have hmine : Own w19 w2.heap.size 38 (Enc.int .u64) a17 m.keys.length c17 m.keys := by
    have := ho19.take (k := m.keys.length) (by omega)
    rwa [hsplit.1] at this
  refine (MEncode_ok (m := m) hmine.reads hf.ks hlen).use fun v w20 ⟨a22, l22, c22, hv, ho20, hg20⟩ => ?_
  subst hv
  refine ⟨_, _, _, _, rfl, (MEncode_ok (m := m) (hmine.grew hg20).reads hf.ks hlen).use fun v w25 ⟨a27, l27, c27, hv, ho25, hg25⟩ => ?_⟩
  subst hv
  have hg25' := hg20.trans hg25
  have ho22 := ho20.grew hg25
  refine ⟨_, _, _, _, rfl, fun h => (by simp at h), fun _ => ?_⟩
  refine conv_str (e := 5) (by kernel_rfl) (by kernel_rfl) (by kernel_rfl) ho22.reads ⟨_, rfl, conv_str (e := 5) (by kernel_rfl) (by kernel_rfl) (by kernel_rfl) ho25.reads ⟨_, rfl, _, eqS_strNe, fun h => (by rw [beq_toListBytes] at h; simp at h), fun _ => ?_⟩⟩
  have hmine25 := hmine.grew hg25'
  have hrA := hr.grew (hg19'.trans hg25')
  refine (sameMark_ok (m := m) (k := m) hmine25.reads hrA hlen).use fun v w37 ⟨hv, hg37⟩ => ?_
  subst hv
  rw [sameM_refl]
  refine ⟨_, rfl, fun h => (by cases h), fun _ => ⟨⟨by omega, by omega⟩, fun b41 w42 hal42 => ?_⟩⟩
  have htail : Reads w42 (Enc.int .u64) (if c17 = m.keys.length then a17 else Option.map (fun x => Addr.add x (m.keys.length * 1)) a17, l17 - m.keys.length, c17 - m.keys.length) [71, 72, 73] := by
    have := (ho19.reads.grew (hg25'.trans (hg37.trans hal42.grew))).from (i := m.keys.length) (by omega)
    rw [hsplit.2] at this
    exact this
  have h3 := (Own.alloc (E := Enc.int .u64) (l := [71, 72, 73]) hal42 (Nat.le_refl _) rfl (by simp [maxLen])).reads
  refine (keys_ok htail h3 (by simp)).use fun v w43 ⟨hv, hg43⟩ => ?_
  subst hv
  have hg43' := hg25'.trans (hg37.trans (hal42.grew.trans hg43))
  refine ⟨_, rfl, fun h => (by simp at h), fun _ => ⟨fun _ => ⟨_, rfl, rfl, hg19'.trans hg43'⟩, fun he => ?_⟩⟩
  have hs : soundM m = true := by
    cases hs : soundM m with
    | true => rfl
    | false => exfalso; rw [encodeM, if_neg (by rw [hs]; simp)] at he; simp at he
  have henc : encodeM m = (bytesM m, 0) := by rw [encodeM, if_pos hs]
  rw [henc] at ho20 ho22 ho25
  simp only at ho20 ho22 ho25
  have hbm := bytesM_bytes hs hf.ks
  have hbl := bytesM_len hs hf.ks
  have hk64 : m.keys.length ≤ 64 := (soundM_ok hs hf.ks).2.2.1
  have hdec : decodeM (bytesM m) = (m, 0) := by have := decodeM_fwd hs hf.ks []; simpa using this
  have ho43 := ho22.grew (hg37.trans (hal42.grew.trans hg43))
  refine (MDecode_ok ho43.reads hbm (by omega) (low8 ho43.reads)).use fun v w47 ⟨a51, l51, c51, hv, ho47, hg47⟩ => ?_
  subst hv
  rw [hdec] at ho47 ⊢
  refine ⟨_, _, _, _, _, _, rfl, fun w54 hg54 => ?_⟩
  have ho54 := ho43.grew (hg47.trans hg54)
  refine (MDecode_ok ho54.reads hbm (by omega) (low8 ho54.reads)).use fun v w55 ⟨a59, l59, c59, hv, ho55, hg55⟩ => ?_
  subst hv
  rw [hdec] at ho55 ⊢
  refine ⟨_, _, _, _, _, _, rfl, fun w62 hg62 => ?_⟩
  have hg62' := hg54.trans (hg55.trans hg62)
  have hb62 := ho54.grew (hg55.trans hg62)
  have hp62 := ho47.grew hg62'
  have hq62 := ho55.grew hg62
  have hc62 := ho25.grew (hg37.trans (hal42.grew.trans (hg43.trans (hg47.trans hg62'))))
  have hr62 := hr.grew (hg19'.trans (hg43'.trans (hg47.trans hg62')))
  have G62 := hg19'.trans (hg43'.trans (hg47.trans hg62'))
  have s20 := hg20.size; have s25 := hg25.size; have s43 := hg43'.size; have s47 := hg47.size; have s54 := hg54.size; have s55 := hg55.size; have s62 := hg62.size; have sx := (hg37.trans (hal42.grew.trans hg43)).size
  have s19 := hg19'.size
  have bb : ∀ b, Blk a22 b → w19.heap.size ≤ b ∧ b < w20.heap.size := fun b hb => ho20.blk hb
  have cb : ∀ b, Blk a27 b → w20.heap.size ≤ b ∧ b < w25.heap.size := fun b hb => ho25.blk hb
  have pb : ∀ b, Blk a51 b → w43.heap.size ≤ b ∧ b < w47.heap.size := fun b hb => ho47.blk hb
  have qb : ∀ b, Blk a59 b → w54.heap.size ≤ b ∧ b < w55.heap.size := fun b hb => ho55.blk hb
  have hB := hb62.len
  have hP := hp62.len
  simp only at hP
  -- b is written over
  refine ⟨fun i w' => ∃ (k : Nat) (p : List Int), i = k ∧ k ≤ l22 ∧ p.length = l22 ∧ Own w' w19.heap.size 5 (Enc.int .u8) a22 l22 c22 p ∧ Upd (Blk a22) w62 w', fun i _ => l22 - i.toNat, ⟨0, bytesM m, rfl, Nat.zero_le _, hB.symm, hb62, Upd.refl _ _⟩, ?_⟩
  rintro i w65 ⟨k, p, rfl, hk, hpl, hp65, hu65⟩
  refine ⟨fun hlt => ?_, fun hge => ?_⟩
  · simp only [decide_eq_true_eq] at hlt
    obtain ⟨d, rfl, hroom, hset, hu⟩ := hp65.set (i := k) (by omega) 85
    have hw : IntKind.i64.wrap ((k : Int) + 1) = ((k + 1 : Nat) : Int) := by rw [IntKind.wrap_i64]; omega
    rw [hw]
    refine ⟨⟨by omega, by omega⟩, by simpa [Enc.int] using hroom, ?_⟩
    rintro w67 rfl
    exact ⟨⟨k + 1, p.set k 85, rfl, by omega, by rw [List.length_set]; exact hpl, by simpa [Enc.int] using hset, by simpa [Enc.int] using hu65.trans hu⟩, by show l22 - (((k + 1 : Nat) : Int)).toNat < l22 - ((k : Int)).toNat; omega⟩
  clear hge hk k
  have hp65' := hp62.upd hu65 (fun b h1 h2 => by have := pb b h1; have := bb b h2; omega)
  -- p's keys are written over
  refine ⟨fun i w' => ∃ (k : Nat) (p : List Int), i = k ∧ k ≤ l51 ∧ p.length = l51 ∧ Own w' w43.heap.size 38 (Enc.int .u64) a51 l51 c51 p ∧ Upd (Blk a51) w65 w', fun i _ => l51 - i.toNat, ⟨0, m.keys, rfl, Nat.zero_le _, hP.symm, hp65', Upd.refl _ _⟩, ?_⟩
  rintro i w70 ⟨k, pk, rfl, hk, hpl', hp70, hu70⟩
  refine ⟨fun hlt => ?_, fun hge b73 w74 hal74 => ?_⟩
  · simp only [decide_eq_true_eq] at hlt
    obtain ⟨d, rfl, hroom, hset, hu⟩ := hp70.set (i := k) (by omega) 9
    have hw : IntKind.i64.wrap ((k : Int) + 1) = ((k + 1 : Nat) : Int) := by rw [IntKind.wrap_i64]; omega
    rw [hw]
    refine ⟨⟨by omega, by omega⟩, by simpa [Enc.int] using hroom, ?_⟩
    rintro w67 rfl
    exact ⟨⟨k + 1, pk.set k 9, rfl, by omega, by rw [List.length_set]; exact hpl', by simpa [Enc.int] using hset, by simpa [Enc.int] using hu70.trans hu⟩, by show l51 - (((k + 1 : Nat) : Int)).toNat < l51 - ((k : Int)).toNat; omega⟩
  clear hge hk k
  have t65 := hu65.size; have t70 := hu70.size
  refine append_new (l2 := [8, 8, 8, 8]) ec hp70 hal74 rfl rfl (by omega) (by simp only [maxLen, List.length_cons, List.length_nil]; omega) (by simp; omega) ?_
  rintro v w75 ⟨a77, l77, c77, rfl, ho75, hu75, hb75⟩
  refine ⟨_, _, _, rfl, ?_⟩
  have t75 := hu75.size
  have hq75 : Own w75 w54.heap.size 38 (Enc.int .u64) a59 l59 c59 m.keys := ((hq62.upd hu65 (fun b h1 h2 => by have := qb b h1; have := bb b h2; omega)).upd hu70 (fun b h1 h2 => by have := qb b h1; have := pb b h2; omega)).upd hu75 (fun b h1 h2 => by have := qb b h1; have := pb b h2; omega)
  have hc75 := ((hc62.upd hu65 (fun b h1 h2 => by have := cb b h1; have := bb b h2; omega)).upd hu70 (fun b h1 h2 => by have := cb b h1; have := pb b h2; omega)).upd hu75 (fun b h1 h2 => by have := cb b h1; have := pb b h2; omega)
  have G75 : Grew w w75 := ((G62.then_own hu65 fun b h => by have := bb b h; omega).then_own hu70 fun b h => by have := pb b h; omega).then_own hu75 fun b h => by have := pb b h; omega
  refine (MEncode_ok (m := m) hq75.reads hf.ks hlen).use fun v w78 ⟨a80, l80, c80, hv, ho78, hg78⟩ => ?_
  subst hv
  rw [henc] at ho78 ⊢
  refine ⟨_, _, _, _, rfl, fun _ => ⟨fun _ => ⟨fun _ => ?_, fun h => (by simp at h)⟩, fun h => (by simp at h)⟩, fun h => (by simp at h)⟩
  refine (sameMark_ok (m := m) (k := m) (hq75.grew hg78).reads (hr.grew (G75.trans hg78)) hlen).use fun v w83 ⟨hv, hg83⟩ => ?_
  subst hv
  rw [sameM_refl]
  refine ⟨_, rfl, fun _ => ?_, fun h => (by cases h)⟩
  refine conv_str (e := 5) (by kernel_rfl) (by kernel_rfl) (by kernel_rfl) (ho78.grew hg83).reads ⟨_, rfl, conv_str (e := 5) (by kernel_rfl) (by kernel_rfl) (by kernel_rfl) ((hc75.grew hg78).grew hg83).reads ⟨_, rfl, _, eqS_str, ?_⟩⟩
  exact ⟨_, rfl, by rw [show (strB (bytesM m) == strB (bytesM m)) = true from by rw [beq_toListBytes]; simp], G75.trans (hg78.trans hg83)⟩

open Go.ChangeShapes Go.WideShapes Go.ChangeAt Go.RowKit
set_option maxRecDepth 100000 in
theorem markMemory_lifted (os : Os) (started : os.Started) (H : Type) (enc : TypeId × Value → H) :
    ReturnsInHanded {} Try.checked os 10 .any (Rows.markMemorySpec.pre6 enc Try.prog Try.f10 Rows.markMemoryRow.domain false) (Rows.markMemorySpec.post enc Try.prog Try.f10 false true false false) := by
  refine returnsInHanded_of_change_sized (C := Try.checked) (by kernel_rfl) started (by kernel_rfl) Try.func10
    (ChangeSpec.witness6 (enc := enc) (C := Try.checked) false ⟨#[], #[.agg #[.int .i64 0, .int .i64 0, .slice none 0 0]], []⟩ 8 (by kernel_rfl) (by kernel_rfl) (by kernel_rfl) (by kernel_rfl)) ?_
  intro W base args ds gs before hval0 hW hcnd hsz0 _
  have hval : ∀ (j : Nat) t v, Try.f10.params[j]? = some t → args[j]? = some v → Value.okWide Try.prog W .any base t v := hval0
  have hW' := hW
  obtain ⟨p, q, hA0, hV, rfl, hfz, hnd⟩ := hW
  have hA : DataW.TrodAll enc Try.prog W 0 (fun _ => true) true Try.f10.params.toList args.toList ds p := hA0
  have hsz : (DataW.weightsEach Try.prog (Try.f10.params.toList ++ _) (ds ++ gs)).all (· ≤ reachBytes) = true := hsz0
  rw [show Try.f10.params = #[24] from by kernel_rfl] at hA hval hsz
  have hA1 := hA
  obtain ⟨v0, vs0, d0, ds0, p0, q0, hargs, rfl, rfl, h0, r0⟩ := trodAll_cons hA
  obtain ⟨rfl, rfl, rfl⟩ := trodAll_nil r0
  obtain rfl : args = #[v0] := by cases args; simp_all
  obtain ⟨m0, a0, n0, c0, rfl, hr0, hf0, hl0, hb0⟩ := openMark (j := 0) hsz rfl rfl (hval 0 24 v0 rfl rfl) h0
  clear hA0 hA1 hval0 hsz0
  refine (CallsW.calls ⟨_, Try.func10, by kernel_rfl, by kernel_rfl⟩ (MarkMemory_ok hr0 hf0 hl0 hb0)).mono fun e W' ⟨w', hh, hk, v, he, hv, hg⟩ => ?_
  subst he; subst hv
  exact ⟨_, rfl, post_true (tb := 4) (by kernel_rfl) rfl (by kernel_rfl) (by kernel_rfl) ⟨rfl, rfl, rfl⟩ (by decide +kernel) hW' (below_of hg hh hk)⟩

theorem markMemory_holds : Rows.MarkMemorySaid :=
  OpenClaim.holds_of_wide 10 Try.f10 rfl rfl rfl rfl rfl rfl rfl ⟨rfl, rfl, rfl, rfl, rfl⟩ rfl rfl rfl rfl rfl (by kernel_rfl) Try.func10 (by kernel_rfl)
    (of_decide_eq_true (by kernel_rfl)) (by unfold Func.isWrapper; first | (rw [if_pos (by decide +kernel)]; kernel_rfl) | (rw [if_neg (by decide +kernel)]; exact ⟨rfl, rfl⟩))
    (fun os started H enc _ => markMemory_lifted os started H enc)
end Go.Proofs.Yteakjjbajjkloaa
