/- What the reference's Encode of messages hands back. Conditions: none. -/
import Derived.Test.YtlkfkcgnlnbdeaaProg
import Derived.Test.YtlkfkcgnlnbdeaaNetB
namespace Go.Proofs.Ytlkfkcgnlnbdeaa
open Go.Sx
set_option maxRecDepth 100000
set_option linter.unusedVariables false
set_option linter.unusedSimpArgs false
/- reprise/repriseref15.Encode -/
def sx38 (d_0 : Int) (d_1 : Int) (d_2 : Int) (d_3 : Int) (d_4 : Int) (d_5 : Int) (d_6 : Option Addr) (d_6_n d_6_c : Nat) (d_7 : Option Addr) (d_7_n d_7_c : Nat) (d_8 : Option Addr) (d_8_n d_8_c : Nat) (R : Ending → World → Prop) (w : World) : Prop :=
  ∀ w1, Grew w w1 → CallsW Try.prog 39 [.agg #[.int .i64 d_0, .int .i64 d_1, .int .i64 d_2, .int .i64 d_3, .int .i64 d_4, .int .i64 d_5, .slice d_6 d_6_n d_6_c, .slice d_7 d_7_n d_7_c, .slice d_8 d_8_n d_8_c]] w1 (RetR R
    fun u3 w2 => ∃ (b4 : Bool), u3 = .bool b4 ∧ (((!b4) = true → R (.returned (.tuple #[.slice none 0 0, .int .i64 150])) w2) ∧ ((!b4) = false → ∀ (b6 : Nat) (w7 : World), Alloc w2 w7 b6 (.cells #[] 5) → ∀ (b8 : Nat) (w9
    : World), Alloc w7 w9 b8 (.cells [.int .i64 0, .int .i64 0, .int .i64 0, .int .i64 0, .int .i64 0].toArray 89) → RoomAt w9 ⟨b8, 0, none⟩ 0 [.int .i64 d_0, .int .i64 d_1, .int .i64 d_2, .int .i64 d_3, .int .i64 d_4] ∧
    ∀ w10, w10 = setCells w9 ⟨b8, 0, none⟩ 0 [.int .i64 d_0, .int .i64 d_1, .int .i64 d_2, .int .i64 d_3, .int .i64 d_4] → ∃ (I11 : Option Addr → Nat → Nat → Int → World → Prop) (m11 : Option Addr → Nat → Nat → Int →
    World → Nat), I11 (some ⟨b6, 0, none⟩) 0 0 0 w10 ∧ ∀ (a12 : Option Addr) (l12 c12 : Nat) (n13 : Int) (w14 : World), I11 a12 l12 c12 n13 w14 → (((decide (n13 < 5)) = true → (0 ≤ n13 ∧ n13 < (5 : Nat)) ∧ ∃ (n15 : Int),
    w14.cell? (Addr.add (⟨b8, 0, none⟩ : Addr) (n13.toNat * 1)) = some (.int .i64 n15) ∧ CallsW Try.prog 48 [.int .u64 (IntKind.u64.wrap n15)] w14 (RetR R fun u17 w16 => ∃ (a18 : Option Addr) (l18 c18 : Nat), u17 = .slice
    a18 l18 c18 ∧ SemW Try.prog (Builtin.append_ #[79, 79] 79 #[.slice a12 l12 c12, .slice a18 l18 c18]) (fun u21 w20 => ∃ (a22 : Option Addr) (l22 c22 : Nat), u21 = .slice a22 l22 c22 ∧ (I11 a22 l22 c22 (IntKind.i64.wrap
    (n13 + 1)) w20 ∧ m11 a22 l22 c22 (IntKind.i64.wrap (n13 + 1)) w20 < m11 a12 l12 c12 n13 w14)) w16)) ∧ ((decide (n13 < 5)) = false → CallsW Try.prog 49 [.int .i64 d_0] w14 (RetR R fun u24 w23 => ∃ (n25 : Int), u24 =
    .int .i64 n25 ∧ (((n25 == 1) = true → CallsW Try.prog 50 [.slice d_6 d_6_n d_6_c] w23 (RetR R fun u28 w27 => ∃ (a29 : Option Addr) (l29 c29 : Nat) (n30 : Int), u28 = .tuple #[.slice a29 l29 c29, .int .i64 n30] ∧ SemW
    Try.prog (Builtin.append_ #[79, 79] 79 #[.slice a12 l12 c12, .slice a29 l29 c29]) (fun u33 w32 => ∃ (a34 : Option Addr) (l34 c34 : Nat), u33 = .slice a34 l34 c34 ∧ R (.returned (.tuple #[.slice a34 l34 c34, .int .i64
    0])) w32) w27)) ∧ ((n25 == 1) = false → (((n25 == 2) = true → ∀ n35 : Int, n35 = IntKind.u64.wrap ((d_7_n : Nat) : Int) → CallsW Try.prog 48 [.int .u64 n35] w23 (RetR R fun u37 w36 => ∃ (a38 : Option Addr) (l38 c38 :
    Nat), u37 = .slice a38 l38 c38 ∧ SemW Try.prog (Builtin.append_ #[79, 79] 79 #[.slice a12 l12 c12, .slice a38 l38 c38]) (fun u41 w40 => ∃ (a42 : Option Addr) (l42 c42 : Nat), u41 = .slice a42 l42 c42 ∧ ∃ (I43 : Option
    Addr → Nat → Nat → Int → World → Prop) (m43 : Option Addr → Nat → Nat → Int → World → Nat), I43 a42 l42 c42 0 w40 ∧ ∀ (a44 : Option Addr) (l44 c44 : Nat) (n45 : Int) (w46 : World), I43 a44 l44 c44 n45 w46 → (((decide
    (n45 < ((d_7_n : Nat) : Int))) = true → withSome d_7 (fun d47 => (0 ≤ n45 ∧ n45 < (d_7_n : Nat)) ∧ ∃ (n48 : Int), w46.cell? (Addr.add d47 (n45.toNat * 1)) = some (.int .u64 n48) ∧ CallsW Try.prog 48 [.int .u64 n48]
    w46 (RetR R fun u50 w49 => ∃ (a51 : Option Addr) (l51 c51 : Nat), u50 = .slice a51 l51 c51 ∧ SemW Try.prog (Builtin.append_ #[79, 79] 79 #[.slice a44 l44 c44, .slice a51 l51 c51]) (fun u54 w53 => ∃ (a55 : Option Addr)
    (l55 c55 : Nat), u54 = .slice a55 l55 c55 ∧ (I43 a55 l55 c55 (IntKind.i64.wrap (n45 + 1)) w53 ∧ m43 a55 l55 c55 (IntKind.i64.wrap (n45 + 1)) w53 < m43 a44 l44 c44 n45 w46)) w49))) ∧ ((decide (n45 < ((d_7_n : Nat) :
    Int))) = false → R (.returned (.tuple #[.slice a44 l44 c44, .int .i64 0])) w46))) w36)) ∧ ((n25 == 2) = false → (((n25 == 3) = true → ∀ n56 : Int, n56 = IntKind.u64.wrap ((d_8_n : Nat) : Int) → CallsW Try.prog 48
    [.int .u64 n56] w23 (RetR R fun u58 w57 => ∃ (a59 : Option Addr) (l59 c59 : Nat), u58 = .slice a59 l59 c59 ∧ SemW Try.prog (Builtin.append_ #[79, 79] 79 #[.slice a12 l12 c12, .slice a59 l59 c59]) (fun u62 w61 => ∃
    (a63 : Option Addr) (l63 c63 : Nat), u62 = .slice a63 l63 c63 ∧ ∃ (I64 : Option Addr → Nat → Nat → Int → World → Prop) (m64 : Option Addr → Nat → Nat → Int → World → Nat), I64 a63 l63 c63 0 w61 ∧ ∀ (a65 : Option Addr)
    (l65 c65 : Nat) (n66 : Int) (w67 : World), I64 a65 l65 c65 n66 w67 → (((decide (n66 < ((d_8_n : Nat) : Int))) = true → withSome d_8 (fun d68 => (0 ≤ n66 ∧ n66 < (d_8_n : Nat)) ∧ ∃ (n69 : Int), w67.cell? (Addr.add d68
    (n66.toNat * 3)) = some (.int .u64 n69) ∧ CallsW Try.prog 48 [.int .u64 n69] w67 (RetR R fun u71 w70 => ∃ (a72 : Option Addr) (l72 c72 : Nat), u71 = .slice a72 l72 c72 ∧ SemW Try.prog (Builtin.append_ #[79, 79] 79
    #[.slice a65 l65 c65, .slice a72 l72 c72]) (fun u75 w74 => ∃ (a76 : Option Addr) (l76 c76 : Nat), u75 = .slice a76 l76 c76 ∧ withSome d_8 (fun d77 => (0 ≤ n66 ∧ n66 < (d_8_n : Nat)) ∧ ∃ (n78 : Int), w74.cell?
    (Addr.add (Addr.add (Addr.add d77 (n66.toNat * 3)) 1) 1) = some (.int .u64 n78) ∧ CallsW Try.prog 51 [.int .u64 n78] w74 (RetR R fun u80 w79 => ∃ (a81 : Option Addr) (l81 c81 : Nat), u80 = .slice a81 l81 c81 ∧ SemW
    Try.prog (Builtin.append_ #[79, 79] 79 #[.slice a76 l76 c76, .slice a81 l81 c81]) (fun u84 w83 => ∃ (a85 : Option Addr) (l85 c85 : Nat), u84 = .slice a85 l85 c85 ∧ (I64 a85 l85 c85 (IntKind.i64.wrap (n66 + 1)) w83 ∧
    m64 a85 l85 c85 (IntKind.i64.wrap (n66 + 1)) w83 < m64 a65 l65 c65 n66 w67)) w79))) w70))) ∧ ((decide (n66 < ((d_8_n : Nat) : Int))) = false → R (.returned (.tuple #[.slice a65 l65 c65, .int .i64 0])) w67))) w57)) ∧
    ((n25 == 3) = false → (((n25 == 4) = true → CallsW Try.prog 48 [.int .u64 (IntKind.u64.wrap d_5)] w23 (RetR R fun u87 w86 => ∃ (a88 : Option Addr) (l88 c88 : Nat), u87 = .slice a88 l88 c88 ∧ SemW Try.prog
    (Builtin.append_ #[79, 79] 79 #[.slice a12 l12 c12, .slice a88 l88 c88]) (fun u91 w90 => ∃ (a92 : Option Addr) (l92 c92 : Nat), u91 = .slice a92 l92 c92 ∧ R (.returned (.tuple #[.slice a92 l92 c92, .int .i64 0])) w90)
    w86)) ∧ ((n25 == 4) = false → R (.returned (.tuple #[.slice a12 l12 c12, .int .i64 0])) w23))))))))))))))
theorem sx38.ok {d_0 : Int} {d_1 : Int} {d_2 : Int} {d_3 : Int} {d_4 : Int} {d_5 : Int} {d_6 : Option Addr} {d_6_n d_6_c : Nat} {d_7 : Option Addr} {d_7_n d_7_c : Nat} {d_8 : Option Addr} {d_8_n d_8_c : Nat} {R : Ending → World → Prop} {w : World} (h : sx38 d_0 d_1 d_2 d_3 d_4 d_5 d_6 d_6_n d_6_c d_7 d_7_n d_7_c d_8 d_8_n d_8_c R w) : CallsW Try.prog 38 [.agg #[.int .i64 d_0, .int .i64 d_1, .int .i64 d_2, .int .i64 d_3, .int .i64 d_4, .int .i64 d_5, .slice d_6 d_6_n d_6_c, .slice d_7 d_7_n d_7_c, .slice d_8 d_8_n d_8_c]] w R :=
  callsW_of mix Try.func38 (by kernel_rfl) (by kernel_rfl) (Eq.mpr (by kernel_rfl : denFn Try.prog { locals := [1], sem := [36, 50, 59, 74, 83, 99, 109, 117], named := [57, 81], loops := [(6, { slots := [(4, .slice), (6, .int .i64)], cells := [] }), (16, { slots := [(4, .slice), (9, .int .i64)], cells := [] }), (22, { slots := [(4, .slice), (10, .int .i64)], cells := [] })] } Try.f38 [.agg #[.int .i64 d_0, .int .i64 d_1, .int .i64 d_2, .int .i64 d_3, .int .i64 d_4, .int .i64 d_5, .slice d_6 d_6_n d_6_c, .slice d_7 d_7_n d_7_c, .slice d_8 d_8_n d_8_c]] R w = sx38 d_0 d_1 d_2 d_3 d_4 d_5 d_6 d_6_n d_6_c d_7 d_7_n d_7_c d_8 d_8_n d_8_c R w) h)


theorem head_fits {m : MsgV} (h : soundMsg m = true) : ∀ x ∈ headMsg m, 0 ≤ x ∧ x ≤ 1099511627776 := by
  have hs := (soundMsg_iff m).1 h
  have := kind_small hs.1
  intro x hx
  simp [headMsg] at hx
  rcases hx with rfl | rfl | rfl | rfl | rfl <;> omega

set_option maxHeartbeats 1000000 in
theorem rEnc_ok {x : Msg} {w : World} (hx : x.At w) (hf : x.c.Fits) (h1 : x.c.ends.length ≤ 9223372036854775806) (h2 : x.c.keys.length ≤ 9223372036854775806) (h3 : x.c.pairs.length ≤ 9223372036854775806) :
    CallsW Try.prog 38 [x.val] w (Rets (BytesErr w (encMsg x.c))) := by
  refine sx38.ok ?_
  unfold sx38
  have he : x.e.2.1 = x.c.ends.length := hx.e.2.1
  have hk : x.k.2.1 = x.c.keys.length := hx.k.2.1
  have hp : x.p.2.1 = x.c.pairs.length := hx.p.2.1
  intro w1 hg1
  refine (rMSound_ok (hx.grew hg1) h1 h2 h3).use fun v w2 ⟨hv, hg2⟩ => ?_
  subst hv
  have hg2 := hg1.trans hg2
  refine ⟨_, rfl, fun h => ?_, fun h b6 w7 hal7 b8 w9 hal9 => ?_⟩
  · have h' : soundMsg x.c = false := by simpa using h
    exact ⟨_, rfl, by rw [encMsg, if_neg (by rw [h']; simp)]; exact .no hg2 _⟩
  have hs : soundMsg x.c = true := by simpa using h
  have hsm := soundMsg_small hs
  have hsi := (soundMsg_iff x.c).1 hs
  have hkd := kind_small hsi.1
  have henc : encMsg x.c = ((headMsg x.c).flatMap putB ++ bodyMsg x.c, 0) := by rw [encMsg, if_pos hs]
  rw [henc]
  have hr9 : Row w9 b8 89 [.int .i64 0, .int .i64 0, .int .i64 0, .int .i64 0, .int .i64 0] := hal9.at_
  obtain ⟨hroom, hr10, hu10⟩ := hr9.setAll (vs := [.int .i64 x.c.kind, .int .i64 x.c.frm, .int .i64 x.c.to, .int .i64 x.c.batch, .int .i64 x.c.att]) rfl
  refine ⟨hroom, ?_⟩
  rintro w10 rfl
  generalize setCells w9 ⟨b8, 0, none⟩ 0 [.int .i64 x.c.kind, .int .i64 x.c.frm, .int .i64 x.c.to, .int .i64 x.c.batch, .int .i64 x.c.att] = w10 at hr10 hu10 ⊢
  have hg10 : Grew w2 w10 := (hal7.grew.trans hal9.grew).then_own hu10 fun b hb => by rw [hb]; exact Nat.le_trans hal7.grew.size hal9.new
  have hg10' := hg2.trans hg10
  have ho7 := Own.alloc (E := Enc.int .u8) (l := []) hal7 (Nat.le_refl _) rfl (by decide)
  have ho10 : Own w10 w2.heap.size 5 (Enc.int .u8) (some ⟨b6, 0, none⟩) 0 0 [] := (ho7.grew hal9.grew).upd hu10 fun b hb h => by
    have := (ho7.blk hb).2; have := hal9.new; omega
  have hhf := head_fits hs
  have hhu : ∀ y ∈ headMsg x.c, y < u64m := fun y hy => by have := hhf y hy; simp only [u64m]; omega
  have hcell : ∀ (w' : World), Row w' b8 89 [.int .i64 x.c.kind, .int .i64 x.c.frm, .int .i64 x.c.to, .int .i64 x.c.batch, .int .i64 x.c.att] → ∀ k : Nat, k < 5 → ∃ y, (headMsg x.c)[k]? = some y ∧ w'.cell? (Addr.add (⟨b8, 0, none⟩ : Addr) (((k : Nat) : Int).toNat * 1)) = some (.int .i64 y) := by
    intro w' hr k hk
    rcases (by omega : k = 0 ∨ k = 1 ∨ k = 2 ∨ k = 3 ∨ k = 4) with rfl | rfl | rfl | rfl | rfl <;> refine ⟨_, rfl, ?_⟩ <;> (simp only [Int.toNat_natCast, Nat.mul_one, add_mk]; rw [hr.cell]; rfl)
  have hnb : ¬ Blk (some ⟨b6, 0, none⟩ : Option Addr) b8 := fun hb => by have := (ho7.blk hb).2; have := hal9.new; omega
  refine ⟨fun a' n' c' i w' => ∃ k : Nat, i = k ∧ k ≤ 5 ∧ Own w' w2.heap.size 5 (Enc.int .u8) a' n' c' (((headMsg x.c).take k).flatMap putB) ∧ Row w' b8 89 [.int .i64 x.c.kind, .int .i64 x.c.frm, .int .i64 x.c.to, .int .i64 x.c.batch, .int .i64 x.c.att] ∧ ¬ Blk a' b8 ∧ Grew w2 w', fun _ _ _ i _ => 5 - i.toNat, ⟨0, rfl, Nat.zero_le _, ho10, hr10, hnb, hg10⟩, ?_⟩
  rintro a12 l12 c12 i w14 ⟨k, rfl, hk5, ho14, hr14, hn14, hg14⟩
  have hg14' := hg2.trans hg14
  refine ⟨fun h => ?_, fun h => ?_⟩
  · simp only [decide_eq_true_eq] at h
    obtain ⟨y, hy, hcy⟩ := hcell w14 hr14 k (by omega)
    have hyb := hhf y (List.mem_of_getElem? hy)
    have hw1 : IntKind.i64.wrap ((k : Int) + 1) = ((k + 1 : Nat) : Int) := by rw [IntKind.wrap_i64]; omega
    have hwy : IntKind.u64.wrap y = y := by rw [IntKind.wrap_u64]; omega
    rw [hw1]
    refine ⟨⟨by omega, by omega⟩, y, hcy, ?_⟩
    rw [hwy]
    refine (rPut_ok hyb.1 (by simp only [u64m]; omega)).use fun v w16 ⟨a18, l18, c18, hv, ho16, hg16⟩ => ?_
    subst hv
    have hb := putB_lens (l := (headMsg x.c).take k) fun z hz => hhu z (List.mem_of_mem_take hz)
    rw [List.length_take] at hb
    have hb' := putB_len10 (x := y) (by simp only [u64m]; omega)
    have hr16 := ho16.reads
    refine ⟨_, _, _, rfl, append_sl e8 (ho14.grew hg16) hr16.1 hr16.2.1 hr16.2.2.1 (Nat.le_trans hg14.size hg16.size) (by simp only [maxLen]; omega) (by omega) ?_⟩
    rintro v w20 ⟨a22, l22, c22, rfl, ho20, hu20, hb20⟩
    have hlt8 := hr14.lt
    have hs16 := hg16.size
    refine ⟨_, _, _, rfl, ⟨k + 1, rfl, by omega, ?_, (hr14.grew hg16).upd hu20 hn14, fun hb => ?_, (hg14.trans hg16).then_own hu20 fun b hb => (ho14.blk hb).1⟩, by show 5 - (((k + 1 : Nat) : Int)).toNat < 5 - ((k : Int)).toNat; omega⟩
    · rw [take_flat hy]; exact ho20
    · rcases hb20 b8 hb with h' | h'
      · exact hn14 h'
      · omega
  simp only [decide_eq_false_iff_not] at h
  rw [List.take_of_length_le (by simp [headMsg]; omega)] at ho14
  have hhl := putB_lens (l := headMsg x.c) hhu
  have hh5 : (headMsg x.c).length = 5 := rfl
  rw [hh5] at hhl
  obtain ⟨H, hH⟩ : ∃ H, H = (headMsg x.c).flatMap putB := ⟨_, rfl⟩
  rw [← hH] at ho14 hhl ⊢
  have fin : ∀ (a : Option Addr) (n c : Nat) (B : List Int) (w' : World), Own w' w2.heap.size 5 (Enc.int .u8) a n c (H ++ B) → Grew w2 w' → B = bodyMsg x.c → Rets (BytesErr w (H ++ bodyMsg x.c, 0)) (.returned (.tuple #[.slice a n c, .int .i64 0])) w' :=
    fun a n c B w' ho hg hB => ⟨_, rfl, a, n, c, rfl, by rw [← hB]; exact ho.base hg2.size, hg2.trans hg⟩
  refine Field_ok.use fun v w23 ⟨hv, hw⟩ => ?_
  subst hv; subst hw
  obtain ⟨f, hff⟩ : ∃ f, f = fieldM x.c.kind := ⟨_, rfl⟩
  rw [← hff] at hsi ⊢
  have hx23 := hx.grew hg14'
  refine ⟨f, rfl, fun q1 => ?_, fun q1 => ⟨fun q2 => ?_, fun q2 => ⟨fun q3 => ?_, fun q3 => ⟨fun q4 => ?_, fun q4 => ?_⟩⟩⟩⟩
  all_goals simp only [beq_iff_eq, beq_eq_false_iff_ne, ne_eq] at q1
  · have hend : ∀ y ∈ x.c.ends, 0 ≤ y ∧ y < u64m := fun y hy => by
      have := List.all_eq_true.1 hsi.2.2.2.2.2.2.2.2.2.2.1 y hy
      simp only [decide_eq_true_eq] at this; simp only [u64m]; omega
    refine (Nums_ok hx23.e (by omega) hend).use fun v w27 ⟨a29, l29, c29, hv, ho27, hg27⟩ => ?_
    subst hv
    have hb := putB_lens (l := x.c.ends) fun z hz => (hend z hz).2
    have hb0 := putB_len10 (x := (x.c.ends.length : Int)) (by simp only [u64m]; omega)
    simp only at ho27
    refine ⟨_, _, _, _, rfl, push_ok ho14 hg14 ho27 hg27 (by rw [List.length_append]; omega) ?_⟩
    intro a34 l34 c34 w32 ho32 hg32
    exact ⟨_, _, _, rfl, fin _ _ _ _ _ ho32 hg32 (by rw [bodyMsg, if_pos (by rw [← hff]; exact q1)])⟩
  all_goals simp only [beq_iff_eq, beq_eq_false_iff_ne, ne_eq] at q2
  · have hw0 : IntKind.u64.wrap ((x.k.2.1 : Nat) : Int) = (x.c.keys.length : Int) := by rw [IntKind.wrap_u64]; omega
    rintro n35 rfl
    rw [hw0]
    have hb0 := putB_len10 (x := (x.c.keys.length : Int)) (by simp only [u64m]; omega)
    refine (rPut_ok (by omega) (by simp only [u64m]; omega)).use fun v w36 ⟨a38, l38, c38, hv, ho36, hg36⟩ => ?_
    subst hv
    refine ⟨_, _, _, rfl, push_ok ho14 hg14 ho36 hg36 (by omega) ?_⟩
    intro a42 l42 c42 w40 ho40 hg40
    obtain ⟨l, hl⟩ : ∃ l, l = x.c.keys := ⟨_, rfl⟩
    have hrk : Reads w (Enc.int .u64) (x.k.1, x.k.2.1, x.k.2.2) l := by rw [hl]; exact hx.k
    have hkf : ∀ y ∈ l, 0 ≤ y ∧ y < u64m := by rw [hl]; exact hf.k
    rw [← hl] at hb0 hk ho40
    have hll : l.length ≤ 64 := by rw [hl]; exact hsm.2.1
    refine ⟨_, _, _, rfl, fun a' n' c' i w' => ∃ k : Nat, i = k ∧ k ≤ l.length ∧ Own w' w2.heap.size 5 (Enc.int .u8) a' n' c' (H ++ (putB (l.length : Int) ++ (l.take k).flatMap putB)) ∧ Grew w2 w', fun _ _ _ i _ => l.length - i.toNat, ⟨0, rfl, Nat.zero_le _, by simpa using ho40, hg40⟩, ?_⟩
    rintro a44 l44 c44 i w46 ⟨k, rfl, hkl, ho46, hg46⟩
    refine ⟨fun h => ?_, fun h => ?_⟩
    · simp only [decide_eq_true_eq] at h
      obtain ⟨d, y, hd, hy, hcy⟩ := (hrk.grew (hg2.trans hg46)).at0 (k := k) (by omega)
      have hyb := hkf y (List.mem_of_getElem? hy)
      have hcy' : w46.cell? (Addr.add d (((k : Nat) : Int).toNat * 1)) = some (.int .u64 y) := by simpa [Enc.int, CellsAt, Addr.add_zero'] using hcy
      have hw1 : IntKind.i64.wrap ((k : Int) + 1) = ((k + 1 : Nat) : Int) := by rw [IntKind.wrap_i64]; omega
      rw [hw1, hd]
      refine ⟨⟨by omega, by omega⟩, y, hcy', (rPut_ok hyb.1 hyb.2).use fun v w49 ⟨a51, l51, c51, hv, ho49, hg49⟩ => ?_⟩
      subst hv
      have hb := putB_lens (l := l.take k) fun z hz => (hkf z (List.mem_of_mem_take hz)).2
      rw [List.length_take] at hb
      have hb' := putB_len10 hyb.2
      refine ⟨_, _, _, rfl, push_ok ho46 hg46 ho49 hg49 (by simp only [List.length_append]; omega) ?_⟩
      intro a55 l55 c55 w53 ho53 hg53
      refine ⟨_, _, _, rfl, ⟨k + 1, rfl, by omega, ?_, hg53⟩, by show l.length - (((k + 1 : Nat) : Int)).toNat < l.length - ((k : Int)).toNat; omega⟩
      rw [take_flat hy]; simpa [List.append_assoc] using ho53
    · simp only [decide_eq_false_iff_not] at h
      rw [List.take_of_length_le (by omega)] at ho46
      exact fin _ _ _ _ _ ho46 hg46 (by rw [bodyMsg, if_neg (by rw [← hff]; exact q1), if_pos (by rw [← hff]; exact q2), hl])
  all_goals simp only [beq_iff_eq, beq_eq_false_iff_ne, ne_eq] at q3
  · have hw0 : IntKind.u64.wrap ((x.p.2.1 : Nat) : Int) = (x.c.pairs.length : Int) := by rw [IntKind.wrap_u64]; omega
    rintro n56 rfl
    rw [hw0]
    have hb0 := putB_len10 (x := (x.c.pairs.length : Int)) (by simp only [u64m]; omega)
    refine (rPut_ok (by omega) (by simp only [u64m]; omega)).use fun v w36 ⟨a38, l38, c38, hv, ho36, hg36⟩ => ?_
    subst hv
    refine ⟨_, _, _, rfl, push_ok ho14 hg14 ho36 hg36 (by omega) ?_⟩
    intro a42 l42 c42 w40 ho40 hg40
    obtain ⟨l, hl⟩ : ∃ l, l = x.c.pairs := ⟨_, rfl⟩
    have hrk : Reads w Enc.pair (x.p.1, x.p.2.1, x.p.2.2) l := by rw [hl]; exact hx.p
    have hkf : ∀ y ∈ l, y.Fits := by rw [hl]; exact hf.p
    rw [← hl] at hb0 hp ho40
    have hll : l.length ≤ 64 := by rw [hl]; exact hsm.2.2
    obtain ⟨g, hg⟩ : ∃ g, g = fun p : PairV => putB p.key ++ wordB p.bits := ⟨_, rfl⟩
    have hglen : ∀ y : PairV, y.Fits → (g y).length ≤ 18 := fun y hy => by
      rw [hg]; have := putB_len10 hy.1.2; simp [wordB]; omega
    have hgl : ∀ (m : List PairV), (∀ y ∈ m, y.Fits) → (m.flatMap g).length ≤ 18 * m.length := by
      intro m
      induction m with
      | nil => intro _; simp
      | cons y m ih =>
        intro hm
        have h1 := hglen y (hm y (by simp))
        have h2 := ih fun z hz => hm z (by simp [hz])
        rw [List.flatMap_cons, List.length_append, List.length_cons]; omega
    refine ⟨_, _, _, rfl, fun a' n' c' i w' => ∃ k : Nat, i = k ∧ k ≤ l.length ∧ Own w' w2.heap.size 5 (Enc.int .u8) a' n' c' (H ++ (putB (l.length : Int) ++ (l.take k).flatMap g)) ∧ Grew w2 w', fun _ _ _ i _ => l.length - i.toNat, ⟨0, rfl, Nat.zero_le _, by simpa using ho40, hg40⟩, ?_⟩
    rintro a44 l44 c44 i w46 ⟨k, rfl, hkl, ho46, hg46⟩
    refine ⟨fun h => ?_, fun h => ?_⟩
    · simp only [decide_eq_true_eq] at h
      obtain ⟨d, y, hd, hy, hcy⟩ := (hrk.grew (hg2.trans hg46)).at0 (k := k) (by omega)
      have hyb := hkf y (List.mem_of_getElem? hy)
      have hcy' : w46.cell? (Addr.add d (((k : Nat) : Int).toNat * 3)) = some (.int .u64 y.key) := by simpa [Enc.pair, CellsAt, Addr.add_zero'] using hcy.1
      have hw1 : IntKind.i64.wrap ((k : Int) + 1) = ((k + 1 : Nat) : Int) := by rw [IntKind.wrap_i64]; omega
      rw [hw1, hd]
      refine ⟨⟨by omega, by omega⟩, y.key, hcy', (rPut_ok hyb.1.1 hyb.1.2).use fun v w49 ⟨a51, l51, c51, hv, ho49, hg49⟩ => ?_⟩
      subst hv
      have hb := hgl (l.take k) fun z hz => hkf z (List.mem_of_mem_take hz)
      rw [List.length_take] at hb
      have hb' := putB_len10 hyb.1.2
      refine ⟨_, _, _, rfl, push_ok ho46 hg46 ho49 hg49 (by simp only [List.length_append]; omega) ?_⟩
      intro a55 l55 c55 w53 ho53 hg53
      obtain ⟨d', y', hd', hy', hcz⟩ := (hrk.grew (hg2.trans hg53)).at0 (k := k) (by omega)
      rw [hd] at hd'; cases hd'
      rw [hy] at hy'; cases hy'
      have hcz' : w53.cell? (Addr.add (Addr.add (Addr.add d (((k : Nat) : Int).toNat * 3)) 1) 1) = some (.int .u64 y.bits) := by
        have := hcz.2.2.1
        simpa [Enc.pair, CellsAt, Addr.add_add] using this
      refine ⟨_, _, _, rfl, ⟨by omega, by omega⟩, y.bits, hcz', (rWord_ok hyb.2.1 hyb.2.2).use fun v w60 ⟨a61, l61, c61, hv, ho60, hg60⟩ => ?_⟩
      subst hv
      refine ⟨_, _, _, rfl, push_ok ho53 hg53 ho60 hg60 (by simp only [List.length_append, wordB, List.length_cons, List.length_nil]; omega) ?_⟩
      intro a65 l65 c65 w64 ho64 hg64
      refine ⟨_, _, _, rfl, ⟨k + 1, rfl, by omega, ?_, hg64⟩, by show l.length - (((k + 1 : Nat) : Int)).toNat < l.length - ((k : Int)).toNat; omega⟩
      rw [take_flat hy, show g y = putB y.key ++ wordB y.bits from by rw [hg]]; simpa [List.append_assoc] using ho64
    · simp only [decide_eq_false_iff_not] at h
      rw [List.take_of_length_le (by omega)] at ho46
      exact fin _ _ _ _ _ ho46 hg46 (by rw [bodyMsg, if_neg (by rw [← hff]; exact q1), if_neg (by rw [← hff]; exact q2), if_pos (by rw [← hff]; exact q3), hl, hg])
  all_goals simp only [beq_iff_eq, beq_eq_false_iff_ne, ne_eq] at q4
  · have hcode := hsi.2.2.2.2.2.2.2.2.2.2.2.2.2.2.2
    have hw0 : IntKind.u64.wrap x.c.code = x.c.code := by rw [IntKind.wrap_u64]; omega
    rw [hw0]
    have hb0 := putB_len10 (x := x.c.code) (by simp only [u64m]; omega)
    refine (rPut_ok (by omega) (by simp only [u64m]; omega)).use fun v w36 ⟨a38, l38, c38, hv, ho36, hg36⟩ => ?_
    subst hv
    refine ⟨_, _, _, rfl, push_ok ho14 hg14 ho36 hg36 (by omega) ?_⟩
    intro a42 l42 c42 w40 ho40 hg40
    exact ⟨_, _, _, rfl, fin _ _ _ _ _ ho40 hg40 (by rw [bodyMsg, if_neg (by rw [← hff]; exact q1), if_neg (by rw [← hff]; exact q2), if_neg (by rw [← hff]; exact q3)])⟩
  · exfalso
    have h0 := hsi.1
    unfold fieldM at hff
    repeat' split at hff
    all_goals omega
end Go.Proofs.Ytlkfkcgnlnbdeaa
