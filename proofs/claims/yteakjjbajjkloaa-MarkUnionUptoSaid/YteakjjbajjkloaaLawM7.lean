/- MarkUnion: what it computes, and its row. Conditions: none. -/
import Derived.Test.YteakjjbajjkloaaProg
import Derived.Test.YteakjjbajjkloaaMarkA
import Derived.Test.YteakjjbajjkloaaRows
import Derived.Test.YteakjjbajjkloaaSxQ
import Derived.Test.YteakjjbajjkloaaSxT
import Derived.Deep.CondSized
namespace Go.Proofs.Yteakjjbajjkloaa
open Go.Sx
set_option maxRecDepth 100000
set_option linter.unusedVariables false
set_option linter.unusedSimpArgs false
/- reprise/repriselaw12.MarkUnion -/
def sx9 (d : Option Addr) (d_n d_c : Nat) (i : Option Addr) (i_n i_c : Nat) (R : Ending → World → Prop) (w : World) : Prop :=
  CallsW Try.prog 11 [] w (RetR R fun u2 w1 => ∃ (b3 : Bool), u2 = .bool b3 ∧ (((!b3) = true → R (.returned (.bool false)) w1) ∧ ((!b3) = false → ∀ n5 : Int, n5 = IntKind.i64.wrap (((d_n : Nat) : Int) + 3) → SemW Try.prog
    (Instr.makeSlice 22 (.int .i64 0) (.int .i64 n5)) (fun u7 w6 => ∃ (a8 : Option Addr) (l8 c8 : Nat), u7 = .slice a8 l8 c8 ∧ SemW Try.prog (Builtin.append_ #[22, 22] 22 #[.slice a8 l8 c8, .slice d d_n d_c]) (fun u10 w9
    => ∃ (a11 : Option Addr) (l11 c11 : Nat), u10 = .slice a11 l11 c11 ∧ ∀ (b12 : Nat) (w13 : World), Alloc w9 w13 b12 (.cells #[.int .u64 71, .int .u64 72, .int .u64 73] 38) → SemW Try.prog (Builtin.append_ #[22, 22] 22
    #[.slice a11 l11 c11, .slice (some ⟨b12, 0, none⟩) 3 3]) (fun u15 w14 => ∃ (a16 : Option Addr) (l16 c16 : Nat), u15 = .slice a16 l16 c16 ∧ (0 ≤ ((d_n : Nat) : Int) ∧ ((d_n : Nat) : Int) ≤ (c16 : Nat)) ∧ CallsW
    Try.prog 24 [.slice a16 (((d_n : Nat) : Int).toNat) c16, .slice i i_n i_c] w14 (RetR R fun u18 w17 => ∃ (a19 : Option Addr) (l19 c19 : Nat), u18 = .slice a19 l19 c19 ∧ (0 ≤ ((d_n : Nat) : Int) ∧ ((d_n : Nat) : Int) ≤
    (c16 : Nat)) ∧ CallsW Try.prog 24 [.slice i i_n i_c, .slice a16 (((d_n : Nat) : Int).toNat) c16] w17 (RetR R fun u22 w21 => ∃ (a23 : Option Addr) (l23 c23 : Nat), u22 = .slice a23 l23 c23 ∧ CallsW Try.prog 23 [.slice
    a19 l19 c19, .slice a23 l23 c23] w21 (RetR R fun u26 w25 => ∃ (b27 : Bool), u26 = .bool b27 ∧ (((!b27) = true → R (.returned (.bool false)) w25) ∧ ((!b27) = false → CallsW Try.prog 26 [.slice a19 l19 c19] w25 (RetR R
    fun u30 w29 => ∃ (b31 : Bool), u30 = .bool b31 ∧ (((!b31) = true → R (.returned (.bool false)) w29) ∧ ((!b31) = false → (0 ≤ ((d_n : Nat) : Int) ∧ ((d_n : Nat) : Int) ≤ (c16 : Nat)) ∧ CallsW Try.prog 23 [.slice a16
    (((d_n : Nat) : Int).toNat) c16, .slice d d_n d_c] w29 (RetR R fun u34 w33 => ∃ (b35 : Bool), u34 = .bool b35 ∧ (((!b35) = true → R (.returned (.bool false)) w33) ∧ ((!b35) = false → (0 ≤ ((d_n : Nat) : Int) ∧ ((d_n :
    Nat) : Int) ≤ (l16 : Nat)) ∧ ∀ (b37 : Nat) (w38 : World), Alloc w33 w38 b37 (.cells #[.int .u64 71, .int .u64 72, .int .u64 73] 38) → CallsW Try.prog 23 [.slice (if c16 = ((d_n : Nat) : Int).toNat then a16 else
    Option.map (fun x => Addr.add x (((d_n : Nat) : Int).toNat * 1)) a16) (l16 - ((d_n : Nat) : Int).toNat) (c16 - ((d_n : Nat) : Int).toNat), .slice (some ⟨b37, 0, none⟩) 3 3] w38 (RetR R fun u40 w39 => ∃ (b41 : Bool),
    u40 = .bool b41 ∧ (((!b41) = true → R (.returned (.bool false)) w39) ∧ ((!b41) = false → ∀ w43, Grew w39 w43 → ∃ (J44 : World → Prop), (∃ (I45 : Int → World → Prop) (m45 : Int → World → Nat), I45 0 w43 ∧ ∀ (n46 : Int)
    (w47 : World), I45 n46 w47 → (((decide (n46 < ((d_n : Nat) : Int))) = true → (((decide (n46 < 512)) = true → ∀ w48, Grew w47 w48 → withSome d (fun d49 => (0 ≤ n46 ∧ n46 < (d_n : Nat)) ∧ ∃ (n50 : Int), w48.cell?
    (Addr.add d49 (n46.toNat * 1)) = some (.int .u64 n50) ∧ CallsW Try.prog 28 [.agg #[.int .i64 0, .int .i64 0, .slice a19 l19 c19], .int .u64 n50] w48 (Ret (fun u52 w51 => ∃ (b53 : Bool), u52 = .bool b53 ∧ (((!b53) =
    true → R (.returned (.bool false)) w51) ∧ ((!b53) = false → (I45 (IntKind.i64.wrap (n46 + 1)) w51 ∧ m45 (IntKind.i64.wrap (n46 + 1)) w51 < m45 n46 w47)))) (fun c54 w51 => False)))) ∧ ((decide (n46 < 512)) = false →
    J44 w47))) ∧ ((decide (n46 < ((d_n : Nat) : Int))) = false → J44 w47))) ∧ ∀  (w55 : World), J44 w55 → ∃ (J56 : World → Prop), (∃ (I57 : Int → World → Prop) (m57 : Int → World → Nat), I57 0 w55 ∧ ∀ (n58 : Int) (w59 :
    World), I57 n58 w59 → (((decide (n58 < ((i_n : Nat) : Int))) = true → (((decide (n58 < 512)) = true → ∀ w60, Grew w59 w60 → withSome i (fun d61 => (0 ≤ n58 ∧ n58 < (i_n : Nat)) ∧ ∃ (n62 : Int), w60.cell? (Addr.add d61
    (n58.toNat * 1)) = some (.int .u64 n62) ∧ CallsW Try.prog 28 [.agg #[.int .i64 0, .int .i64 0, .slice a19 l19 c19], .int .u64 n62] w60 (Ret (fun u64 w63 => ∃ (b65 : Bool), u64 = .bool b65 ∧ (((!b65) = true → R
    (.returned (.bool false)) w63) ∧ ((!b65) = false → (I57 (IntKind.i64.wrap (n58 + 1)) w63 ∧ m57 (IntKind.i64.wrap (n58 + 1)) w63 < m57 n58 w59)))) (fun c66 w63 => False)))) ∧ ((decide (n58 < 512)) = false → J56 w59)))
    ∧ ((decide (n58 < ((i_n : Nat) : Int))) = false → J56 w59))) ∧ ∀  (w67 : World), J56 w67 → ∃ (J68 : World → Prop), (∃ (I69 : Int → World → Prop) (m69 : Int → World → Nat), I69 0 w67 ∧ ∀ (n70 : Int) (w71 : World), I69
    n70 w71 → (((decide (n70 < ((l19 : Nat) : Int))) = true → (((decide (n70 < 512)) = true → withSome a19 (fun d72 => (0 ≤ n70 ∧ n70 < (l19 : Nat)) ∧ ∃ (n73 : Int), w71.cell? (Addr.add d72 (n70.toNat * 1)) = some (.int
    .u64 n73) ∧ CallsW Try.prog 28 [.agg #[.int .i64 0, .int .i64 0, .slice d d_n d_c], .int .u64 n73] w71 (RetR R fun u75 w74 => ∃ (b76 : Bool), u75 = .bool b76 ∧ (((!b76) = true → withSome a19 (fun d78 => (0 ≤ n70 ∧ n70
    < (l19 : Nat)) ∧ ∃ (n79 : Int), w74.cell? (Addr.add d78 (n70.toNat * 1)) = some (.int .u64 n79) ∧ CallsW Try.prog 28 [.agg #[.int .i64 0, .int .i64 0, .slice i i_n i_c], .int .u64 n79] w74 (RetR R fun u81 w80 => ∃
    (b82 : Bool), u81 = .bool b82 ∧ (((!b82) = true → R (.returned (.bool false)) w80) ∧ ((!b82) = false → (I69 (IntKind.i64.wrap (n70 + 1)) w80 ∧ m69 (IntKind.i64.wrap (n70 + 1)) w80 < m69 n70 w71)))))) ∧ ((!b76) = false
    → (I69 (IntKind.i64.wrap (n70 + 1)) w74 ∧ m69 (IntKind.i64.wrap (n70 + 1)) w74 < m69 n70 w71)))))) ∧ ((decide (n70 < 512)) = false → J68 w71))) ∧ ((decide (n70 < ((l19 : Nat) : Int))) = false → J68 w71))) ∧ ∀  (w84 :
    World), J68 w84 → ∀ (b85 : Nat) (w86 : World), Alloc w84 w86 b85 (.cells #[] 38) → SemW Try.prog (Builtin.append_ #[22, 22] 22 #[.slice (some ⟨b85, 0, none⟩) 0 0, .slice a23 l23 c23]) (fun u88 w87 => ∃ (a89 : Option
    Addr) (l89 c89 : Nat), u88 = .slice a89 l89 c89 ∧ ∃ (I90 : Int → World → Prop) (m90 : Int → World → Nat), I90 0 w87 ∧ ∀ (n91 : Int) (w92 : World), I90 n91 w92 → (((decide (n91 < ((l19 : Nat) : Int))) = true → withSome
    a19 (fun d93 => (0 ≤ n91 ∧ n91 < (l19 : Nat)) ∧ RoomAt w92 (Addr.add d93 (n91.toNat * 1)) 0 [.int .u64 9] ∧ ∀ w94, w94 = setCells w92 (Addr.add d93 (n91.toNat * 1)) 0 [.int .u64 9] → (I90 (IntKind.i64.wrap (n91 + 1))
    w94 ∧ m90 (IntKind.i64.wrap (n91 + 1)) w94 < m90 n91 w92))) ∧ ((decide (n91 < ((l19 : Nat) : Int))) = false → ∃ (I95 : Option Addr → Nat → Nat → Int → World → Prop) (m95 : Option Addr → Nat → Nat → Int → World → Nat),
    I95 a19 l19 c19 0 w92 ∧ ∀ (a96 : Option Addr) (l96 c96 : Nat) (n97 : Int) (w98 : World), I95 a96 l96 c96 n97 w98 → (((decide (n97 < 9)) = true → ∀ (b99 : Nat) (w100 : World), Alloc w98 w100 b99 (.cells #[.int .u64 8]
    38) → SemW Try.prog (Builtin.append_ #[22, 22] 22 #[.slice a96 l96 c96, .slice (some ⟨b99, 0, none⟩) 1 1]) (fun u102 w101 => ∃ (a103 : Option Addr) (l103 c103 : Nat), u102 = .slice a103 l103 c103 ∧ (I95 a103 l103 c103
    (IntKind.i64.wrap (n97 + 1)) w101 ∧ m95 a103 l103 c103 (IntKind.i64.wrap (n97 + 1)) w101 < m95 a96 l96 c96 n97 w98)) w100) ∧ ((decide (n97 < 9)) = false → CallsW Try.prog 23 [.slice a23 l23 c23, .slice a89 l89 c89]
    w98 (RetR R fun u105 w104 => ∃ (b106 : Bool), u105 = .bool b106 ∧ ((b106 = true → (0 ≤ ((d_n : Nat) : Int) ∧ ((d_n : Nat) : Int) ≤ (c16 : Nat)) ∧ CallsW Try.prog 23 [.slice a16 (((d_n : Nat) : Int).toNat) c16, .slice
    d d_n d_c] w104 (RetR R fun u109 w108 => ∃ (b110 : Bool), u109 = .bool b110 ∧ ((b110 = true → ∀ n112 : Int, n112 = IntKind.i64.wrap (((l23 : Nat) : Int) + 9) → R (.returned (.bool (((l96 : Nat) : Int) == n112))) w108)
    ∧ (b110 = false → R (.returned (.bool false)) w108)))) ∧ (b106 = false → R (.returned (.bool false)) w104)))))))) w86))))))))))))))) w13) w6) w1)))
theorem sx9.ok {d : Option Addr} {d_n d_c : Nat} {i : Option Addr} {i_n i_c : Nat} {R : Ending → World → Prop} {w : World} (h : sx9 d d_n d_c i i_n i_c R w) : CallsW Try.prog 9 [.slice d d_n d_c, .slice i i_n i_c] w R :=
  callsW_of mix Try.func9 (by kernel_rfl) (by kernel_rfl) (Eq.mpr (by kernel_rfl : denFn Try.prog { locals := [9], sem := [22, 25, 28, 130, 146], named := [21, 162], draws := [(15, { order := (.cons 0 (.cons 1 (.cons 2 (.cons 3 (.cons 4 (.cons 5 (.cons 6 .nil))))))), bars := [5] }), (20, { order := (.cons 0 (.cons 1 (.cons 2 (.cons 3 (.cons 4 (.cons 5 (.cons 6 .nil))))))), bars := [5] })], loops := [(13, { slots := [(10, .int .i64)], cells := [] }), (18, { slots := [(11, .int .i64)], cells := [] }), (23, { slots := [(12, .int .i64)], cells := [] }), (29, { slots := [(14, .int .i64)], cells := [] }), (33, { slots := [(7, .slice), (15, .int .i64)], cells := [] })], cuts := [(17, { slots := [], cells := [] }), (22, { slots := [], cells := [] }), (27, { slots := [], cells := [] })] } Try.f9 [.slice d d_n d_c, .slice i i_n i_c] R w = sx9 d d_n d_c i i_n i_c R w) h)


theorem rests (l r : List Int) : (l ++ r).take l.length = l ∧ (l ++ r).drop l.length = r := ⟨List.take_left, List.drop_left⟩
theorem at_k {w : World} {a : Option Addr} {n c : Nat} {l : List Int} {k : Nat} (h : Reads w (Enc.int .u64) (a, n, c) l) (hk : k < n) : ∃ d x, a = some d ∧ l[k]? = some x ∧ w.cell? (Addr.add d (((k : Nat) : Int).toNat * 1)) = some (.int .u64 x) := by
  obtain ⟨d, x, rfl, hx, hc⟩ := h.at0 hk
  exact ⟨d, x, rfl, hx, by simpa [Enc.int, CellsAt, Addr.add_zero'] using hc⟩

set_option maxHeartbeats 2000000 in
theorem MarkUnion_ok {a b : Option Addr} {n c m d : Nat} {l r : List Int} {w : World} (hl : Reads w (Enc.int .u64) (a, n, c) l) (hkl : ∀ x ∈ l, 0 ≤ x ∧ x < u64m) (hnl : l.length ≤ 1048576)
    (hr : Reads w (Enc.int .u64) (b, m, d) r) (hkr : ∀ x ∈ r, 0 ≤ x ∧ x < u64m) (hnr : r.length ≤ 1048576) :
    CallsW Try.prog 9 [.slice a n c, .slice b m d] w (Rets fun v w' => v = .bool true ∧ Grew w w') := by
  refine sx9.ok ?_
  unfold sx9
  refine awakeM_ok.use fun v w2 ⟨hv, hg2⟩ => ?_
  subst hv
  have hn : n = l.length := hl.2.1
  subst hn
  have hm : m = r.length := hr.2.1
  subst hm
  refine ⟨_, rfl, fun h => (by cases h), fun _ => ?_⟩
  rintro n6 rfl
  have hw4 : IntKind.i64.wrap ((l.length : Int) + 3) = ((l.length + 3 : Nat) : Int) := by rw [IntKind.wrap_i64]; omega
  rw [hw4]
  refine make_room (e := 38) (bytes := 8) (E := Enc.int .u64) (by kernel_rfl) (z := .int .u64 0) (by kernel_rfl) (by omega) (by simp only [maxLen]; omega) ?_
  intro b9 w7 ho7 hg7
  refine ⟨_, _, _, rfl, ?_⟩
  have hr7 := (hl.grew hg2).grew hg7
  have ec : ElemOk Try.prog 22 38 (Enc.int .u64).sz 8 := en_U
  refine append_sl ec ho7 hr7.1 hr7.2.1 hr7.2.2.1 hg7.size (by simp only [maxLen, List.length_nil]; omega) (by simp; omega) ?_
  rintro v w10 ⟨a12, l12, c12, rfl, ho10, hu10, hb10⟩
  have hg10 : Grew w2 w10 := hg7.then_own hu10 fun b hb => (ho7.blk hb).1
  rw [List.nil_append] at ho10
  refine ⟨_, _, _, rfl, fun b13 w14 hal => ?_⟩
  refine append_new (l2 := [71, 72, 73]) ec ho10 hal rfl rfl hg10.size (by simp only [maxLen, List.length_cons, List.length_nil]; omega) (by simp; omega) ?_
  rintro v w15 ⟨a17, l17, c17, rfl, ho15, hu15, hb15⟩
  have hg15 : Grew w2 w15 := hg10.then_own hu15 fun b hb => (ho10.blk hb).1
  have hlen17 := ho15.len
  have hle17 := ho15.le
  simp only [List.length_append, List.length_cons, List.length_nil] at hlen17
  have hg15' := hg2.trans hg15
  have hsplit := rests l [71, 72, 73]
  have hmine : Own w15 w2.heap.size 38 (Enc.int .u64) a17 l.length c17 l := by
    have := ho15.take (k := l.length) (by omega)
    rwa [hsplit.1] at this
  simp only [Int.toNat_natCast]
  refine ⟨_, _, _, rfl, ⟨by omega, by omega⟩, ?_⟩
  have hrb := hr.grew hg15'
  refine (Union_ok hmine.reads hrb (by omega)).use fun v w18 ⟨a20, l20, c20, hv, ho18, hg18⟩ => ?_
  subst hv
  refine ⟨_, _, _, rfl, ⟨by omega, by omega⟩, (Union_ok (hrb.grew hg18) (hmine.grew hg18).reads (by omega)).use fun v w22 ⟨a24, l24, c24, hv, ho22, hg22⟩ => ?_⟩
  subst hv
  rw [show unionL (r ++ l) = unionL (l ++ r) from unionL_perm fun z => by simp only [List.mem_append]; exact Or.comm] at ho22
  obtain ⟨U, hU⟩ : ∃ U, U = unionL (l ++ r) := ⟨_, rfl⟩
  have hUr : risingK U = true := by rw [hU]; exact (risingK_pairwise _).2 (unionL_rising _)
  have hUm : ∀ z, z ∈ U ↔ z ∈ l ∨ z ∈ r := fun z => by rw [hU, unionL_mem, List.mem_append]
  have hUl : U.length ≤ 2097152 := by
    have := dedupL_len (sortL (l ++ r))
    rw [sortL_len, List.length_append] at this
    rw [hU]; unfold unionL; omega
  rw [← hU] at ho18 ho22
  have ho18' := ho18.grew hg22
  refine ⟨_, _, _, rfl, (keys_ok ho18'.reads ho22.reads (by omega)).use fun v w26 ⟨hv, hg26⟩ => ?_⟩
  subst hv
  refine ⟨_, rfl, fun h => (by simp at h), fun _ => (KRising_ok (ho18'.grew hg26).reads (by omega)).use fun v w30 ⟨hv, hw⟩ => ?_⟩
  subst hv; subst hw
  rw [hUr]
  refine ⟨_, rfl, fun h => (by cases h), fun _ => ⟨⟨by omega, by omega⟩, ?_⟩⟩
  have hg26' := hg18.trans (hg22.trans hg26)
  refine (keys_ok (hmine.grew hg26').reads (hl.grew (hg15'.trans hg26')) (by omega)).use fun v w34 ⟨hv, hg34⟩ => ?_
  subst hv
  refine ⟨_, rfl, fun h => (by simp at h), fun _ => ⟨⟨by omega, by omega⟩, fun b38 w39 hal39 => ?_⟩⟩
  have htail : Reads w39 (Enc.int .u64) (if c17 = l.length then a17 else Option.map (fun x => Addr.add x (l.length * 1)) a17, l17 - l.length, c17 - l.length) [71, 72, 73] := by
    have := (ho15.reads.grew (hg26'.trans (hg34.trans hal39.grew))).from (i := l.length) (by omega)
    rw [hsplit.2] at this
    exact this
  have h3 := (Own.alloc (E := Enc.int .u64) (l := [71, 72, 73]) hal39 (Nat.le_refl _) rfl (by simp [maxLen])).reads
  refine (keys_ok htail h3 (by simp)).use fun v w40 ⟨hv, hg40⟩ => ?_
  subst hv
  refine ⟨_, rfl, fun h => (by simp at h), fun _ w44 hg44 => ?_⟩
  have hg44' := hg26'.trans (hg34.trans (hal39.grew.trans (hg40.trans hg44)))
  have hu44 := (hg26.trans (hg34.trans (hal39.grew.trans (hg40.trans hg44))))
  have hU44 := ho18'.grew hu44
  have hV44 := ho22.grew hu44
  have hl44 := hl.grew (hg15'.trans hg44')
  have hr44 := hr.grew (hg15'.trans hg44')
  -- all of a are in it
  refine ⟨fun w' => Grew w44 w', ⟨fun i w' => ∃ k : Nat, i = k ∧ k ≤ l.length ∧ Grew w44 w', fun i _ => l.length - i.toNat, ⟨0, rfl, Nat.zero_le _, Grew.refl _⟩, ?_⟩, ?_⟩
  · rintro i w' ⟨k, rfl, hk, hg⟩
    refine ⟨fun hlt => ⟨fun _ w48 hg48 => ?_, fun _ => hg⟩, fun _ => hg⟩
    simp only [decide_eq_true_eq] at hlt
    obtain ⟨x, y, rfl, hy, hcy⟩ := at_k (hl44.grew (hg.trans hg48)) (k := k) (by omega)
    have hmem : y ∈ U := (hUm y).2 (.inl (List.mem_of_getElem? hy))
    have hw : IntKind.i64.wrap ((k : Int) + 1) = ((k + 1 : Nat) : Int) := by rw [IntKind.wrap_i64]; omega
    refine ⟨⟨by omega, by omega⟩, y, hcy, (Has_ok (m := ⟨0, 0, U⟩) (key := y) (hU44.grew (hg.trans hg48)).reads (by simp only; omega)).use' fun v w51 ⟨hv, hg51⟩ => ?_⟩
    subst hv
    rw [hw]
    exact ⟨_, rfl, fun h => (by simp [hmem] at h), fun _ => ⟨⟨k + 1, rfl, by omega, hg.trans (hg48.trans hg51)⟩, by show l.length - (((k + 1 : Nat) : Int)).toNat < l.length - ((k : Int)).toNat; omega⟩⟩
  intro w55 hg55
  -- all of b are in it
  refine ⟨fun w' => Grew w44 w', ⟨fun i w' => ∃ k : Nat, i = k ∧ k ≤ r.length ∧ Grew w44 w', fun i _ => r.length - i.toNat, ⟨0, rfl, Nat.zero_le _, hg55⟩, ?_⟩, ?_⟩
  · rintro i w' ⟨k, rfl, hk, hg⟩
    refine ⟨fun hlt => ⟨fun _ w48 hg48 => ?_, fun _ => hg⟩, fun _ => hg⟩
    simp only [decide_eq_true_eq] at hlt
    obtain ⟨x, y, rfl, hy, hcy⟩ := at_k (hr44.grew (hg.trans hg48)) (k := k) (by omega)
    have hmem : y ∈ U := (hUm y).2 (.inr (List.mem_of_getElem? hy))
    have hw : IntKind.i64.wrap ((k : Int) + 1) = ((k + 1 : Nat) : Int) := by rw [IntKind.wrap_i64]; omega
    refine ⟨⟨by omega, by omega⟩, y, hcy, (Has_ok (m := ⟨0, 0, U⟩) (key := y) (hU44.grew (hg.trans hg48)).reads (by simp only; omega)).use' fun v w51 ⟨hv, hg51⟩ => ?_⟩
    subst hv
    rw [hw]
    exact ⟨_, rfl, fun h => (by simp [hmem] at h), fun _ => ⟨⟨k + 1, rfl, by omega, hg.trans (hg48.trans hg51)⟩, by show r.length - (((k + 1 : Nat) : Int)).toNat < r.length - ((k : Int)).toNat; omega⟩⟩
  intro w67 hg67
  have hlen20 : l20 = U.length := hU44.len
  have hlen24 : l24 = U.length := hV44.len
  -- all of it are in a or in b
  refine ⟨fun w' => Grew w44 w', ⟨fun i w' => ∃ k : Nat, i = k ∧ k ≤ l20 ∧ Grew w44 w', fun i _ => l20 - i.toNat, ⟨0, rfl, Nat.zero_le _, hg67⟩, ?_⟩, ?_⟩
  · rintro i w' ⟨k, rfl, hk, hg⟩
    refine ⟨fun hlt => ⟨fun _ => ?_, fun _ => hg⟩, fun _ => hg⟩
    simp only [decide_eq_true_eq] at hlt
    obtain ⟨x, y, rfl, hy, hcy⟩ := at_k (hU44.grew hg).reads (k := k) (by omega)
    have hmem := (hUm y).1 (List.mem_of_getElem? hy)
    have hw : IntKind.i64.wrap ((k : Int) + 1) = ((k + 1 : Nat) : Int) := by rw [IntKind.wrap_i64]; omega
    refine ⟨⟨by omega, by omega⟩, y, hcy, (Has_ok (m := ⟨0, 0, l⟩) (key := y) (hl44.grew hg) (by simp only; omega)).use fun v w74 ⟨hv, hg74⟩ => ?_⟩
    subst hv
    rw [hw]
    refine ⟨_, rfl, fun hno => ?_, fun _ => ⟨⟨k + 1, rfl, by omega, hg.trans hg74⟩, by show l20 - (((k + 1 : Nat) : Int)).toNat < l20 - ((k : Int)).toNat; omega⟩⟩
    have hmr : y ∈ r := by
      rcases hmem with h | h
      · simp [h] at hno
      · exact h
    obtain ⟨x', y', hx', hy', hcy'⟩ := at_k (hU44.grew (hg.trans hg74)).reads (k := k) (by omega)
    cases hx'
    rw [hy] at hy'; cases hy'
    refine ⟨⟨by omega, by omega⟩, y, hcy', (Has_ok (m := ⟨0, 0, r⟩) (key := y) (hr44.grew (hg.trans hg74)) (by simp only; omega)).use fun v w80 ⟨hv, hg80⟩ => ?_⟩
    subst hv
    exact ⟨_, rfl, fun h => (by simp [hmr] at h), fun _ => ⟨⟨k + 1, rfl, by omega, hg.trans (hg74.trans hg80)⟩, by show l20 - (((k + 1 : Nat) : Int)).toNat < l20 - ((k : Int)).toNat; omega⟩⟩
  intro w84 hg84 b85 w86 hal86
  -- what is wanted
  have ho86 := Own.alloc (E := Enc.int .u64) (l := []) hal86 (Nat.le_refl _) rfl (by decide)
  have hV86 := (hV44.grew hg84).grew hal86.grew
  refine append_sl ec ho86 hV86.reads.1 hV86.reads.2.1 hV86.reads.2.2.1 hal86.grew.size (by simp only [maxLen, List.length_nil]; omega) (by simp only [List.length_nil]; omega) ?_
  rintro v w87 ⟨a89, l89, c89, rfl, ho87, hu87, -⟩
  have hg87 : Grew w84 w87 := hal86.grew.then_own hu87 fun b hb => (ho86.blk hb).1
  rw [List.nil_append] at ho87
  refine ⟨_, _, _, rfl, ?_⟩
  have hg87' := hg84.trans hg87
  have s18 := hg18.size; have s22 := hg22.size; have s44 := hu44.size; have s87 := hg84.size; have s15 := hg15'.size; have sw := hg2.size
  have hU87 := hU44.grew hg87'
  have hV87 := hV44.grew hg87'
  have hm87 := hmine.grew (hg44'.trans hg87')
  have ub : ∀ x, Blk a20 x → w15.heap.size ≤ x ∧ x < w18.heap.size := fun x hx => ho18.blk hx
  have vb : ∀ x, Blk a24 x → w18.heap.size ≤ x ∧ x < w22.heap.size := fun x hx => ho22.blk hx
  have mb : ∀ x, Blk a17 x → w2.heap.size ≤ x ∧ x < w15.heap.size := fun x hx => ho15.blk hx
  have wb : ∀ x, Blk a89 x → w84.heap.size ≤ x ∧ x < w87.heap.size := fun x hx => ho87.blk hx
  have G87 : Grew w15 w87 := hg44'.trans hg87'
  -- it is written over
  refine ⟨fun i w' => ∃ (k : Nat) (p : List Int), i = k ∧ k ≤ l20 ∧ p.length = l20 ∧ Own w' w15.heap.size 38 (Enc.int .u64) a20 l20 c20 p ∧ Upd (Blk a20) w87 w', fun i _ => l20 - i.toNat, ⟨0, U, rfl, Nat.zero_le _, hlen20.symm, hU87, Upd.refl _ _⟩, ?_⟩
  rintro i w92 ⟨k, p, rfl, hk, hpl, hp92, hu92⟩
  refine ⟨fun hlt => ?_, fun hge => ?_⟩
  · simp only [decide_eq_true_eq] at hlt
    obtain ⟨x, rfl, hroom, hset, hu⟩ := hp92.set (i := k) (by omega) 9
    have hw : IntKind.i64.wrap ((k : Int) + 1) = ((k + 1 : Nat) : Int) := by rw [IntKind.wrap_i64]; omega
    rw [hw]
    refine ⟨⟨by omega, by omega⟩, by simpa [Enc.int] using hroom, ?_⟩
    rintro w94 rfl
    exact ⟨⟨k + 1, p.set k 9, rfl, by omega, by rw [List.length_set]; exact hpl, by simpa [Enc.int] using hset, by simpa [Enc.int] using hu92.trans hu⟩, by show l20 - (((k + 1 : Nat) : Int)).toNat < l20 - ((k : Int)).toNat; omega⟩
  clear hge hk k
  have s92 := hu92.size
  have G92 : Grew w15 w92 := G87.then_own hu92 fun x hx => (ub x hx).1
  -- nine more
  refine ⟨fun a' l' c' i w' => ∃ (k : Nat) (p : List Int), i = k ∧ k ≤ 9 ∧ p.length = l20 + k ∧ Own w' w15.heap.size 38 (Enc.int .u64) a' l' c' p ∧ (∀ x, Blk a' x → Blk a20 x ∨ w87.heap.size ≤ x) ∧ Upd (fun x => Blk a20 x ∨ w87.heap.size ≤ x) w87 w', fun _ _ _ i _ => 9 - i.toNat, ⟨0, p, rfl, by decide, hpl, hp92, fun x hx => .inl hx, hu92.mono fun x _ hx => .inl hx⟩, ?_⟩
  rintro a96 l96 c96 i w98 ⟨k, q, rfl, hk, hql, hq98, hb98, hu98⟩
  have s98 := hu98.size
  refine ⟨fun hlt b99 w100 hal100 => ?_, fun hge => ?_⟩
  · simp only [decide_eq_true_eq] at hlt
    refine append_new (l2 := [8]) ec hq98 hal100 rfl rfl (by have := G87.size; omega) (by simp only [maxLen, List.length_cons, List.length_nil]; omega) (by simp; omega) ?_
    rintro v w101 ⟨a103, l103, c103, rfl, ho101, hu101, hb101⟩
    have hw : IntKind.i64.wrap ((k : Int) + 1) = ((k + 1 : Nat) : Int) := by rw [IntKind.wrap_i64]; omega
    rw [hw]
    refine ⟨_, _, _, rfl, ⟨k + 1, q ++ [8], rfl, by omega, by simp; omega, ho101, fun x hx => ?_, ?_⟩, by show 9 - (((k + 1 : Nat) : Int)).toNat < 9 - ((k : Int)).toNat; omega⟩
    · rcases hb101 x hx with h | h
      · exact hb98 x h
      · exact .inr (by omega)
    · exact hu98.trans (hu101.mono fun x _ hx => hb98 x hx)
  simp only [decide_eq_false_iff_not] at hge
  have hk9 : k = 9 := by omega
  have off : ∀ x, x < w87.heap.size → ¬ Blk a20 x → ¬ (Blk a20 x ∨ w87.heap.size ≤ x) := fun x h1 h2 h => h.elim h2 (by omega)
  have G98 : Grew w15 w98 := G87.then_own hu98 fun x hx => by
    rcases hx with h | h
    · exact (ub x h).1
    · have := G87.size; omega
  have hV98 := hV87.upd hu98 (fun x h1 => off x (hV87.blk h1).2 (fun h2 => by have := vb x h1; have := ub x h2; omega))
  have hW98 := ho87.upd hu98 (fun x h1 => off x (ho87.blk h1).2 (fun h2 => by have := wb x h1; have := ub x h2; omega))
  have hm98 := hm87.upd hu98 (fun x h1 => off x (hm87.blk h1).2 (fun h2 => by have := mb x h1; have := ub x h2; omega))
  have hl98 := hl.grew (hg15'.trans G98)
  refine (keys_ok hV98.reads hW98.reads (by omega)).use fun v w104 ⟨hv, hg104⟩ => ?_
  subst hv
  refine ⟨_, rfl, fun _ => ⟨⟨by omega, by omega⟩, ?_⟩, fun h => (by simp at h)⟩
  refine (keys_ok (hm98.grew hg104).reads (hl98.grew hg104) (by omega)).use fun v w108 ⟨hv, hg108⟩ => ?_
  subst hv
  refine ⟨_, rfl, fun _ n112 hn112 => ?_, fun h => (by simp at h)⟩
  have hql' := hq98.len
  have hw : IntKind.i64.wrap ((l24 : Int) + 9) = ((l24 + 9 : Nat) : Int) := by rw [IntKind.wrap_i64]; omega
  subst hn112
  rw [hw]
  refine ⟨_, rfl, ?_, hg15'.trans (G98.trans (hg104.trans hg108))⟩
  rw [show (((l96 : Nat) : Int) == ((l24 + 9 : Nat) : Int)) = true from by rw [beq_iff_eq]; omega]

def encU64 : Enc Int := Enc.int .u64
theorem u64_kindsF : kindsOf Try.prog 2 38 = some [.int .u64] := by kernel_rfl
theorem u64_ofF (cs : List Value) (h : AllK [.int .u64] cs) : ∃ x : Int, cs = encU64.f x ∧ (0 ≤ x ∧ x < u64m) := by
  obtain ⟨hl, h⟩ := h
  match cs, hl with
  | [c0], _ =>
    obtain ⟨_, e0, n0, rfl, w0⟩ := h 0 _ rfl
    simp at e0; subst e0
    refine ⟨n0, rfl, ?_⟩
    simp [Lit.wf, IntKind.min, IntKind.max, IntKind.signed, IntKind.bits] at w0
    simp only [u64m]; omega

section
variable {H : Type}
theorem upto_pos (d : DataW H) : 1 ≤ Rows.uptoBulk d := by
  cases d with
  | lit l => cases l <;> simp [Rows.uptoBulk]
  | _ => simp [Rows.uptoBulk]
theorem upto_all_len : ∀ ds : List (DataW H), ds.length ≤ Rows.uptoBulkAll ds
  | [] => by simp [Rows.uptoBulkAll]
  | d :: r => by
    have h1 := upto_pos d; have h2 := upto_all_len r
    simp only [Rows.uptoBulkAll, List.length_cons]; omega
theorem upto_mem : ∀ {ds : List (DataW H)} {j : Nat} {d : DataW H}, ds[j]? = some d → Rows.uptoBulk d ≤ Rows.uptoBulkAll ds
  | [], j, d, h => by simp at h
  | x :: r, 0, d, h => by simp at h; subst h; simp only [Rows.uptoBulkAll]; omega
  | x :: r, j + 1, d, h => by
    have := upto_mem (ds := r) (j := j) (d := d) (by simpa using h)
    simp only [Rows.uptoBulkAll]; omega
theorem upto_len {ds : List (DataW H)} {B : Nat} (h : Rows.uptoBulkAll ds ≤ B) {j : Nat} {d : DataW H} {n : Nat} (hd : ds[j]? = some d) (hs : (d = .nil ∧ n = 0) ∨ ∃ es sp, d = .slice es sp ∧ es.length = n) : n ≤ B := by
  have h1 := upto_mem hd
  rcases hs with ⟨-, rfl⟩ | ⟨es, sp, rfl, rfl⟩
  · omega
  · have h2 := upto_all_len es
    simp only [Rows.uptoBulk] at h1; omega
end
open Go.ChangeShapes Go.WideShapes Go.ChangeAt Go.RowKit
set_option maxRecDepth 100000 in
theorem markUnion_lifted (os : Os) (started : os.Started) (H : Type) (enc : TypeId × Value → H) (F : Stop.Interp) :
    ReturnsInHanded {} Try.checked os 9 .any ((Rows.OpenSpec.upto Rows.markUnionSpec).pre6 enc Try.prog Try.f9 Rows.markUnionUptoRow.domain false) (((Rows.OpenSpec.upto Rows.markUnionSpec).at F).post enc Try.prog Try.f9 false true false false) := by
  refine returnsInHanded_of_cond_sized (s := Rows.OpenSpec.upto Rows.markUnionSpec) (k := Rows.uptoSmall) (by rfl) (C := Try.checked) (by kernel_rfl) started (by kernel_rfl) Try.func9
    (OpenSpec.witness (s := Rows.OpenSpec.upto Rows.markUnionSpec) (k := Rows.uptoSmall) (by rfl) (enc := enc) (C := Try.checked) (x := ([.nil, .nil], [], [])) false ⟨#[], #[.slice none 0 0, .slice none 0 0], []⟩ 8 (by kernel_rfl) (by kernel_rfl) (by kernel_rfl) (by kernel_rfl) (by kernel_rfl) (by kernel_rfl)) ?_
  intro W base args ds gs before hval0 hW hcnd hsm0 hsz0 _
  have hval : ∀ (j : Nat) t v, Try.f9.params[j]? = some t → args[j]? = some v → Value.okWide Try.prog W .any base t v := hval0
  have hW' := hW
  obtain ⟨p, q, hA0, hV, rfl, hfz, hnd⟩ := hW
  have hA : DataW.TrodAll enc Try.prog W 0 (fun _ => true) true Try.f9.params.toList args.toList ds p := hA0
  have hsz : (DataW.weightsEach Try.prog (Try.f9.params.toList ++ _) (ds ++ gs)).all (· ≤ reachBytes) = true := hsz0
  rw [show Try.f9.params = #[22, 22] from by kernel_rfl] at hA hval hsz
  have hA1 := hA
  obtain ⟨v0, vs0, d0, ds0, p0, q0, hargs, rfl, rfl, h0, r0⟩ := trodAll_cons hA
  obtain ⟨v1, vs1, d1, ds1, p1, q1, rfl, rfl, rfl, h1, r1⟩ := trodAll_cons r0
  obtain ⟨rfl, rfl, rfl⟩ := trodAll_nil r1
  obtain rfl : args = #[v0, v1] := by cases args; simp_all
  obtain ⟨a0, n0, c0, l0, rfl, hr0, hcl0, hn0, hs0⟩ := open_flat (P := Try.prog) (t := 22) (e := 38) (by kernel_rfl) u64_kindsF (by kernel_rfl) (hval 0 22 v0 rfl rfl) h0 (E := encU64) rfl u64_ofF
  have hb0 : l0.length * 8 ≤ 140737488351232 := by have h1 := sized_len hsz (j := 0) (t := 22) (e := 38) rfl rfl (by kernel_rfl) (B := 8) (by kernel_rfl) hs0; have h2 := hr0.2.1; simp only at h2; omega
  obtain ⟨a1, n1, c1, l1, rfl, hr1, hcl1, hn1, hs1⟩ := open_flat (P := Try.prog) (t := 22) (e := 38) (by kernel_rfl) u64_kindsF (by kernel_rfl) (hval 1 22 v1 rfl rfl) h1 (E := encU64) rfl u64_ofF
  have hb1 : l1.length * 8 ≤ 140737488351232 := by have h1 := sized_len hsz (j := 1) (t := 22) (e := 38) rfl rfl (by kernel_rfl) (B := 8) (by kernel_rfl) hs1; have h2 := hr1.2.1; simp only at h2; omega
  have hsm : Rows.uptoBulkAll _ ≤ 1048576 := of_decide_eq_true hsm0
  have hbk0 : l0.length ≤ 1048576 := by have h2 := hr0.2.1; simp only at h2; have h3 := upto_len hsm (j := 0) rfl hs0; omega
  have hbk1 : l1.length ≤ 1048576 := by have h2 := hr1.2.1; simp only at h2; have h3 := upto_len hsm (j := 1) rfl hs1; omega
  clear hA0 hA1 hval0 hsz0
  refine (CallsW.calls ⟨_, Try.func9, by kernel_rfl, by kernel_rfl⟩ (MarkUnion_ok hr0 hcl0 hbk0 hr1 hcl1 hbk1)).mono fun e W' ⟨w', hh, hk, v, he, hv, hg⟩ => ?_
  subst he; subst hv
  exact ⟨_, rfl, post_true (tb := 4) (by kernel_rfl) rfl (by kernel_rfl) (by kernel_rfl) ⟨rfl, rfl, rfl⟩ (by decide +kernel) hW' (below_of hg hh hk)⟩

theorem markUnion_holds : Rows.MarkUnionUptoSaid :=
  OpenClaim.holds_of_cond 9 Try.f9 rfl rfl rfl rfl rfl rfl rfl ⟨rfl, rfl, rfl, rfl, rfl⟩ rfl rfl rfl rfl rfl (by kernel_rfl) Try.func9 (by kernel_rfl)
    (of_decide_eq_true (by kernel_rfl)) (by unfold Func.isWrapper; first | (rw [if_pos (by decide +kernel)]; kernel_rfl) | (rw [if_neg (by decide +kernel)]; exact ⟨rfl, rfl⟩))
    (fun os started H enc _ F => markUnion_lifted os started H enc F)
end Go.Proofs.Yteakjjbajjkloaa
