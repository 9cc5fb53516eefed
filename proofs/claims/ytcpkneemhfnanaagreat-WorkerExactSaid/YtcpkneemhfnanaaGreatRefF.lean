/- What a worker tells of its attempts. Conditions: none. -/
import Derived.Test.YtcpkneemhfnanaaGreatProg
import Derived.Test.YtcpkneemhfnanaaGreatWorkB
import Derived.Test.YtcpkneemhfnanaaGreatMath
import Derived.Test.YtcpkneemhfnanaaGreatSxFg
namespace Go.Proofs.YtcpkneemhfnanaaGreat
open Go.Sx
set_option maxRecDepth 100000
set_option linter.unusedVariables false
set_option linter.unusedSimpArgs false
def sx21 (w0 : Nat) (R : Ending → World → Prop) (w : World) : Prop :=
 ∃ m1, w.cell? ⟨w0, 9, none⟩ = some (.map m1) ∧ Aa Tryz.prog 59 [.map m1] w (RetR R fun u3 w2 => ∃ v4, u3 = v4 ∧ Aa Tryz.prog 58 [v4] w2 (RetR R fun u7 w6 => ∃ a8 l8 c8, u7 = .slice a8 l8 c8 ∧ ∃ (I10 : Option Addr → Nat → Nat → Int → World → Prop) (m10 : Option Addr → Nat → Nat → Int → World → Nat), I10 none 0 0 0 w6 ∧ ∀ a11 l11 c11 n12 w13, I10 a11 l11 c11 n12 w13 → ifB (decide (n12 < ((l8 : Nat) : Int))) (Ab a8 (fun d14 => (0 ≤ n12 ∧ n12 < (l8 : Nat)) ∧ ∃ n15, w13.cell? (Addr.add d14 (n12.toNat * 1)) = some (.int .i64 n15) ∧ ∃ m16, w13.cell? ⟨w0, 9, none⟩ = some (.map m16) ∧ SemW Tryz.prog (Instr.lookup 102 (.map m16) (.int .i64 n15) false) (fun u18 w17 => ∃ p19, u18 = .pointer p19 ∧ ∀ w20, Grew w17 w20 → Ab p19 (fun d21 => ∃ n22, w20.cell? d21 = some (.int .i64 n22) ∧ Ab p19 (fun d23 => ∃ a24 l24 c24, w20.cell? (Addr.add d23 1) = some (.slice a24 l24 c24) ∧ Ab p19 (fun d25 => ∃ b26, w20.cell? (Addr.add d25 3) = some (.bool b26) ∧ Ab p19 (fun d27 => ∃ m28, w20.cell? (Addr.add d27 4) = some (.map m28) ∧ Aa Tryz.prog 60 [.slice a24 l24 c24] w20 (RetR R fun u30 w29 => ∃ a31 l31 c31, u30 = .slice a31 l31 c31 ∧ Ad w20 w29 [(Addr.add d27 4), (Addr.add d25 3), (Addr.add d23 1), d21] ∧ SemW Tryz.prog (Builtin.len_ #[138] 3 #[.map m28]) (fun u34 w33 => ∃ n35, u34 = .int .i64 n35 ∧ Ad w29 w33 [(Addr.add d27 4), (Addr.add d25 3), (Addr.add d23 1), d21] ∧ ∀ b36 w37, Ag w33 w37 b36 (.cells #[.int .i64 n15, .int .i64 n22, .slice a31 l31 c31, .bool b26, .int .i64 n35] 74) → SemW Tryz.prog (Builtin.append_ #[59, 59] 59 #[.slice a11 l11 c11, .slice (some ⟨b36, 0, none⟩) 1 1]) (fun u39 w38 => ∃ a40 l40 c40, u39 = .slice a40 l40 c40 ∧ (I10 a40 l40 c40 (IntKind.i64.wrap (n12 + 1)) w38 ∧ m10 a40 l40 c40 (IntKind.i64.wrap (n12 + 1)) w38 < m10 a11 l11 c11 n12 w13)) w37) w29)))))) w13)) (R (.returned (.slice a11 l11 c11)) w13)))
theorem sx21.ok {w0 : Nat} {R : Ending → World → Prop} {w : World} (h : sx21 w0 R w) : Aa Tryz.prog 21 [.pointer (some ⟨w0, 0, none⟩)] w R :=
 okOf { known := [8], sem := [25, 45, 48], draws := [(8, { order := (ol [0,1,2,3,4,5,6,7,8,9,11,12,13,14,15,16,17,18,10,19,20,21,22,23] .nil), bars := [21, 22] })], loops := [(5, { slots := [(3, .slice), (16, .int .i64)], cells := [] })] } mix Tryz.func21 (by kernel_rfl) (by kernel_rfl) (by kernel_rfl) h
theorem Aby : B4 Tryz.prog 59 74 Enc.held.sz 56 := B4.mk' (z := .agg #[.int .i64 0, .int .i64 0, .slice none 0 0, .bool false, .int .i64 0]) (by kernel_rfl) (by kernel_rfl) (by kernel_rfl)
abbrev HO := Gk 74 3
def Aei (w : World) (ts : List Tv) (u : Value) (w' : World) : Prop := ∃ a n c hs, u = .slice a n c ∧ HO w' w.heap.size a n c hs ∧ hs.map (·.c) = ts ∧ Grew w w'
set_option maxHeartbeats 1000000 in
theorem T3 {w : World} {B : Nat} {X : A6} {V : Ac} (h : WA w B X V) (hl : V.held.length ≤ 1048576) :
  Aa Tryz.prog 21 [.pointer (some ⟨X.p, 0, none⟩)] w (Rets (Aei w V.tell)) := by
 refine sx21.ok ?_
 unfold sx21
 have hkeys : X.l.map (·.1) = V.held.map (·.1) := by rw [← h.held, List.map_map]; rfl
 have hxl : X.l.length = V.held.length := by rw [← h.held, List.length_map]
 refine ⟨_, wMap h, Yj.use fun u w2 ⟨g, hv, hal⟩ => ?_⟩
 subst hv
 have h2 := h.grew hal.grew
 have hc1 : w2.cell? ⟨g, 0, none⟩ = some (.map (some X.h)) := by rw [Lc hal.at_]; rfl
 refine ⟨_, rfl, (Tr hc1 h2.map (by omega)).use fun u w6 ⟨a8, l8, c8, hv, ho8, hg6⟩ => ?_⟩
 subst hv
 rw [hkeys] at ho8
 have hg6' := hal.grew.trans hg6
 have hl8 : l8 = V.held.length := by rw [ho8.len, (Bf _).length_eq, List.length_map]
 subst hl8
 refine ⟨_, _, _, rfl, fun a n c i w' => ∃ (k : Nat) (hs : List Hp), i = k ∧ k ≤ V.held.length ∧ HO w' w6.heap.size a n c hs ∧ hs.map (·.c) = V.tell.take k ∧ Grew w6 w', fun _ _ _ i _ => V.held.length - i.toNat, ⟨0, [], rfl, Nat.zero_le _, ⟨Own.nil _ _ _ _, fun x hx => (by simp at hx)⟩, by simp, Grew.refl _⟩, ?_⟩
 rintro a11 l11 c11 n12 w13 ⟨k, hs, rfl, hk, hO, hhs, hg13⟩
 have hhl : hs.length = k := by have := congrArg List.length hhs; simp [Ac.tell_len] at this; omega
 refine ⟨fun hlt => ?_, fun hge => ?_⟩
 ·simp only [decide_eq_true_eq] at hlt
  have hw : IntKind.i64.wrap ((k : Int) + 1) = ((k + 1 : Nat) : Int) := by rw [IntKind.wrap_i64]; omega
  have hgw := hg6'.trans hg13
  have h13 := h.grew hgw
  obtain ⟨d, key, rfl, hkey, hkc⟩ := (ho8.grew hg13).reads.at0 (k := k) (by omega)
  have hmem : key ∈ V.held.map (·.1) := (Bf _).mem_iff.1 (List.mem_of_getElem? hkey)
  obtain ⟨q, hq, hqk⟩ := List.mem_map.1 (hkeys ▸ hmem : key ∈ X.l.map (·.1))
  obtain ⟨x, hx⟩ : ∃ x, getM X.l key = some x := by
   cases hg : getM X.l key with
   | some x => exact ⟨x, rfl⟩
   | none =>
    exfalso
    unfold getM at hg
    rw [Option.map_eq_none_iff, List.find?_eq_none] at hg
    exact hg q hq (by simpa using hqk)
  have hget : getM V.held key = some x.c := by rw [h.get, hx]; rfl
  have htell := Ac.tell_get hkey
  rw [hget] at htell
  rw [Ab]
  refine ⟨⟨by omega, by omega⟩, _, Cc hkc, _, wMap h13, E4 (F := attF) Ty uInt zAtt h13.map ?_⟩
  rw [hx]
  refine ⟨_, rfl, fun w20 hg20 => ?_⟩
  have h20 := h13.grew hg20
  obtain ⟨hA, hok, hkb⟩ := h20.att hx
  have c0 : w20.cell? ⟨x.b, 0, none⟩ = some (.int .i64 x.c.number) := by rw [hA.row.cell]; rfl
  have c1 : w20.cell? (Addr.add (⟨x.b, 0, none⟩ : Addr) 1) = some (.slice x.e.1 x.e.2.1 x.e.2.2) := by rw [Au, hA.row.cell]; rfl
  have c3 : w20.cell? (Addr.add (⟨x.b, 0, none⟩ : Addr) 3) = some (.bool x.c.begun) := by rw [Au, hA.row.cell]; rfl
  have c4 : w20.cell? (Addr.add (⟨x.b, 0, none⟩ : Addr) 4) = some (.map (some x.am)) := by rw [Au, hA.row.cell]; rfl
  rw [Ab]
  refine ⟨_, c0, ?_⟩
  rw [Ab]
  refine ⟨_, _, _, c1, ?_⟩
  rw [Ab]
  refine ⟨_, c3, ?_⟩
  rw [Ab]
  refine ⟨_, c4, (Gy hA.ends.reads (by have := hok.ends.1; omega)).use fun u w29 ⟨a31, l31, c31, hv, ho31, hg29⟩ => ?_⟩
  subst hv
  have bb := hg29.block _ hA.row.lt
  have hA29 := hA.grew hg29
  refine ⟨_, _, _, rfl, ⟨bb, bb, bb, bb, trivial⟩, R4 uAm hA29.amap ⟨_, rfl, ⟨rfl, rfl, rfl, rfl, trivial⟩, fun b36 w37 hal37 => ?_⟩⟩
  let z : Hp := ⟨Ml key x.c, (a31, l31, c31)⟩
  have hgz := hg20.trans hg29
  have hO29 := hO.grew hgz
  have hB := (hg13.trans hgz).size
  refine Bc (l2 := [z]) Aby hO29.own hal37 (by simp [Enc.held, z, Ml]) rfl hB (by simp only [maxLen, List.length_singleton]; omega) (by simp only [List.length_singleton]; omega) ?_
  rintro v39 w38 ⟨a40, l40, c40, rfl, ho40, hu40, hb40⟩
  have hz : Own w29 w6.heap.size 3 (Enc.int .i64) a31 l31 c31 x.c.ends := ho31.base (hg13.trans hg20).size
  have keep : ∀ {a n c} {l : List Int}, Own w29 w6.heap.size 3 (Enc.int .i64) a n c l → Own w38 w6.heap.size 3 (Enc.int .i64) a n c l := fun ho => ho.upd hu40 fun b hb hb' => own_ne ho hO29.own (by decide) b hb hb'
  refine ⟨_, _, _, rfl, ⟨k + 1, hs ++ [z], hw, by omega, ⟨ho40, fun y hy => ?_⟩, ?_, (hg13.trans hgz).then_own hu40 fun b hb => (hO29.own.blk hb).1⟩, by simp only [hw]; omega⟩
  ·rcases List.mem_append.1 hy with hy | hy
   ·exact keep (hO29.each y hy)
   ·simp at hy; subst hy; exact keep hz
  ·rw [List.map_append, hhs, Ak htell]; rfl
 ·simp only [decide_eq_false_iff_not] at hge
  have hkn : k = V.held.length := by omega
  subst hkn
  rw [List.take_of_length_le (by rw [Ac.tell_len]; omega)] at hhs
  exact ⟨_, rfl, _, _, _, hs, rfl, hO.base hg6'.size, hhs, hg6'.trans hg13⟩
def sx145 (x : Nat) (R : Ending → World → Prop) (w : World) : Prop :=
 Aa Tryz.prog 120 [.float .f64 x] w (RetR R fun u2 w1 => ∃ n3, u2 = .int .u64 n3 ∧ R (.returned (.int .u64 n3)) w1)
theorem sx145.ok {x : Nat} {R : Ending → World → Prop} {w : World} (h : sx145 x R w) : Aa Tryz.prog 145 [.float .f64 x] w R :=
 okOf {} mix Tryz.func145 (by kernel_rfl) (by kernel_rfl) (by kernel_rfl) h
def sx147 (b : Int) (R : Ending → World → Prop) (w : World) : Prop :=
 Aa Tryz.prog 76 [.int .u64 b] w (RetR R fun u2 w1 => ∃ x3, u2 = .float .f64 x3 ∧ R (.returned (.float .f64 x3)) w1)
theorem sx147.ok {b : Int} {R : Ending → World → Prop} {w : World} (h : sx147 b R w) : Aa Tryz.prog 147 [.int .u64 b] w R :=
 okOf {} mix Tryz.func147 (by kernel_rfl) (by kernel_rfl) (by kernel_rfl) h
def sx176 (x : Nat) (R : Ending → World → Prop) (w : World) : Prop :=
 Aa Tryz.prog 145 [.float .f64 x] w (RetR R fun u2 w1 => ∃ n3, u2 = .int .u64 n3 ∧ 0 ≤ (52 : Int) ∧ ∀ n5 : Int, n5 = Int.fdiv n3 (2 ^ (min (52 : Int).toNat (IntKind.bits .u64))) → ∀ n6 : Int, n6 = IntKind.i64.wrap (Go.bits .and .u64 n5 2047) → ∀ n7 : Int, n7 = Go.bits .and .u64 n3 4503599627370495 → R (.returned (.tuple #[.int .i64 n6, .int .u64 n7])) w1)
theorem sx176.ok {x : Nat} {R : Ending → World → Prop} {w : World} (h : sx176 x R w) : Aa Tryz.prog 176 [.float .f64 x] w R :=
 okOf { named := [8, 10, 12] } mix Tryz.func176 (by kernel_rfl) (by kernel_rfl) (by kernel_rfl) h
def sx146 (x : Nat) (R : Ending → World → Prop) (w : World) : Prop :=
 Aa Tryz.prog 176 [.float .f64 x] w (RetR R fun u2 w1 => ∃ n3 n4, u2 = .tuple #[.int .i64 n3, .int .u64 n4] ∧ ifB (n3 == 2047) (ifB (n4 != 0) (R (.returned (.int .i64 5)) w1) (ifB (n3 == 2047) (R (.returned (.int .i64 4)) w1) (ifB (n3 != 0) (R (.returned (.int .i64 3)) w1) (ifB (n4 != 0) (R (.returned (.int .i64 2)) w1) (R (.returned (.int .i64 1)) w1))))) (ifB (n3 == 2047) (R (.returned (.int .i64 4)) w1) (ifB (n3 != 0) (R (.returned (.int .i64 3)) w1) (ifB (n4 != 0) (R (.returned (.int .i64 2)) w1) (R (.returned (.int .i64 1)) w1)))))
theorem sx146.ok {x : Nat} {R : Ending → World → Prop} {w : World} (h : sx146 x R w) : Aa Tryz.prog 146 [.float .f64 x] w R :=
 okOf {} mix Tryz.func146 (by kernel_rfl) (by kernel_rfl) (by kernel_rfl) h
def sx128 (x : Nat) (R : Ending → World → Prop) (w : World) : Prop :=
 Aa Tryz.prog 146 [.float .f64 x] w (RetR R fun u2 w1 => ∃ n3, u2 = .int .i64 n3 ∧ ifB (n3 == 5) (Aa Tryz.prog 147 [.int .u64 9221120237041090561] w1 (RetR R fun u6 w5 => ∃ x7, u6 = .float .f64 x7 ∧ R (.returned (.float .f64 x7)) w5)) (R (.returned (.float .f64 x)) w1))
theorem sx128.ok {x : Nat} {R : Ending → World → Prop} {w : World} (h : sx128 x R w) : Aa Tryz.prog 128 [.float .f64 x] w R :=
 okOf {} mix Tryz.func128 (by kernel_rfl) (by kernel_rfl) (by kernel_rfl) h
def sx152 (n : Int) (R : Ending → World → Prop) (w : World) : Prop :=
 SemW Tryz.prog (convert 2 41 (.int .i64 n)) (fun u2 w1 => ∃ x3, u2 = .float .f64 x3 ∧ R (.returned (.float .f64 x3)) w1) w
theorem sx152.ok {n : Int} {R : Ending → World → Prop} {w : World} (h : sx152 n R w) : Aa Tryz.prog 152 [.int .i64 n] w R :=
 okOf { sem := [4] } mix Tryz.func152 (by kernel_rfl) (by kernel_rfl) (by kernel_rfl) h
def sx144 (x : Nat) (R : Ending → World → Prop) (w : World) : Prop :=
 Aa Tryz.prog 176 [.float .f64 x] w (RetR R fun u2 w1 => ∃ n3 n4, u2 = .tuple #[.int .i64 n3, .int .u64 n4] ∧ Aa Tryz.prog 145 [.float .f64 x] w1 (RetR R fun u7 w6 => ∃ n8, u7 = .int .u64 n8 ∧ Aa Tryz.prog 146 [.float .f64 x] w6 (RetR R fun u11 w10 => ∃ n12, u11 = .int .i64 n12 ∧ ifB (n12 == 5) (R (.returned (.int .i64 0)) w10) (ifB (decide (n3 < 1023)) (R (.returned (.int .i64 0)) w10) (ifB (decide (n3 ≥ 1086)) (ifB (decide (n8 ≥ 9223372036854775808)) (R (.returned (.int .i64 (-9223372036854775808))) w10) (R (.returned (.int .i64 9223372036854775807)) w10)) (∀ n14 : Int, n14 = IntKind.u64.wrap (n4 + 4503599627370496) → ifB (decide (n3 ≥ 1075)) (∀ n15 : Int, n15 = IntKind.i64.wrap (n3 - 1075) → 0 ≤ (IntKind.u64.wrap n15) ∧ ∀ n16 : Int, n16 = IntKind.u64.wrap (n14 * 2 ^ (min (IntKind.u64.wrap n15).toNat (IntKind.bits .u64))) → ifB (decide (n8 ≥ 9223372036854775808)) (R (.returned (.int .i64 (IntKind.i64.wrap (0 - (IntKind.i64.wrap n16))))) w10) (R (.returned (.int .i64 (IntKind.i64.wrap n16))) w10)) (∀ n17 : Int, n17 = IntKind.i64.wrap ((1075 : Int) - n3) → 0 ≤ (IntKind.u64.wrap n17) ∧ ∀ n18 : Int, n18 = Int.fdiv n14 (2 ^ (min (IntKind.u64.wrap n17).toNat (IntKind.bits .u64))) → ifB (decide (n8 ≥ 9223372036854775808)) (R (.returned (.int .i64 (IntKind.i64.wrap (0 - (IntKind.i64.wrap n18))))) w10) (R (.returned (.int .i64 (IntKind.i64.wrap n18))) w10))))))))
theorem sx144.ok {x : Nat} {R : Ending → World → Prop} {w : World} (h : sx144 x R w) : Aa Tryz.prog 144 [.float .f64 x] w R :=
 okOf { named := [26, 31, 33, 36, 38] } mix Tryz.func144 (by kernel_rfl) (by kernel_rfl) (by kernel_rfl) h
def sx150 (x : Nat) (R : Ending → World → Prop) (w : World) : Prop :=
 Aa Tryz.prog 176 [.float .f64 x] w (RetR R fun u2 w1 => ∃ n3 n4, u2 = .tuple #[.int .i64 n3, .int .u64 n4] ∧ Aa Tryz.prog 146 [.float .f64 x] w1 (RetR R fun u7 w6 => ∃ n8, u7 = .int .i64 n8 ∧ ifB (n8 == 1) (Aa Tryz.prog 128 [.float .f64 x] w6 (RetR R fun u11 w10 => ∃ x12, u11 = .float .f64 x12 ∧ R (.returned (.float .f64 x12)) w10)) (ifB (decide (n3 ≥ 1075)) (Aa Tryz.prog 128 [.float .f64 x] w6 (RetR R fun u15 w14 => ∃ x16, u15 = .float .f64 x16 ∧ R (.returned (.float .f64 x16)) w14)) (Aa Tryz.prog 144 [.float .f64 x] w6 (RetR R fun u19 w18 => ∃ n20, u19 = .int .i64 n20 ∧ SemW Tryz.prog (convert 2 41 (.int .i64 n20)) (fun u23 w22 => ∃ x24, u23 = .float .f64 x24 ∧ ∃ b25, Ao Tryz.prog (eqS .gtr 41 (.tmp 23) (.tmp 24) (.float .f64 x24) (.float .f64 x)) (.bool b25) ∧ ifB b25 (SemW Tryz.prog (eqS .sub 41 (.tmp 26) (.const (.float .f64 4607182418800017408)) (.float .f64 x24) (.float .f64 4607182418800017408)) (fun u27 w26 => ∃ x28, u27 = .float .f64 x28 ∧ R (.returned (.float .f64 x28)) w26) w22) (R (.returned (.float .f64 x24)) w22)) w18)))))
theorem sx150.ok {x : Nat} {R : Ending → World → Prop} {w : World} (h : sx150 x R w) : Aa Tryz.prog 150 [.float .f64 x] w R :=
 okOf { pureTo := [25], sem := [22, 27] } mix Tryz.func150 (by kernel_rfl) (by kernel_rfl) (by kernel_rfl) h
def sx151 (d : Nat) (i : Int) (R : Ending → World → Prop) (w : World) : Prop :=
  Aa Tryz.prog 146 [.float .f64 d] w (RetR R fun u2 w1 => ∃ n3, u2 = .int .i64 n3 ∧ ∃ J5 : World → Prop, (ifB (n3 != 2) (ifB (n3 != 3) (Aa Tryz.prog 128 [.float .f64 d] w1 (RetR R fun u7 w6 => ∃ x8, u7 = .float .f64 x8 ∧ R (.returned (.float .f64 x8)) w6)) (J5 w1)) (J5 w1)) ∧ ∀ w10, J5 w10 → ∃ J11 : Int → World → Prop, (ifB (decide (i > 5000)) (J11 5000 w10) (J11 i w10)) ∧ ∀ n12 w13, J11 n12 w13 → ∃ J14 : Int → World → Prop, (ifB (decide (n12 < (-5000))) (J14 (-5000) w13) (J14 n12 w13)) ∧ ∀ n15 w16, J14 n15 w16 → Aa Tryz.prog 176 [.float .f64 d] w16 (RetR R fun u18 w17 => ∃ n19 n20, u18 = .tuple #[.int .i64 n19, .int .u64 n20] ∧ ∃ J22 : Int → Int → World → Prop, (ifB (n3 == 3) (∀ n23 : Int, n23 = IntKind.u64.wrap (n20 + 4503599627370496) → J22 n19 n23 w17) (∃ (I24 : Int → Int → World → Prop) (m24 : Int → Int → World → Nat), I24 1 n20 w17 ∧ ∀ n25 n26 w27, I24 n25 n26 w27 → ifB (decide (n26 < 4503599627370496)) ((I24 (IntKind.i64.wrap (n25 - 1)) (IntKind.u64.wrap (n26 * 2)) w27 ∧ m24 (IntKind.i64.wrap (n25 - 1)) (IntKind.u64.wrap (n26 * 2)) w27 < m24 n25 n26 w27)) (J22 n25 n26 w27))) ∧ ∀ n28 n29 w30, J22 n28 n29 w30 → ∀ n31 : Int, n31 = IntKind.i64.wrap (n28 + n15) → Aa Tryz.prog 145 [.float .f64 d] w30 (RetR R fun u33 w32 => ∃ n34, u33 = .int .u64 n34 ∧ (((9223372036854775808 : Int) = 0 → R (.panicked (Bq Tryz.prog)) w32) ∧ ((9223372036854775808 : Int) ≠ 0 → ∀ n36 : Int, n36 = IntKind.u64.wrap (Int.tdiv n34 9223372036854775808) → ∀ n37 : Int, n37 = IntKind.u64.wrap (n36 * 9223372036854775808) → ifB (decide (n31 ≥ 2047)) (∀ n38 : Int, n38 = IntKind.u64.wrap (n37 + 9218868437227405312) → Aa Tryz.prog 147 [.int .u64 n38] w32 (RetR R fun u40 w39 => ∃ x41, u40 = .float .f64 x41 ∧ R (.returned (.float .f64 x41)) w39)) (ifB (decide (n31 ≥ 1)) (∀ n43 : Int, n43 = IntKind.u64.wrap (IntKind.i64.wrap (n31 - 1)) → 0 ≤ (52 : Int) ∧ ∀ n44 : Int, n44 = IntKind.u64.wrap (n43 * 2 ^ (min (52 : Int).toNat (IntKind.bits .u64))) → ∀ n45 : Int, n45 = IntKind.u64.wrap (n37 + n44) → ∀ n46 : Int, n46 = IntKind.u64.wrap (n45 + n29) → Aa Tryz.prog 147 [.int .u64 n46] w32 (RetR R fun u48 w47 => ∃ x49, u48 = .float .f64 x49 ∧ R (.returned (.float .f64 x49)) w47)) (∀ n51 : Int, n51 = IntKind.i64.wrap ((1 : Int) - n31) → ifB (decide ((IntKind.u64.wrap n51) > 54)) (Aa Tryz.prog 147 [.int .u64 n37] w32 (RetR R fun u53 w52 => ∃ x54, u53 = .float .f64 x54 ∧ R (.returned (.float .f64 x54)) w52)) (0 ≤ (IntKind.u64.wrap n51) ∧ ∀ n56 : Int, n56 = Int.fdiv n29 (2 ^ (min (IntKind.u64.wrap n51).toNat (IntKind.bits .u64))) → 0 ≤ (IntKind.u64.wrap n51) ∧ ∀ n57 : Int, n57 = IntKind.u64.wrap (n56 * 2 ^ (min (IntKind.u64.wrap n51).toNat (IntKind.bits .u64))) → ∀ n58 : Int, n58 = IntKind.u64.wrap (n29 - n57) → ∀ n59 : Int, n59 = IntKind.u64.wrap ((IntKind.u64.wrap n51) - 1) → 0 ≤ n59 ∧ ∀ n60 : Int, n60 = IntKind.u64.wrap ((1 : Int) * 2 ^ (min n59.toNat (IntKind.bits .u64))) → ifB (decide (n58 > n60)) (∀ n61 : Int, n61 = IntKind.u64.wrap (n37 + (IntKind.u64.wrap (n56 +
 1))) → Aa Tryz.prog 147 [.int .u64 n61] w32 (RetR R fun u63 w62 => ∃ x64, u63 = .float .f64 x64 ∧ R (.returned (.float .f64 x64)) w62)) (ifB (n58 == n60) ((((2 : Int) = 0 → R (.panicked (Bq Tryz.prog)) w32) ∧ ((2 : Int) ≠ 0 → ifB ((Int.tmod n56 2) == 1) (∀ n66 : Int, n66 = IntKind.u64.wrap (n37 + (IntKind.u64.wrap (n56 + 1))) → Aa Tryz.prog 147 [.int .u64 n66] w32 (RetR R fun u68 w67 => ∃ x69, u68 = .float .f64 x69 ∧ R (.returned (.float .f64 x69)) w67)) (∀ n71 : Int, n71 = IntKind.u64.wrap (n37 + n56) → Aa Tryz.prog 147 [.int .u64 n71] w32 (RetR R fun u73 w72 => ∃ x74, u73 = .float .f64 x74 ∧ R (.returned (.float .f64 x74)) w72))))) (∀ n76 : Int, n76 = IntKind.u64.wrap (n37 + n56) → Aa Tryz.prog 147 [.int .u64 n76] w32 (RetR R fun u78 w77 => ∃ x79, u78 = .float .f64 x79 ∧ R (.returned (.float .f64 x79)) w77)))))))))))
theorem sx151.ok {d : Nat} {i : Int} {R : Ending → World → Prop} {w : World} (h : sx151 d i R w) : Aa Tryz.prog 151 [.float .f64 d, .int .i64 i] w R :=
 okOf { named := [35, 44, 47, 48, 52, 59, 60, 61, 63, 66, 74, 78, 79, 81, 82, 100], loops := [(12, { slots := [(6, .int .i64), (7, .int .u64)], cells := [] })], cuts := [(4, { slots := [], cells := [] }), (6, { slots := [(1, .int .i64)], cells := [] }), (8, { slots := [(1, .int .i64)], cells := [] }), (15, { slots := [(6, .int .i64), (7, .int .u64)], cells := [] })] } mix Tryz.func151 (by kernel_rfl) (by kernel_rfl) (by kernel_rfl) h
theorem Gl {x : Nat} {w : World} : Aa Tryz.prog 145 [.float .f64 x] w (Rets fun v w' => v = .int .u64 (x : Int) ∧ w' = w) := by
 refine sx145.ok ?_
 unfold sx145
 refine Gc.use fun v w1 ⟨hv, hw⟩ => ?_
 subst hv; subst hw
 exact ⟨_, rfl, _, rfl, rfl, rfl⟩
theorem Gm {n : Int} {w : World} : Aa Tryz.prog 147 [.int .u64 n] w (Rets fun v w' => v = .float .f64 n.toNat ∧ w' = w) := by
 refine sx147.ok ?_
 unfold sx147
 refine Dm.use fun v w1 ⟨hv, hw⟩ => ?_
 subst hv; subst hw
 exact ⟨_, rfl, _, rfl, rfl, rfl⟩
theorem T4 {a : Nat} (ha : a < 18446744073709551616) : Go.bits .and .u64 (a : Int) 4503599627370495 = ((a % 4503599627370496 : Nat) : Int) ∧ Go.bits .and .u64 (a : Int) 2047 = ((a % 2048 : Nat) : Int) := by
 have h := fun (b : Nat) (hb : b < 2 ^ 64) => (bits_nat .u64 64 (by decide) (fun n h0 h1 => by rw [IntKind.wrap_u64]; omega) a b (by omega) hb).1
 constructor
 ·rw [show (4503599627370495 : Int) = ((4503599627370495 : Nat) : Int) from rfl, h _ (by decide), show (4503599627370495 : Nat) = 2 ^ 52 - 1 from by decide, Nat.and_two_pow_sub_one_eq_mod]
 ·rw [show (2047 : Int) = ((2047 : Nat) : Int) from rfl, h _ (by decide), show (2047 : Nat) = 2 ^ 11 - 1 from by decide, Nat.and_two_pow_sub_one_eq_mod]
theorem Lp {x : Nat} {w : World} (hx : x < FL) : Aa Tryz.prog 176 [.float .f64 x] w (Rets fun v w' => v = .tuple #[.int .i64 (expN x), .int .u64 (Ap x)] ∧ w' = w) := by
 refine sx176.ok ?_
 unfold sx176
 refine Gl.use fun v w1 ⟨hv, hw⟩ => ?_
 subst hv; subst hw
 refine ⟨_, rfl, by decide, fun n5 h5 n6 h6 n7 h7 => ⟨_, rfl, ?_, rfl⟩⟩
 have e5 : n5 = ((x / 4503599627370496 : Nat) : Int) := by
  rw [h5, show (2 : Int) ^ (min (52 : Int).toNat (IntKind.bits .u64)) = ((4503599627370496 : Nat) : Int) from by decide, Int.fdiv_eq_ediv_of_nonneg _ (by omega)]; rfl
 have e6 : n6 = (expN x : Int) := by
  have hx' : x < 18446744073709551616 := hx
  rw [h6, e5, (T4 (by omega)).2, IntKind.wrap_i64]
  show ((((expN x : Nat) : Int) + _) % _ - _) = _
  have := F0 x
  omega
 rw [h7, (T4 hx).1, e6]; rfl
def De (x : Nat) : Int := if expN x = 2047 then (if Ap x ≠ 0 then 5 else 4) else if expN x ≠ 0 then 3 else if Ap x ≠ 0 then 2 else 1
theorem Jf {x : Nat} {w : World} (hx : x < FL) : Aa Tryz.prog 146 [.float .f64 x] w (Rets fun v w' => v = .int .i64 (De x) ∧ w' = w) := by
 refine sx146.ok ?_
 unfold sx146
 refine (Lp hx).use fun v w1 ⟨hv, hw⟩ => ?_
 subst hv; subst hw
 have fin : ∀ n : Int, n = De x → Rets (fun v w' => v = Value.int .i64 (De x) ∧ w' = w1) (.returned (.int .i64 n)) w1 := fun n h => ⟨_, rfl, by rw [h], rfl⟩
 have last : ∀ (h : ((expN x : Int) == 2047) = false),
  (((((expN x : Int) == 2047) = true → Rets (fun v w' => v = Value.int .i64 (De x) ∧ w' = w1) (.returned (.int .i64 4)) w1) ∧ (((expN x : Int) == 2047) = false → ((((expN x : Int) != 0) = true → Rets (fun v w' => v = Value.int .i64 (De x) ∧ w' = w1) (.returned (.int .i64 3)) w1) ∧ (((expN x : Int) != 0) = false → ((((Ap x : Int) != 0) = true → Rets (fun v w' => v = Value.int .i64 (De x) ∧ w' = w1) (.returned (.int .i64 2)) w1) ∧ (((Ap x : Int) != 0) = false → Rets (fun v w' => v = Value.int .i64 (De x) ∧ w' = w1) (.returned (.int .i64 1)) w1))))))) := by
  intro h
  refine ⟨fun h' => (by rw [h] at h'; cases h'), fun _ => ⟨fun h2 => fin _ ?_, fun h2 => ⟨fun h3 => fin _ ?_, fun h3 => fin _ ?_⟩⟩⟩
  all_goals simp only [beq_eq_false_iff_ne, bne_iff_ne, bne_eq_false_iff_eq, ne_eq] at *
  all_goals unfold De
  ·rw [if_neg (by omega), if_pos (by omega)]
  ·rw [if_neg (by omega), if_neg (by omega), if_pos (by omega)]
  ·rw [if_neg (by omega), if_neg (by omega), if_neg (by omega)]
 refine ⟨_, _, rfl, fun h => ⟨fun h2 => fin _ ?_, fun h2 => ⟨fun _ => fin _ ?_, fun h' => (by rw [h] at h'; cases h')⟩⟩, last⟩
 ·simp only [beq_iff_eq, bne_iff_ne, ne_eq] at h h2
  unfold De; rw [if_pos (by omega), if_pos (by omega)]
 ·simp only [beq_iff_eq, bne_eq_false_iff_eq] at h h2
  unfold De; rw [if_pos (by omega), if_neg (by omega)]
theorem Pw (x : Nat) : (De x == 5) = nanB x := by
 rw [Er]; unfold De
 rw [Bool.eq_iff_iff, beq_iff_eq, decide_eq_true_eq]
 repeat' split
 all_goals omega
theorem Cs {x : Nat} {w : World} (hx : x < FL) : Aa Tryz.prog 128 [.float .f64 x] w (Rets fun v w' => v = .float .f64 (Al x) ∧ w' = w) := by
 refine sx128.ok ?_
 unfold sx128
 refine (Jf hx).use fun v w1 ⟨hv, hw⟩ => ?_
 subst hv; subst hw
 refine ⟨_, rfl, fun h => Gm.use fun v w1 ⟨hv, hw⟩ => ?_, fun h => ⟨_, rfl, ?_, rfl⟩⟩
 ·subst hv; subst hw
  rw [Pw] at h
  exact ⟨_, rfl, _, rfl, by rw [E2 h]; rfl, rfl⟩
 ·rw [Pw] at h
  rw [Dl h]
theorem Aev {n : Int} {w : World} : Aa Tryz.prog 152 [.int .i64 n] w (Rets fun v w' => v = .float .f64 (numOf n) ∧ w' = w) := by
 refine sx152.ok ?_
 unfold sx152
 exact Eb (v := .float .f64 (numOf n)) (fun w => run_convert_int_float w _ _ .i64 .f64 n (by kernel_rfl) (by kernel_rfl)) ⟨_, rfl, _, rfl, rfl, rfl⟩
theorem Px {j : Nat} : (2 : Int) ^ j = ((2 ^ j : Nat) : Int) := by rw [Int.natCast_pow]; rfl
theorem Q5 {a : Int} {j : Nat} (h : a = (j : Int)) (hj : j ≤ 64) : min a.toNat (IntKind.bits .u64) = j := by rw [h, Int.toNat_natCast]; exact Nat.min_eq_left hj
theorem Lq {k : Nat} (h : k < 9223372036854775808) : IntKind.i64.wrap (k : Int) = (k : Int) := by rw [IntKind.wrap_i64]; omega
theorem Hq {k : Nat} (h : k < 18446744073709551616) : IntKind.u64.wrap (k : Int) = (k : Int) := by rw [IntKind.wrap_u64]; omega
theorem T5 {k : Nat} (h : k < 9223372036854775808) : IntKind.i64.wrap (0 - IntKind.i64.wrap (k : Int)) = -(k : Int) := by
 rw [Lq h, IntKind.wrap_i64]; omega
theorem Aej {j : Nat} (h : j ≤ 10) : (2 : Nat) ^ j ≤ 1024 := Nat.pow_le_pow_right (by decide) h
theorem Mm {x : Nat} {w : World} (hx : x < FL) : Aa Tryz.prog 144 [.float .f64 x] w (Rets fun v w' => v = .int .i64 (By x) ∧ w' = w) := by
 refine sx144.ok ?_
 unfold sx144
 refine (Lp hx).use fun v w1 ⟨hv, hw⟩ => ?_
 subst hv; subst hw
 refine ⟨_, _, rfl, Gl.use fun v w1 ⟨hv, hw⟩ => ?_⟩
 subst hv; subst hw
 refine ⟨_, rfl, (Jf hx).use fun v w1 ⟨hv, hw⟩ => ?_⟩
 subst hv; subst hw
 have hE := F0 x
 have hf := B9 x
 have fin : ∀ n : Int, n = By x → Rets (fun v w' => v = Value.int .i64 (By x) ∧ w' = w1) (.returned (.int .i64 n)) w1 := fun n h => ⟨_, rfl, by rw [h], rfl⟩
 have hw := M5 x
 have hneg := Iz hx
 refine ⟨_, rfl, fun h => fin _ ?_, fun h0 => ⟨fun h => fin _ ?_, fun h1 => ⟨fun h => ⟨fun h2 => fin _ ?_, fun h2 => fin _ ?_⟩, fun h2 n14 h14 => ⟨fun h3 n15 h15 => ⟨?_, fun n16 h16 => ⟨fun h4 => fin _ ?_, fun h4 => fin _ ?_⟩⟩, fun h3 n17 h17 => ⟨?_, fun n18 h18 => ⟨fun h4 => fin _ ?_, fun h4 => fin _ ?_⟩⟩⟩⟩⟩⟩
 all_goals simp only [Pw, Er, decide_eq_true_eq, decide_eq_false_iff_not] at *
 ·rw [hw, if_pos h]
 ·rw [hw, if_neg h0, if_neg (by omega)]
  have hz : Dn x = 0 := by
   unfold Dn; rw [if_neg (by omega)]
   have hp : 53 ≤ (-plN x).toNat := by unfold plN; split <;> omega
   have h1 : (2 : Nat) ^ 53 ≤ 2 ^ (-plN x).toNat := Nat.pow_le_pow_right (by decide) hp
   have h2 : (2 : Nat) ^ 53 = 9007199254740992 := by decide
   have h3 := H1 x
   exact Nat.div_eq_of_lt (by omega)
  rw [hz]; split <;> rfl
 ·rw [hw, if_neg h0, if_pos (by omega), hneg, if_pos (by rw [decide_eq_true_eq]; omega)]
 ·rw [hw, if_neg h0, if_pos (by omega), hneg, if_neg (by rw [decide_eq_true_eq]; omega)]
 ·rw [IntKind.wrap_u64]; omega
 ·have hj : (2 : Nat) ^ (expN x - 1075) ≤ 1024 := Aej (by omega)
  have e14 : n14 = ((4503599627370496 + Ap x : Nat) : Int) := by rw [h14, IntKind.wrap_u64]; omega
  have e15 : (min (IntKind.u64.wrap n15).toNat (IntKind.bits .u64)) = expN x - 1075 := Q5 (by rw [h15, IntKind.wrap_u64, IntKind.wrap_i64]; omega) (by omega)
  have hN : Dn x = (4503599627370496 + Ap x) * 2 ^ (expN x - 1075) := by unfold Dn magN; rw [if_pos (by omega), if_neg (by omega)]
  have hlt : (4503599627370496 + Ap x) * 2 ^ (expN x - 1075) ≤ (4503599627370496 + Ap x) * 1024 := Nat.mul_le_mul_left _ hj
  rw [h16, e15, e14, Px, ← Int.natCast_mul, ← hN]
  rw [← hN] at hlt
  rw [hw, if_neg h0, if_neg (by omega), hneg, if_pos (by rw [decide_eq_true_eq]; omega), Hq (by omega), T5 (by omega)]
 ·have hj : (2 : Nat) ^ (expN x - 1075) ≤ 1024 := Aej (by omega)
  have e14 : n14 = ((4503599627370496 + Ap x : Nat) : Int) := by rw [h14, IntKind.wrap_u64]; omega
  have e15 : (min (IntKind.u64.wrap n15).toNat (IntKind.bits .u64)) = expN x - 1075 := Q5 (by rw [h15, IntKind.wrap_u64, IntKind.wrap_i64]; omega) (by omega)
  have hN : Dn x = (4503599627370496 + Ap x) * 2 ^ (expN x - 1075) := by unfold Dn magN; rw [if_pos (by omega), if_neg (by omega)]
  have hlt : (4503599627370496 + Ap x) * 2 ^ (expN x - 1075) ≤ (4503599627370496 + Ap x) * 1024 := Nat.mul_le_mul_left _ hj
  rw [h16, e15, e14, Px, ← Int.natCast_mul, ← hN]
  rw [← hN] at hlt
  rw [hw, if_neg h0, if_neg (by omega), hneg, if_neg (by rw [decide_eq_true_eq]; omega), Hq (by omega), Lq (by omega)]
 ·rw [IntKind.wrap_u64]; omega
 ·have e14 : n14 = ((4503599627370496 + Ap x : Nat) : Int) := by rw [h14, IntKind.wrap_u64]; omega
  have e17 : (min (IntKind.u64.wrap n17).toNat (IntKind.bits .u64)) = 1075 - expN x := Q5 (by rw [h17, IntKind.wrap_u64, IntKind.wrap_i64]; omega) (by omega)
  have hN : Dn x = (4503599627370496 + Ap x) / 2 ^ (1075 - expN x) := by
   unfold Dn magN plN; rw [if_neg (by omega), if_neg (by omega), if_neg (by omega), show (-((expN x : Int) - 1075)).toNat = 1075 - expN x from by omega]
  have hle : (4503599627370496 + Ap x) / 2 ^ (1075 - expN x) ≤ 4503599627370496 + Ap x := Nat.div_le_self _ _
  rw [h18, e17, e14, Px, Int.fdiv_eq_ediv_of_nonneg _ (Int.natCast_nonneg _), ← Int.natCast_ediv, ← hN]
  rw [← hN] at hle
  rw [hw, if_neg h0, if_neg (by omega), hneg, if_pos (by rw [decide_eq_true_eq]; omega), T5 (by omega)]
 ·have e14 : n14 = ((4503599627370496 + Ap x : Nat) : Int) := by rw [h14, IntKind.wrap_u64]; omega
  have e17 : (min (IntKind.u64.wrap n17).toNat (IntKind.bits .u64)) = 1075 - expN x := Q5 (by rw [h17, IntKind.wrap_u64, IntKind.wrap_i64]; omega) (by omega)
  have hN : Dn x = (4503599627370496 + Ap x) / 2 ^ (1075 - expN x) := by
   unfold Dn magN plN; rw [if_neg (by omega), if_neg (by omega), if_neg (by omega), show (-((expN x : Int) - 1075)).toNat = 1075 - expN x from by omega]
  have hle : (4503599627370496 + Ap x) / 2 ^ (1075 - expN x) ≤ 4503599627370496 + Ap x := Nat.div_le_self _ _
  rw [h18, e17, e14, Px, Int.fdiv_eq_ediv_of_nonneg _ (Int.natCast_nonneg _), ← Int.natCast_ediv, ← hN]
  rw [← hN] at hle
  rw [hw, if_neg h0, if_neg (by omega), hneg, if_neg (by rw [decide_eq_true_eq]; omega), Lq (by omega)]
theorem Yr {x : Nat} {w : World} (hx : x < FL) : Aa Tryz.prog 150 [.float .f64 x] w (Rets fun v w' => v = .float .f64 (Da x) ∧ Grew w w') := by
 refine sx150.ok ?_
 unfold sx150
 refine (Lp hx).use fun v w1 ⟨hv, hw⟩ => ?_
 subst hv; subst hw
 refine ⟨_, _, rfl, (Jf hx).use fun v w1 ⟨hv, hw⟩ => ?_⟩
 subst hv; subst hw
 refine ⟨_, rfl, fun h => (Cs hx).use fun v w1 ⟨hv, hw⟩ => ?_, fun h0 => ⟨fun h => (Cs hx).use fun v w1 ⟨hv, hw⟩ => ?_, fun h1 => (Mm hx).use fun v w1 ⟨hv, hw⟩ => ?_⟩⟩
 ·subst hv; subst hw
  refine ⟨_, rfl, _, rfl, ?_, Grew.refl _⟩
  rw [M6 hx (.inl ?_)]
  simp only [beq_iff_eq] at h
  unfold De at h
  repeat' split at h
  all_goals first | omega | exact ⟨by omega, by omega⟩
 ·subst hv; subst hw
  simp only [decide_eq_true_eq] at h
  exact ⟨_, rfl, _, rfl, by rw [M6 hx (.inr (by omega))], Grew.refl _⟩
 ·subst hv; subst hw
  simp only [decide_eq_false_iff_not, beq_eq_false_iff_ne, ne_eq] at h0 h1
  have hnz : ¬(expN x = 0 ∧ Ap x = 0) := by
   rintro ⟨a, b⟩
   apply h0
   unfold De
   rw [if_neg (by omega), if_neg (by omega), if_neg (by omega)]
  obtain ⟨p1, p2, p3⟩ := U2 hx hnz (by omega)
  refine ⟨_, rfl, Eb (v := .float .f64 (numOf (By x))) (fun w => run_convert_int_float w _ _ .i64 .f64 _ (by kernel_rfl) (by kernel_rfl)) ⟨_, rfl, _, H0, fun hb => ?_, fun hb => ⟨_, rfl, ?_, Grew.refl _⟩⟩⟩
  ·rw [p1] at hb
   refine Ee (.inr (.inl rfl)) fun r w2 hg hr => ?_
   have e : floatBits .sub .f64 (numOf (By x)) 4607182418800017408 = some (Da x) := p3 hb
   rw [e] at hr
   rcases hr with hr | ⟨hr, -⟩
   ·cases hr
    exact ⟨_, rfl, _, rfl, rfl, hg⟩
   ·cases hr
  ·rw [p1] at hb
   rw [p2 hb]
theorem Ys {x r : Nat} (hx : x < FL) (hr : r ≤ 9218868437227405312) {n : Int} (hn : n = ((x / 9223372036854775808 * 9223372036854775808 + r : Nat) : Int)) : n.toNat = Ieee.double.word (negB x) r := by
 have hx' : x < 18446744073709551616 := hx
 rw [hn, Int.toNat_natCast, Db, Iz hx]
 by_cases h : 9223372036854775808 ≤ x
 ·rw [if_pos (by rw [decide_eq_true_eq]; exact h)]; omega
 ·rw [if_neg (by rw [decide_eq_true_eq]; exact h)]; omega
theorem Adw {x r : Nat} (hx : x < FL) (hr : r ≤ 9218868437227405312) {n : Int} (hn : n = ((x / 9223372036854775808 * 9223372036854775808 + r : Nat) : Int)) : n.toNat < FL := by
 have hx' : x < 18446744073709551616 := hx
 show n.toNat < 18446744073709551616
 rw [hn, Int.toNat_natCast]; omega
theorem Abz {m d : Nat} (hd : 1 ≤ d) : (2 ^ (d - 1) < m % 2 ^ d → cutE m d = m / 2 ^ d + 1) ∧ (m % 2 ^ d = 2 ^ (d - 1) → m / 2 ^ d % 2 = 1 → cutE m d = m / 2 ^ d + 1) ∧ (m % 2 ^ d = 2 ^ (d - 1) → m / 2 ^ d % 2 ≠ 1 → cutE m d = m / 2 ^ d) ∧ (m % 2 ^ d < 2 ^ (d - 1) → cutE m d = m / 2 ^ d) := by
 have e : (2 : Nat) ^ d = 2 * 2 ^ (d - 1) := by rw [← Nat.pow_succ']; congr 1; omega
 unfold cutE
 generalize (2 : Nat) ^ d = q at e
 generalize (2 : Nat) ^ (d - 1) = h at e
 refine ⟨fun h1 => ?_, fun h1 h2 => ?_, fun h1 h2 => ?_, fun h1 => ?_⟩
 ·rw [decide_eq_true (by omega)]; rfl
 ·rw [h1, show (q == 2 * h) = true from by rw [beq_iff_eq]; omega, h2]; simp
 ·rw [h1, show (m / q % 2 == 1) = false from by rw [beq_eq_false_iff_ne]; exact h2, decide_eq_false (by omega)]; simp
 ·rw [decide_eq_false (by omega), show (q == 2 * (m % q)) = false from by rw [beq_eq_false_iff_ne]; omega]; rfl
theorem Adx {m d : Nat} (hm : m < 9007199254740992) (hd : 1 ≤ d) : cutE m d ≤ 9218868437227405312 ∧ m / 2 ^ d < 9007199254740992 := by
 have h3 := Nat.div_le_self m (2 ^ d)
 have := fun b => Bool.toNat_le b
 unfold cutE
 constructor
 ·have h4 := Bool.toNat_le (decide (2 ^ d < 2 * (m % 2 ^ d)) || (2 ^ d == 2 * (m % 2 ^ d) && m / 2 ^ d % 2 == 1))
  omega
 ·omega
theorem Yt {x : Nat} {n : Int} {w : World} (hx : x < FL) : Aa Tryz.prog 151 [.float .f64 x, .int .i64 n] w (Rets fun v w' => ∃ y, v = .float .f64 y ∧ Al y = Iw x n ∧ y < FL ∧ Grew w w') := by
 refine sx151.ok ?_
 unfold sx151
 rw [Xr hx]
 have hx' : x < 18446744073709551616 := hx
 have hE := F0 x
 have hf := B9 x
 refine (Jf hx).use fun v w1 ⟨hv, hw⟩ => ?_
 subst hv; subst hw
 refine ⟨_, rfl, fun w' => w' = w1 ∧ (De x = 2 ∨ De x = 3), ⟨fun h2 => ⟨fun h3 => ?_, fun h3 => ⟨rfl, .inr ?_⟩⟩, fun h2 => ⟨rfl, .inl ?_⟩⟩, ?_⟩
 ·refine (Cs hx).use fun v w1 ⟨hv, hw⟩ => ?_
  subst hv; subst hw
  refine ⟨_, rfl, _, rfl, _, rfl, ?_, B6 hx, Grew.refl _⟩
  rw [Le, I0]
  simp only [bne_iff_ne, ne_eq] at h2 h3
  rw [Er, Gv]
  unfold De at h2 h3
  have hrung := Cw x
  by_cases hE2 : expN x = 2047
  ·by_cases hF : Ap x = 0
   ·rw [decide_eq_true (show expN x = 2047 ∧ Ap x = 0 from ⟨hE2, hF⟩)]; simp
   ·rw [decide_eq_true (show expN x = 2047 ∧ Ap x ≠ 0 from ⟨hE2, hF⟩)]; simp
  ·rw [if_neg hE2] at h2 h3
   by_cases hE0 : expN x ≠ 0
   ·rw [if_pos hE0] at h3; exact absurd rfl h3
   ·rw [if_neg hE0] at h2
    by_cases hF : Ap x ≠ 0
    ·rw [if_pos hF] at h2; exact absurd rfl h2
    ·rw [decide_eq_true (show x % 9223372036854775808 = 0 by omega)]; simp
 ·simpa using h3
 ·simpa using h2
 rintro w2 ⟨hw, hcl⟩
 subst hw
 have hk := Qn n
 have hclN : G5 n = if (if n > 5000 then 5000 else n) < -5000 then -5000 else (if n > 5000 then 5000 else n) := by
  unfold G5; repeat' split <;> try omega
 refine ⟨fun m w' => m = (if n > 5000 then 5000 else n) ∧ w' = w2, ⟨fun h => ⟨?_, rfl⟩, fun h => ⟨?_, rfl⟩⟩, ?_⟩
 ·simp only [decide_eq_true_eq] at h; rw [if_pos h]
 ·simp only [decide_eq_false_iff_not] at h; rw [if_neg h]
 rintro m w3 ⟨rfl, hw⟩
 subst hw
 refine ⟨fun m w' => m = G5 n ∧ w' = w3, ⟨fun h => ⟨?_, rfl⟩, fun h => ⟨?_, rfl⟩⟩, ?_⟩
 ·simp only [decide_eq_true_eq] at h; rw [hclN, if_pos h]
 ·simp only [decide_eq_false_iff_not] at h; rw [hclN, if_neg h]
 rintro m w4 ⟨rfl, hw⟩
 subst hw
 generalize G5 n = k at hk ⊢
 clear hclN
 refine (Lp hx).use fun v w1 ⟨hv, hw⟩ => ?_
 subst hv; subst hw
 have hnum : expN x < 2047 ∧ (x % 9223372036854775808 ≠ 0) ∧ (De x = 3 ↔ expN x ≠ 0) := by
  have hrung := Cw x
  unfold De at hcl ⊢
  by_cases hE2 : expN x = 2047
  ·rw [if_pos hE2] at hcl
   by_cases hF : Ap x ≠ 0
   ·rw [if_pos hF] at hcl; omega
   ·rw [if_neg hF] at hcl; omega
  ·rw [if_neg hE2] at hcl ⊢
   by_cases hE0 : expN x ≠ 0
   ·rw [if_pos hE0]; exact ⟨by omega, by omega, by simp [hE0]⟩
   ·rw [if_neg hE0] at hcl ⊢
    by_cases hF : Ap x ≠ 0
    ·rw [if_pos hF]; exact ⟨by omega, by omega, by simp [hE0]⟩
    ·rw [if_neg hF] at hcl; omega
 obtain ⟨hE1, hnz, h3iff⟩ := hnum
 have hS : L9 x k = Cn (negB x) (magN x) (plN x + k) := by
  apply Oo
  rw [Er, Gv, decide_eq_false (by omega), decide_eq_false (by omega), decide_eq_false hnz]; rfl
 rw [hS]
 refine ⟨_, _, rfl, fun e m w' => ∃ M : Nat, m = M ∧ 4503599627370496 ≤ M ∧ M < 9007199254740992 ∧ (-60 ≤ e ∧ e ≤ 2046) ∧ (Cn (negB x) (magN x) (plN x + k) = Cn (negB x) M (e + k - 1075)) ∧ w' = w1, ⟨fun h n23 h23 => ?_, fun h => ?_⟩, ?_⟩
 ·have hc : expN x ≠ 0 := h3iff.1 (by simpa using h)
  have hm : magN x = 4503599627370496 + Ap x := by unfold magN; rw [if_neg hc]
  have hp : plN x = (expN x : Int) - 1075 := by unfold plN; rw [if_neg hc]
  refine ⟨magN x, ?_, by omega, H1 x, ⟨by omega, by omega⟩, ?_, rfl⟩
  ·rw [h23, hm, IntKind.wrap_u64]; omega
  ·rw [hp]; congr 1; omega
 ·have hc : expN x = 0 := Decidable.byContradiction fun hc => by rw [h3iff.2 hc] at h; cases h
  have hm : magN x = Ap x := by unfold magN; rw [if_pos hc]
  have hp : plN x = -1074 := by unfold plN; rw [if_pos hc]
  have hrung := Cw x
  refine ⟨fun e m w' => ∃ j M : Nat, m = M ∧ e = 1 - (j : Int) ∧ M = magN x * 2 ^ j ∧ j ≤ 52 ∧ 1 ≤ M ∧ 2 ^ j ≤ M ∧ M < 9007199254740992 ∧ w' = w1, fun _ m _ => 9007199254740992 - m.toNat, ⟨0, magN x, by rw [hm], rfl, by omega, by omega, by omega, by rw [Nat.pow_zero]; omega, H1 x, rfl⟩, ?_⟩
  rintro e m w5 ⟨j, M, rfl, rfl, hM, hj, h1, hjM, h2, hw⟩
  subst hw
  refine ⟨fun hlt => ?_, fun hge => ?_⟩
  ·simp only [decide_eq_true_eq] at hlt
   have hj' : j < 52 := by
    have : (2 : Nat) ^ j < 2 ^ 52 := by
     have : (2 : Nat) ^ 52 = 4503599627370496 := by decide
     omega
    exact (Nat.pow_lt_pow_iff_right (by decide)).1 this
   have e1 : IntKind.i64.wrap (1 - (j : Int) - 1) = 1 - ((j + 1 : Nat) : Int) := by rw [IntKind.wrap_i64]; omega
   have e2 : IntKind.u64.wrap ((M : Int) * 2) = ((M * 2 : Nat) : Int) := by rw [IntKind.wrap_u64]; omega
   rw [e1, e2]
   refine ⟨⟨j + 1, M * 2, rfl, rfl, by rw [hM, Nat.pow_succ, Nat.mul_assoc], by omega, by omega, by rw [Nat.pow_succ]; omega, by omega, rfl⟩, ?_⟩
   show 9007199254740992 - (((M * 2 : Nat) : Int)).toNat < 9007199254740992 - ((M : Int)).toNat
   omega
  ·simp only [decide_eq_false_iff_not] at hge
   refine ⟨M, rfl, by omega, h2, ⟨by omega, by omega⟩, ?_, rfl⟩
   rw [hp, hM]
   have := C5 (negB x) (magN x) (-1074 + k) j
   rw [← this]; congr 1; omega
 rintro e m w5 ⟨M, rfl, hM1, hM2, he, hN, hw⟩
 subst hw
 rw [hN]
 intro n31 h31
 have h31' : n31 = e + k := by rw [h31, IntKind.wrap_i64]; omega
 rw [← h31']
 generalize hR : Cn (negB x) M (n31 - 1075) = R
 rw [Fh hM1 hM2] at hR
 have hRn : Al R = R := by
  rw [← hR, ← Fh hM1 hM2]; exact Dl (Lh _ _ _)
 refine Gl.use fun v w1 ⟨hv, hw⟩ => ?_
 subst hv; subst hw
 refine ⟨_, rfl, fun h => (by cases h), fun _ n36 h36 n37 h37 => ?_⟩
 have e37 : n37 = ((x / 9223372036854775808 * 9223372036854775808 : Nat) : Int) := by
  have : Int.tdiv (x : Int) 9223372036854775808 = ((x / 9223372036854775808 : Nat) : Int) := by rw [Int.tdiv_eq_ediv_of_nonneg (by omega)]; rfl
  rw [h37, h36, this, Hq (by omega), IntKind.wrap_u64]; omega
 have fin : ∀ (r : Nat) (nn : Int), r ≤ 9218868437227405312 → nn = ((x / 9223372036854775808 * 9223372036854775808 + r : Nat) : Int) → Ieee.double.word (negB x) r = R →
   Aa Tryz.prog 147 [.int .u64 nn] w1 (RetR (Rets fun v w' => ∃ y, v = .float .f64 y ∧ Al y = R ∧ y < FL ∧ Grew w1 w') fun u40 w39 => ∃ (x41 : Nat), u40 = .float .f64 x41 ∧ (Rets fun v w' => ∃ y, v = .float .f64 y ∧ Al y = R ∧ y < FL ∧ Grew w1 w') (.returned (.float .f64 x41)) w39) := by
  intro r nn hr hnn hw
  have e := Ys hx hr hnn
  refine Gm.use fun v w2 ⟨hv, hw2⟩ => ?_
  subst hv; subst hw2
  refine ⟨_, rfl, _, rfl, _, rfl, by rw [e, hw, hRn], ?_, Grew.refl _⟩
  exact Adw hx hr hnn
 refine ⟨fun h n38 h38 => ?_, fun h0 => ⟨fun h n43 h43 => ⟨by decide, fun n44 h44 n45 h45 n46 h46 => ?_⟩, fun h1 n51 h51 => ?_⟩⟩
 ·simp only [decide_eq_true_eq, ge_iff_le] at h
  refine fin 9218868437227405312 _ (Nat.le_refl _) ?_ (by rw [← hR, if_pos h])
  rw [h38, e37, IntKind.wrap_u64]; omega
 ·simp only [decide_eq_true_eq, decide_eq_false_iff_not, ge_iff_le] at h h0
  refine fin ((n31 - 1).toNat * 4503599627370496 + M) _ (by omega) ?_ (by rw [← hR, if_neg h0, if_pos h])
  have e43 : n43 = (((n31 - 1).toNat : Nat) : Int) := by rw [h43, IntKind.wrap_i64, IntKind.wrap_u64]; omega
  have e44 : n44 = (((n31 - 1).toNat * 4503599627370496 : Nat) : Int) := by
   rw [h44, e43, show (2 : Int) ^ (min (52 : Int).toNat (IntKind.bits .u64)) = 4503599627370496 from by decide, IntKind.wrap_u64]; omega
  have e45 : n45 = ((x / 9223372036854775808 * 9223372036854775808 + (n31 - 1).toNat * 4503599627370496 : Nat) : Int) := by
   rw [h45, e44, e37, IntKind.wrap_u64]; omega
  rw [h46, e45, IntKind.wrap_u64]; omega
 ·simp only [decide_eq_false_iff_not, ge_iff_le] at h0 h1
  rw [if_neg h0, if_neg h1] at hR
  obtain ⟨d, hd⟩ : ∃ d : Nat, (1 - n31).toNat = d := ⟨_, rfl⟩
  have hd1 : 1 ≤ d := by omega
  have e51 : IntKind.u64.wrap n51 = (d : Int) := by rw [h51, IntKind.wrap_i64, IntKind.wrap_u64]; omega
  rw [hd] at hR
  rw [e51]
  refine ⟨fun h => ?_, fun h => ⟨by omega, fun n56 h56 => ⟨by omega, fun n57 h57 n58 h58 n59 h59 => ?_⟩⟩⟩
  ·simp only [decide_eq_true_eq, gt_iff_lt] at h
   refine fin 0 _ (by omega) (by rw [e37, Nat.add_zero]) ?_
   rw [← hR, Ql hM2 (by omega)]
  ·simp only [decide_eq_false_iff_not, gt_iff_lt] at h
   have hmin : min ((d : Int)).toNat (IntKind.bits .u64) = d := Q5 rfl (by omega)
   have e56 : n56 = ((M / 2 ^ d : Nat) : Int) := by
    rw [h56, hmin, Px, Int.fdiv_eq_ediv_of_nonneg _ (Int.natCast_nonneg _), ← Int.natCast_ediv]
   have hdm := Nat.div_add_mod M (2 ^ d)
   obtain ⟨hc1, hc2⟩ := Adx hM2 hd1
   have hpos := Nat.two_pow_pos d
   have hmod : M % 2 ^ d < 2 ^ d := Nat.mod_lt _ hpos
   have e57 : n57 = ((2 ^ d * (M / 2 ^ d) : Nat) : Int) := by
    rw [h57, hmin, e56, Px, ← Int.natCast_mul, Nat.mul_comm, Hq (by omega)]
   have e58 : n58 = ((M % 2 ^ d : Nat) : Int) := by
    rw [h58, e57]
    generalize 2 ^ d * (M / 2 ^ d) = A at hdm ⊢
    generalize M % 2 ^ d = B at hdm ⊢
    rw [IntKind.wrap_u64]; omega
   have e59 : n59 = ((d - 1 : Nat) : Int) := by rw [h59, IntKind.wrap_u64]; omega
   have hq : (2 : Nat) ^ (d - 1) ≤ 2 ^ 53 := Nat.pow_le_pow_right (by decide) (by omega)
   have hq53 : (2 : Nat) ^ 53 = 9007199254740992 := by decide
   refine ⟨by omega, fun n60 h60 => ?_⟩
   have e60 : n60 = ((2 ^ (d - 1) : Nat) : Int) := by
    rw [h60, Q5 e59 (by omega), Int.one_mul, Px, Hq (by omega)]
   obtain ⟨c1, c2, c3, c4⟩ := Abz (m := M) hd1
   have up : ∀ nn : Int, nn = IntKind.u64.wrap (n37 + IntKind.u64.wrap (n56 + 1)) → nn = ((x / 9223372036854775808 * 9223372036854775808 + (M / 2 ^ d + 1) : Nat) : Int) := by
    intro nn hnn
    rw [hnn, e56, e37]
    generalize M / 2 ^ d = Q at hc2 ⊢
    rw [IntKind.wrap_u64, IntKind.wrap_u64]; omega
   have dn : ∀ nn : Int, nn = IntKind.u64.wrap (n37 + n56) → nn = ((x / 9223372036854775808 * 9223372036854775808 + M / 2 ^ d : Nat) : Int) := by
    intro nn hnn
    rw [hnn, e56, e37]
    generalize M / 2 ^ d = Q at hc2 ⊢
    rw [IntKind.wrap_u64]; omega
   rw [e58, e60]
   refine ⟨fun h => fun n61 h61 => ?_, fun h => ⟨fun h2 => ⟨fun h => (by cases h), fun _ => ⟨fun h3 n66 h66 => ?_, fun h3 n71 h71 => ?_⟩⟩, fun h2 n76 h76 => ?_⟩⟩
   ·simp only [decide_eq_true_eq, gt_iff_lt] at h
    have := c1 (by exact_mod_cast h)
    exact fin _ _ (by rw [this] at hc1; exact hc1) (up _ h61) (by rw [← hR, this])
   ·simp only [beq_iff_eq] at h2 h3
    have h3' : M / 2 ^ d % 2 = 1 := by
     rw [e56, Int.tmod_eq_emod_of_nonneg (Int.natCast_nonneg _)] at h3; omega
    have := c2 (by exact_mod_cast h2) h3'
    exact fin _ _ (by rw [this] at hc1; exact hc1) (up _ h66) (by rw [← hR, this])
   ·simp only [beq_iff_eq, beq_eq_false_iff_ne, ne_eq] at h2 h3
    have h3' : M / 2 ^ d % 2 ≠ 1 := by
     rw [e56, Int.tmod_eq_emod_of_nonneg (Int.natCast_nonneg _)] at h3; omega
    have := c3 (by exact_mod_cast h2) h3'
    exact fin _ _ (by rw [this] at hc1; exact hc1) (dn _ h71) (by rw [← hR, this])
   ·simp only [decide_eq_false_iff_not, gt_iff_lt, beq_eq_false_iff_ne, ne_eq] at h h2
    have := c4 (by omega)
    exact fin _ _ (by rw [this] at hc1; exact hc1) (dn _ h76) (by rw [← hR, this])
end Go.Proofs.YtcpkneemhfnanaaGreat
