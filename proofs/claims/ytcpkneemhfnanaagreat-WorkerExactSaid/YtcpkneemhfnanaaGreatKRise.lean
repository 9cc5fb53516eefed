/- What spout hands back: Form, Again. Conditions: none. -/
import Derived.Test.YtcpkneemhfnanaaGreatProg
import Derived.Test.YtcpkneemhfnanaaGreatSrcA
import Derived.Test.YtcpkneemhfnanaaGreatSxPl
import Derived.Test.YtcpkneemhfnanaaGreatBase
import Derived.Test.YtcpkneemhfnanaaGreatSxP
import Derived.Test.YtcpkneemhfnanaaGreatSxX
namespace Go.Proofs.YtcpkneemhfnanaaGreat
open Go.Sx
set_option maxRecDepth 100000
set_option linter.unusedVariables false
set_option linter.unusedSimpArgs false
def sx60 (s : Option Addr) (s_n s_c : Nat) (R : Ending → World → Prop) (w : World) : Prop :=
 ifB (Option.isNone s) (R (.returned (.slice none 0 0)) w) (∀ b1 w2, Ag w w2 b1 (.cells #[] 3) → SemW Tryz.prog (Builtin.append_ #[44, 44] 44 #[.slice (some ⟨b1, 0, none⟩) 0 0, .slice s s_n s_c]) (fun u4 w3 => ∃ a5 l5 c5, u4 = .slice a5 l5 c5 ∧ R (.returned (.slice a5 l5 c5)) w3) w2)
theorem sx60.ok {s : Option Addr} {s_n s_c : Nat} {R : Ending → World → Prop} {w : World} (h : sx60 s s_n s_c R w) : Aa Tryz.prog 60 [.slice s s_n s_c] w R :=
 okOf { sem := [7] } mix Tryz.func60 (by kernel_rfl) (by kernel_rfl) (by kernel_rfl) h
def sx69 (s : Nat) (ends : Option Addr) (ends_n ends_c : Nat) (R : Ending → World → Prop) (w : World) : Prop :=
 Aa Tryz.prog 116 [.pointer (some ⟨s, 0, none⟩)] w (RetR R fun u2 w1 => ∃ n3, u2 = .int .i64 n3 ∧ ifB (((ends_n : Nat) : Int) != n3) (R (.returned (.int .i64 70)) w1) (∃ (I5 : Int → World → Prop) (m5 : Int → World → Nat), I5 0 w1 ∧ ∀ n6 w7, I5 n6 w7 → ifB (decide (n6 < ((ends_n : Nat) : Int))) (Ab ends (fun d8 => (0 ≤ n6 ∧ n6 < (ends_n : Nat)) ∧ ∃ n9, w7.cell? (Addr.add d8 (n6.toNat * 1)) = some (.int .i64 n9) ∧ ifB (decide (n9 < 0)) (R (.returned (.int .i64 70)) w7) (Aa Tryz.prog 63 [.pointer (some ⟨s, 0, none⟩), .int .i64 n6] w7 (RetR R fun u11 w10 => ∃ n12, u11 = .int .i64 n12 ∧ ifB (decide (n9 > n12)) (R (.returned (.int .i64 70)) w10) ((I5 (IntKind.i64.wrap (n6 + 1)) w10 ∧ m5 (IntKind.i64.wrap (n6 + 1)) w10 < m5 n6 w7)))))) (R (.returned (.int .i64 0)) w7)))
theorem sx69.ok {s : Nat} {ends : Option Addr} {ends_n ends_c : Nat} {R : Ending → World → Prop} {w : World} (h : sx69 s ends ends_n ends_c R w) : Aa Tryz.prog 69 [.pointer (some ⟨s, 0, none⟩), .slice ends ends_n ends_c] w R :=
 okOf { known := [8], loops := [(6, { slots := [(16, .int .i64)], cells := [] })] } mix Tryz.func69 (by kernel_rfl) (by kernel_rfl) (by kernel_rfl) h
def sx71 (s : Nat) (from1 : Option Addr) (from1_n from1_c : Nat) (to : Option Addr) (to_n to_c : Nat) (R : Ending → World → Prop) (w : World) : Prop :=
 ∃ (I1 : Option Addr → Nat → Nat → Int → World → Prop) (m1 : Option Addr → Nat → Nat → Int → World → Nat), I1 none 0 0 0 w ∧ ∀ a2 l2 c2 n3 w4, I1 a2 l2 c2 n3 w4 → ifB (decide (n3 < ((from1_n : Nat) : Int))) (∀ w5, Grew w4 w5 → Ab from1 (fun d6 => (0 ≤ n3 ∧ n3 < (from1_n : Nat)) ∧ ∃ n7, w5.cell? (Addr.add d6 (n3.toNat * 1)) = some (.int .i64 n7) ∧ Ab to (fun d8 => (0 ≤ n3 ∧ n3 < (to_n : Nat)) ∧ ∃ n9, w5.cell? (Addr.add d8 (n3.toNat * 1)) = some (.int .i64 n9) ∧ Aa Tryz.prog 117 [.pointer (some ⟨s, 0, none⟩), .int .i64 n3] w5 (RetR R fun u11 w10 => ∃ a12 l12 c12, u11 = .slice a12 l12 c12 ∧ Ad w5 w10 [(Addr.add d8 (n3.toNat * 1)), (Addr.add d6 (n3.toNat * 1))] ∧ (0 ≤ n9 ∧ n9 ≤ (c12 : Nat)) ∧ (0 ≤ n7 ∧ n7 ≤ (n9.toNat : Nat)) ∧ SemW Tryz.prog (Builtin.append_ #[62, 62] 62 #[.slice a2 l2 c2, .slice (if c12 = n7.toNat then a12 else Option.map (fun x => Addr.add x (n7.toNat * 2)) a12) (n9.toNat - n7.toNat) (c12 - n7.toNat)]) (fun u15 w14 => ∃ a16 l16 c16, u15 = .slice a16 l16 c16 ∧ (I1 a16 l16 c16 (IntKind.i64.wrap (n3 + 1)) w14 ∧ m1 a16 l16 c16 (IntKind.i64.wrap (n3 + 1)) w14 < m1 a2 l2 c2 n3 w4)) w10)))) (R (.returned (.slice a2 l2 c2)) w4)
theorem sx71.ok {s : Nat} {from1 : Option Addr} {from1_n from1_c : Nat} {to : Option Addr} {to_n to_c : Nat} {R : Ending → World → Prop} {w : World} (h : sx71 s from1 from1_n from1_c to to_n to_c R w) : Aa Tryz.prog 71 [.pointer (some ⟨s, 0, none⟩), .slice from1 from1_n from1_c, .slice to to_n to_c] w R :=
 okOf { sem := [27], draws := [(5, { order := (ol [0,1,2,4,5,6,7,8,9,10,11,3,12,13,14] .nil), bars := [13] })], loops := [(3, { slots := [(7, .slice), (11, .int .i64)], cells := [] })] } mix Tryz.func71 (by kernel_rfl) (by kernel_rfl) (by kernel_rfl) h
def sx34 (s : Nat) (from1 : Option Addr) (from1_n from1_c : Nat) (most : Int) (R : Ending → World → Prop) (w : World) : Prop :=
 Aa Tryz.prog 69 [.pointer (some ⟨s, 0, none⟩), .slice from1 from1_n from1_c] w (RetR R fun u2 w1 => ∃ n3, u2 = .int .i64 n3 ∧ ifB (n3 == 2) (R (.returned (.tuple #[.slice none 0 0, .slice none 0 0, .int .i64 n3])) w1) (ifB (decide (most < 1)) (R (.returned (.tuple #[.slice none 0 0, .slice none 0 0, .int .i64 1])) w1) (ifB (decide (most > 16)) (R (.returned (.tuple #[.slice none 0 0, .slice none 0 0, .int .i64 1])) w1) (ifB (n3 != 0) (R (.returned (.tuple #[.slice none 0 0, .slice none 0 0, .int .i64 n3])) w1) (Aa Tryz.prog 60 [.slice from1 from1_n from1_c] w1 (RetR R fun u6 w5 => ∃ a7 l7 c7, u6 = .slice a7 l7 c7 ∧ ∃ (I9 : Int → World → Prop) (m9 : Int → World → Nat), I9 0 w5 ∧ ∀ n10 w11, I9 n10 w11 → ifB (decide (n10 < ((l7 : Nat) : Int))) (Aa Tryz.prog 74 [.pointer (some ⟨s, 0, none⟩), .int .i64 n10] w11 (RetR R fun u13 w12 => ∃ b14, u13 = .bool b14 ∧ ifB b14 (∀ w16, Grew w12 w16 → Ab a7 (fun d17 => (0 ≤ n10 ∧ n10 < (l7 : Nat)) ∧ ∃ n18, w16.cell? (Addr.add d17 (n10.toNat * 1)) = some (.int .i64 n18) ∧ ∀ n19 : Int, n19 = IntKind.i64.wrap (n18 + most) → Aa Tryz.prog 63 [.pointer (some ⟨s, 0, none⟩), .int .i64 n10] w16 (RetR R fun u21 w20 => ∃ n22, u21 = .int .i64 n22 ∧ Ad w16 w20 [(Addr.add d17 (n10.toNat * 1))] ∧ Ab a7 (fun d24 => (0 ≤ n10 ∧ n10 < (l7 : Nat)) ∧ Af w20 (Addr.add d24 (n10.toNat * 1)) 0 [.int .i64 (if (n22 : Int) < n19 then n22 else n19)] ∧ ∀ w25, w25 = setCells w20 (Addr.add d24 (n10.toNat * 1)) 0 [.int .i64 (if (n22 : Int) < n19 then n22 else n19)] → (I9 (IntKind.i64.wrap (n10 + 1)) w25 ∧ m9 (IntKind.i64.wrap (n10 + 1)) w25 < m9 n10 w11))))) ((I9 (IntKind.i64.wrap (n10 + 1)) w12 ∧ m9 (IntKind.i64.wrap (n10 + 1)) w12 < m9 n10 w11)))) (Aa Tryz.prog 71 [.pointer (some ⟨s, 0, none⟩), .slice from1 from1_n from1_c, .slice a7 l7 c7] w11 (RetR R fun u27 w26 => ∃ a28 l28 c28, u27 = .slice a28 l28 c28 ∧ R (.returned (.tuple #[.slice a7 l7 c7, .slice a28 l28 c28, .int .i64 0])) w26))))))))
theorem sx34.ok {s : Nat} {from1 : Option Addr} {from1_n from1_c : Nat} {most : Int} {R : Ending → World → Prop} {w : World} (h : sx34 s from1 from1_n from1_c most R w) : Aa Tryz.prog 34 [.pointer (some ⟨s, 0, none⟩), .slice from1 from1_n from1_c, .int .i64 most] w R :=
 okOf { named := [47], draws := [(13, { order := (ol [0,1,2,3,4,5,6,7,8,9,10,11,12,13] .nil), bars := [13] })], loops := [(10, { slots := [(34, .int .i64)], cells := [] })] } mix Tryz.func34 (by kernel_rfl) (by kernel_rfl) (by kernel_rfl) h
theorem elCI : B4 Tryz.prog 44 3 (Enc.int .i64).sz 8 := B4.mk' (z := .int .i64 0) (by kernel_rfl) (by kernel_rfl) (by kernel_rfl)
theorem Gy {a : Option Addr} {n c : Nat} {l : List Int} {w : World} (hr : Reads w (Enc.int .i64) (a, n, c) l) (hl : l.length * 8 ≤ 140737488355328) : Aa Tryz.prog 60 [.slice a n c] w (Rets (Dk w 3 (Enc.int .i64) l)) := by
 refine sx60.ok ?_
 unfold sx60
 refine ⟨fun h => ?_, fun h b w1 hal => ?_⟩
 ·have hn : a = none := by simpa using h
  have hl0 : l = [] := by
   cases l with
   | nil => rfl
   | cons x l => obtain ⟨d, hd, -⟩ := hr.1 0 x rfl; rw [hn] at hd; cases hd
  subst hl0
  exact ⟨_, rfl, none, 0, 0, rfl, Own.nil _ _ _ _, Grew.refl _⟩
 ·have hr1 := hr.grew hal.grew
  have ho : Own w1 w.heap.size 3 (Enc.int .i64) (some ⟨b, 0, none⟩) 0 0 [] := Own.alloc (l := []) hal (Nat.le_refl _) rfl (by simp [maxLen])
  refine B5 elCI ho hr1.1 hr1.2.1 hr1.2.2.1 hal.grew.size (by simp only [maxLen, List.length_nil]; omega) (by simpa using hl) ?_
  rintro v w2 ⟨a2, n2, c2, rfl, ho2, hu2, hb2⟩
  exact ⟨_, _, _, rfl, _, rfl, a2, n2, c2, rfl, by simpa using ho2, hal.grew.then_own hu2 fun b hb => (ho.blk hb).1⟩
theorem Cc {w : World} {d : Addr} {k : Nat} {x : Int} (h : Ae w (d.add (k * (Enc.int .i64).sz)) 0 ((Enc.int .i64).f x)) : w.cell? (Addr.add d (((k : Nat) : Int).toNat * 1)) = some (.int .i64 x) := by
 have := Ai h 0 _ rfl
 simpa [Enc.int, Addr.add_zero'] using this
theorem Yd {w : World} {B : Nat} {x : SrcX} {v : SrcV} {a : Option Addr} {n c : Nat} {l : List Int} (h : SrA w B x v) (hr : Reads w (Enc.int .i64) (a, n, c) l) :
  Aa Tryz.prog 69 [.pointer (some ⟨x.p, 0, none⟩), .slice a n c] w (Rets fun u w' => u = .int .i64 (C7 v l) ∧ w' = w) := by
 refine sx69.ok ?_
 unfold sx69
 have hn : n = l.length := hr.2.1
 subst hn
 refine (Yc h).use fun u w1 ⟨hv, hw⟩ => ?_
 subst hv; subst hw
 have hp := h.fits.parts
 have bad : C7 v l ≠ 0 → Rets (fun u w' => u = .int .i64 (C7 v l) ∧ w' = w1) (.returned (.int .i64 70)) w1 := fun hb => ⟨_, rfl, by rw [Mh hb], rfl⟩
 refine ⟨_, rfl, fun hne => bad fun h0 => ?_, fun heq => ?_⟩
 ·rw [C2] at h0; simp [h0.1] at hne
 have hlen : l.length = v.parts.length := by simp at heq; omega
 refine ⟨fun i w' => w' = w1 ∧ ∃ k : Nat, i = k ∧ k ≤ l.length ∧ ∀ (j : Nat) (e : Int), j < k → l[j]? = some e → 0 ≤ e ∧ e ≤ v.len j, fun i _ => l.length - i.toNat, ⟨rfl, 0, rfl, Nat.zero_le _, fun j e hj => by omega⟩, ?_⟩
 rintro n6 w7 ⟨rfl, k, rfl, hk, hall⟩
 refine ⟨fun hlt => ?_, fun hge => ?_⟩
 ·simp only [decide_eq_true_eq] at hlt
  obtain ⟨d, e, rfl, he, hc⟩ := hr.at0 (k := k) (by omega)
  have hw : IntKind.i64.wrap ((k : Int) + 1) = ((k + 1 : Nat) : Int) := by rw [IntKind.wrap_i64]; omega
  rw [Ab]
  refine ⟨⟨by omega, by omega⟩, _, Cc hc, fun h1 => bad fun h0 => ?_, fun h1 => (Wu h).use fun u w10 ⟨hv, hw'⟩ => ?_⟩
  ·simp only [decide_eq_true_eq] at h1
   have := (C2.1 h0).2 k e he; omega
  ·subst hv; subst hw'
   simp only [decide_eq_false_iff_not] at h1
   refine ⟨_, rfl, fun h2 => bad fun h0 => ?_, fun h2 => ⟨⟨rfl, k + 1, hw, by omega, fun j y hj hy => ?_⟩, by simp only [hw]; omega⟩⟩
   ·simp only [decide_eq_true_eq] at h2
    have := (C2.1 h0).2 k e he; omega
   ·simp only [decide_eq_false_iff_not] at h2
    by_cases hjk : j = k
    ·subst hjk; rw [he] at hy; cases hy; omega
    ·exact hall j y (by omega) hy
 ·simp only [decide_eq_false_iff_not] at hge
  refine ⟨_, rfl, ?_, rfl⟩
  rw [C2.2 ⟨hlen, fun i e he => hall i e (by have := (List.getElem?_eq_some_iff.1 he).1; omega) he⟩]
theorem J0 {l : List Int} {i : Nat} {e : Int} (h : l[i]? = some e) : l.getD i 0 = e := by rw [List.getD_eq_getElem?_getD, h]; rfl
theorem Vh {w : World} {B : Nat} {x : SrcX} {v : SrcV} {a b : Option Addr} {n c m d : Nat} {f t : List Int} (h : SrA w B x v) (hr : Reads w (Enc.int .i64) (a, n, c) f) (hi : Reads w (Enc.int .i64) (b, m, d) t) (hlen : f.length = t.length) (hf4 : f.length ≤ 4)
  (hft : ∀ (i : Nat) (e g : Int), f[i]? = some e → t[i]? = some g → 0 ≤ e ∧ e ≤ g ∧ g ≤ v.len i) :
  Aa Tryz.prog 71 [.pointer (some ⟨x.p, 0, none⟩), .slice a n c, .slice b m d] w (Rets (Dk w 43 Enc.rcd (btwV v f t f.length))) := by
 refine sx71.ok ?_
 unfold sx71
 have hn : n = f.length := hr.2.1
 subst hn
 have hm : m = t.length := hi.2.1
 subst hm
 have hfit := h.fits
 refine ⟨fun a n c i w' => ∃ k : Nat, i = k ∧ k ≤ f.length ∧ Own w' w.heap.size 43 Enc.rcd a n c (btwV v f t k) ∧ Grew w w', fun _ _ _ i _ => f.length - i.toNat, ⟨0, rfl, Nat.zero_le _, by simpa [btwV] using Own.nil _ _ _ _, Grew.refl _⟩, ?_⟩
 rintro a2 l2 c2 n3 w4 ⟨k, rfl, hk, ho4, hg4⟩
 refine ⟨fun hlt w5 hg5 => ?_, fun hge => ?_⟩
 ·simp only [decide_eq_true_eq] at hlt
  have hg5' := hg4.trans hg5
  obtain ⟨d1, e, rfl, he, hc⟩ := (hr.grew hg5').at0 (k := k) (by omega)
  obtain ⟨d2, g, rfl, hg, hc2⟩ := (hi.grew hg5').at0 (k := k) (by omega)
  obtain ⟨q1, q2, q3⟩ := hft k e g he hg
  have hw : IntKind.i64.wrap ((k : Int) + 1) = ((k + 1 : Nat) : Int) := by rw [IntKind.wrap_i64]; omega
  rw [Ab]
  refine ⟨⟨by omega, by omega⟩, _, Cc hc, ?_⟩
  rw [Ab]
  refine ⟨⟨by omega, by omega⟩, _, Cc hc2, (Aeu (h.grew hg5')).use fun u w10 ⟨a12, l12, c12, hv, ho12, hg10⟩ => ?_⟩
  subst hv
  have b1 := World.block_lt_of_cell? w5 _ (Cc hc)
  have b2 := World.block_lt_of_cell? w5 _ (Cc hc2)
  have hll := ho12.len
  have hle := ho12.le
  have hlog := Pj (v := v) (k : Int)
  have hl256 := (Ln hfit (k : Int)).1
  refine ⟨_, _, _, rfl, ⟨hg10.block _ b2, hg10.block _ b1, trivial⟩, ⟨by omega, by omega⟩, ⟨by omega, by omega⟩, ?_⟩
  have hcut : Reads w10 Enc.rcd (if c12 = e.toNat then a12 else Option.map (fun x => Addr.add x (e.toNat * 2)) a12, g.toNat - e.toNat, c12 - e.toNat) (btwI v f t k) := by
   have := ho12.reads.cut (i := e.toNat) (j := g.toNat) (by omega) (by omega)
   unfold btwI
   rw [J0 he, J0 hg]
   exact this
  have ho10 := ho4.grew (hg5.trans hg10)
  have hbl := Pm hfit f t k
  have hbi := Pk hfit f t k
  refine B5 Qz ho10 hcut.1 hcut.2.1 hcut.2.2.1 (hg5'.trans hg10).size (by simp only [maxLen]; omega) (by omega) ?_
  rintro v15 w14 ⟨a16, l16, c16, rfl, ho16, hu16, hb16⟩
  rw [← Jy] at ho16
  exact ⟨_, _, _, rfl, ⟨k + 1, hw, by omega, ho16, (hg5'.trans hg10).then_own hu16 fun b hb => (ho10.blk hb).1⟩, by simp only [hw]; omega⟩
 ·simp only [decide_eq_false_iff_not] at hge
  have hkn : k = f.length := by omega
  subst hkn
  exact ⟨_, rfl, _, _, _, rfl, ho4, hg4⟩
def Wv (w : World) (r : Aef) (u : Value) (w' : World) : Prop := ∃ (a : Option Addr) (n c : Nat) (a2 : Option Addr) (n2 c2 : Nat), u = .tuple #[.slice a n c, .slice a2 n2 c2, .int .i64 r.err] ∧ Own w' w.heap.size 3 (Enc.int .i64) a n c r.to ∧ Own w' w.heap.size 43 Enc.rcd a2 n2 c2 r.recs ∧ Grew w w'
theorem Adr {w : World} {B : Nat} {x : SrcX} {v : SrcV} {a : Option Addr} {n c : Nat} {f : List Int} {most : Int} (h : SrA w B x v) (hr : Reads w (Enc.int .i64) (a, n, c) f) :
  Aa Tryz.prog 34 [.pointer (some ⟨x.p, 0, none⟩), .slice a n c, .int .i64 most] w (Rets (Wv w (Bp v f most))) := by
 refine sx34.ok ?_
 unfold sx34
 have hn : n = f.length := hr.2.1
 subst hn
 have hfit := h.fits
 have none3 : ∀ {y : World} {k : Int}, (Bp v f most) = ⟨[], [], k⟩ → Grew w y → Rets (Wv w (Bp v f most)) (.returned (.tuple #[.slice none 0 0, .slice none 0 0, .int .i64 k])) y := fun he hg => ⟨_, rfl, none, 0, 0, none, 0, 0, by rw [he], by rw [he]; exact Own.nil _ _ _ _, by rw [he]; exact Own.nil _ _ _ _, hg⟩
 refine (Yd h hr).use fun u w1 ⟨hv, hw⟩ => ?_
 subst hv; subst hw
 have e01 : C7 v f = 0 ∨ C7 v f = 70 := by
  by_cases he : C7 v f = 0
  ·exact .inl he
  ·exact .inr (Mh he)
 refine ⟨_, rfl, fun h2 => ?_, fun _ => ⟨fun h1 => ?_, fun h1 => ⟨fun h16 => ?_, fun h16 => ⟨fun hne => ?_, fun heq => ?_⟩⟩⟩⟩
 ·exfalso; simp only [beq_iff_eq] at h2; omega
 ·simp only [decide_eq_true_eq] at h1
  exact none3 (by unfold Bp; rw [if_pos (.inl h1)]) (Grew.refl _)
 ·simp only [decide_eq_true_eq] at h16
  exact none3 (by unfold Bp; rw [if_pos (.inr h16)]) (Grew.refl _)
 ·simp only [decide_eq_false_iff_not] at h1 h16
  have hx : C7 v f ≠ 0 := by simpa using hne
  refine none3 ?_ (Grew.refl _)
  unfold Bp; rw [if_neg (by omega), if_neg hx, Mh hx]
 simp only [decide_eq_false_iff_not] at h1 h16
 have he0 : C7 v f = 0 := by simpa using heq
 obtain ⟨hfl, hfe⟩ := C2.1 he0
 have hp4 := hfit.parts
 have hF : Bp v f most = ⟨toV v most f, btwV v f (toV v most f) f.length, 0⟩ := by unfold Bp; rw [if_neg (by omega), if_pos he0]
 refine (Gy hr (by omega)).use fun u w5 ⟨a7, l7, c7, hv, ho7, hg5⟩ => ?_
 subst hv
 have hl7 : l7 = f.length := ho7.len
 subst hl7
 refine ⟨_, _, _, rfl, fun i w' => ∃ k : Nat, i = k ∧ k ≤ f.length ∧ Own w' w1.heap.size 3 (Enc.int .i64) a7 f.length c7 ((toV v most f).take k ++ f.drop k) ∧ Grew w1 w', fun i _ => f.length - i.toNat, ⟨0, rfl, Nat.zero_le _, by simpa using ho7, hg5⟩, ?_⟩
 rintro n10 w11 ⟨k, rfl, hk, ho11, hg11⟩
 refine ⟨fun hlt => (Afe (h.grew hg11)).use fun u w12 ⟨hv, hw⟩ => ?_, fun hge => ?_⟩
 ·subst hv; subst hw
  simp only [decide_eq_true_eq] at hlt
  have hw : IntKind.i64.wrap ((k : Int) + 1) = ((k + 1 : Nat) : Int) := by rw [IntKind.wrap_i64]; omega
  obtain ⟨e, he⟩ : ∃ e, f[k]? = some e := ⟨_, List.getElem?_eq_getElem (show k < f.length by omega)⟩
  have hte := Jz (v := v) (most := most) he
  have hdrop : f.drop k = e :: f.drop (k + 1) := List.drop_eq_getElem?_toList_append ▸ (by rw [he]; rfl)
  have htl : ((toV v most f).take k).length = k := by rw [List.length_take, D9]; omega
  have hnext : ∀ y, y = toI v most k e → (toV v most f).take (k + 1) ++ f.drop (k + 1) = (toV v most f).take k ++ (y :: f.drop (k + 1)) := by
   intro y hy; rw [Ak hte, hy, List.append_assoc]; rfl
  have hlen := R9 hfit (k : Int)
  obtain ⟨q1, q2⟩ := hfe k e he
  refine ⟨_, rfl, fun hup w16 hg16 => ?_, fun hup => ?_⟩
  ·have ho16 := ho11.grew hg16
   have hat : ((toV v most f).take k ++ f.drop k)[k]? = some e := by rw [List.getElem?_append_right (by omega), htl, hdrop]; simp
   obtain ⟨d, y, hd, hy, hyc⟩ := ho16.reads.at0 (k := k) (by omega)
   rw [hat] at hy; cases hy
   rw [hd, Ab]
   refine ⟨⟨by omega, by omega⟩, _, Cc hyc, fun n19 h19 => (Wu (h.grew (hg11.trans hg16))).use fun u w20 ⟨hv, hw'⟩ => ?_⟩
   subst hv; subst hw'
   obtain ⟨d', hd', hroom, hset, hu⟩ := ho16.set (i := k) (by rw [List.length_append, htl, List.length_drop]; omega) (toI v most k e)
   rw [hd] at hd'; cases hd'
   have hval : (if v.len (k : Int) < n19 then v.len (k : Int) else n19) = toI v most k e := by
    unfold toI; rw [if_pos hup, h19, IntKind.wrap_i64]
    split <;> omega
   refine ⟨_, rfl, ⟨rfl, trivial⟩, ?_⟩
   rw [Ab, hval]
   refine ⟨⟨by omega, by omega⟩, by simpa [Enc.int] using hroom, ?_⟩
   rintro w25 rfl
   have hset' : ((toV v most f).take k ++ f.drop k).set k (toI v most k e) = (toV v most f).take (k + 1) ++ f.drop (k + 1) := by
    rw [hnext _ rfl, hdrop, List.set_append_right _ _ (by omega), htl, Nat.sub_self, List.set_cons_zero]
   rw [hset'] at hset
   refine ⟨⟨k + 1, hw, by omega, by rw [← hd]; simpa [Enc.int] using hset, (hg11.trans hg16).then_own (S := Blk a7) (by simpa [Enc.int] using hu) fun b hb => (ho16.blk hb).1⟩, by simp only [hw]; omega⟩
  ·refine ⟨⟨k + 1, hw, by omega, ?_, hg11⟩, by simp only [hw]; omega⟩
   rw [hnext e (by unfold toI; rw [if_neg (by simpa using hup)]), ← hdrop]
   exact ho11
 ·simp only [decide_eq_false_iff_not] at hge
  have hkn : k = f.length := by omega
  subst hkn
  rw [List.take_of_length_le (by rw [D9]; omega), List.drop_length, List.append_nil] at ho11
  refine (Vh (h.grew hg11) (hr.grew hg11) ho11.reads (by rw [D9]) (by omega) fun i e g he hg => ?_).use fun u w26 ⟨a28, l28, c28, hv, ho28, hg26⟩ => ?_
  ·rw [Jz he] at hg; cases hg
   obtain ⟨q1, q2⟩ := hfe i e he
   unfold toI
   split <;> omega
  ·subst hv
   exact ⟨_, _, _, rfl, _, rfl, _, _, _, _, _, _, by rw [hF], by rw [hF]; exact ho11.grew hg26, by rw [hF]; exact ho28.base hg11.size, hg11.trans hg26⟩
def sx87 (keys : Option Addr) (keys_n keys_c : Nat) (R : Ending → World → Prop) (w : World) : Prop :=
 ∃ (I1 : Int → World → Prop) (m1 : Int → World → Nat), I1 0 w ∧ ∀ n2 w3, I1 n2 w3 → ifB (decide (n2 < ((keys_n : Nat) : Int))) (Ab keys (fun d4 => (0 ≤ n2 ∧ n2 < (keys_n : Nat)) ∧ ∃ n5, w3.cell? (Addr.add d4 (n2.toNat * 1)) = some (.int .u64 n5) ∧ ifB (decide (n2 > 0)) (Ab keys (fun d6 => (0 ≤ (IntKind.i64.wrap (n2 - 1)) ∧ (IntKind.i64.wrap (n2 - 1)) < (keys_n : Nat)) ∧ ∃ n7, w3.cell? (Addr.add d6 ((IntKind.i64.wrap (n2 - 1)).toNat * 1)) = some (.int .u64 n7) ∧ ifB (decide (n5 ≤ n7)) (R (.returned (.bool false)) w3) ((I1 (IntKind.i64.wrap (n2 + 1)) w3 ∧ m1 (IntKind.i64.wrap (n2 + 1)) w3 < m1 n2 w3)))) ((I1 (IntKind.i64.wrap (n2 + 1)) w3 ∧ m1 (IntKind.i64.wrap (n2 + 1)) w3 < m1 n2 w3)))) (R (.returned (.bool true)) w3)
theorem sx87.ok {keys : Option Addr} {keys_n keys_c : Nat} {R : Ending → World → Prop} {w : World} (h : sx87 keys keys_n keys_c R w) : Aa Tryz.prog 87 [.slice keys keys_n keys_c] w R :=
 okOf { loops := [(2, { slots := [(7, .int .i64)], cells := [] })] } mix Tryz.func87 (by kernel_rfl) (by kernel_rfl) (by kernel_rfl) h
theorem Vi {a : Option Addr} {n c : Nat} {l : List Int} {w : World} (hr : Reads w (Enc.int .u64) (a, n, c) l) (hl : l.length ≤ 9223372036854775806) : Aa Tryz.prog 87 [.slice a n c] w (Rets fun v w' => v = .bool (Dc l) ∧ w' = w) := by
 refine sx87.ok ?_
 unfold sx87
 have hn : n = l.length := hr.2.1
 subst hn
 refine ⟨fun i w' => ∃ k : Nat, i = k ∧ k ≤ l.length ∧ (∀ (j : Nat) (x y : Int), j + 1 < k → l[j]? = some x → l[j + 1]? = some y → x < y) ∧ w' = w, fun i _ => l.length - i.toNat, ⟨0, rfl, Nat.zero_le _, fun j x y h => by omega, rfl⟩, ?_⟩
 rintro i w' ⟨k, rfl, hk, hlt, rfl⟩
 refine ⟨fun h => ?_, fun h => ?_⟩
 ·simp only [decide_eq_true_eq] at h
  have hw1 : IntKind.i64.wrap ((k : Int) + 1) = ((k + 1 : Nat) : Int) := by rw [IntKind.wrap_i64]; omega
  obtain ⟨d, y, rfl, hy, hcy⟩ := hr.at0 (k := k) (by omega)
  rw [hw1]
  have hm : l.length - (((k + 1 : Nat) : Int)).toNat < l.length - ((k : Int)).toNat := by omega
  refine ⟨by omega, y, by simpa [Enc.int, Ae, Addr.add_zero'] using hcy, fun h0 => ?_, fun h0 => ?_⟩
  ·simp only [decide_eq_true_eq] at h0
   have hw2 : IntKind.i64.wrap ((k : Int) - 1) = ((k - 1 : Nat) : Int) := by rw [IntKind.wrap_i64]; omega
   rw [hw2]
   obtain ⟨d', x, hd', hx, hcx⟩ := hr.at0 (k := k - 1) (by omega)
   cases hd'
   refine ⟨by omega, x, by simpa [Enc.int, Ae, Addr.add_zero'] using hcx, fun hle => ?_, fun hle => ?_⟩
   ·simp only [decide_eq_true_eq] at hle
    have : Dc l = false := by
     apply Bool.eq_false_iff.2
     intro hr'
     have := (Fj l).1 hr' (k - 1) x y hx (by rw [show k - 1 + 1 = k from by omega]; exact hy)
     omega
    exact ⟨_, rfl, by rw [this], rfl⟩
   ·simp only [decide_eq_false_iff_not] at hle
    refine ⟨⟨k + 1, rfl, by omega, fun j u v hj hu hv => ?_, rfl⟩, hm⟩
    by_cases hjk : j + 1 < k
    ·exact hlt j u v hjk hu hv
    ·have : j = k - 1 := by omega
     subst this
     rw [show k - 1 + 1 = k from by omega] at hv
     rw [hx] at hu; rw [hy] at hv
     cases hu; cases hv; omega
  ·simp only [decide_eq_false_iff_not] at h0
   exact ⟨⟨k + 1, rfl, by omega, fun j u v hj hu hv => by omega, rfl⟩, hm⟩
 ·simp only [decide_eq_false_iff_not] at h
  have : Dc l = true := (Fj l).2 fun i x y hx hy => by
   have : i + 1 < l.length := (List.getElem?_eq_some_iff.1 hy).1
   exact hlt i x y (by omega) hx hy
  exact ⟨_, rfl, by rw [this], rfl⟩
end Go.Proofs.YtcpkneemhfnanaaGreat
