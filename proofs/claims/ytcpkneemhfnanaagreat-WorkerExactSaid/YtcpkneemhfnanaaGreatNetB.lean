/- What the reference's spout hands back. Conditions: none. -/
import Derived.Test.YtcpkneemhfnanaaGreatProg
import Derived.Test.YtcpkneemhfnanaaGreatKRise
import Derived.Test.YtcpkneemhfnanaaGreatSrcR
import Derived.Test.YtcpkneemhfnanaaGreatBase
import Derived.Test.YtcpkneemhfnanaaGreatSxP
import Derived.Test.YtcpkneemhfnanaaGreatSxX
import Derived.Test.YtcpkneemhfnanaaGreatFoldA
import Derived.Test.YtcpkneemhfnanaaGreatRefA
namespace Go.Proofs.YtcpkneemhfnanaaGreat
open Go.Sx
set_option maxRecDepth 100000
set_option linter.unusedVariables false
set_option linter.unusedSimpArgs false
def sx122 (s : Nat) (ends : Option Addr) (ends_n ends_c : Nat) (R : Ending → World → Prop) (w : World) : Prop :=
 Aa Tryz.prog 107 [.pointer (some ⟨s, 0, none⟩)] w (RetR R fun u2 w1 => ∃ n3, u2 = .int .i64 n3 ∧ ifB (((ends_n : Nat) : Int) != n3) (R (.returned (.bool false)) w1) (∃ (I5 : Int → World → Prop) (m5 : Int → World → Nat), I5 0 w1 ∧ ∀ n6 w7, I5 n6 w7 → ifB (decide (n6 < ((ends_n : Nat) : Int))) (∀ w8, Grew w7 w8 → Ab ends (fun d9 => (0 ≤ n6 ∧ n6 < (ends_n : Nat)) ∧ ∃ n10, w8.cell? (Addr.add d9 (n6.toNat * 1)) = some (.int .i64 n10) ∧ ifB (decide (n10 < 0)) (R (.returned (.bool false)) w8) (Ab ends (fun d11 => (0 ≤ n6 ∧ n6 < (ends_n : Nat)) ∧ ∃ n12, w8.cell? (Addr.add d11 (n6.toNat * 1)) = some (.int .i64 n12) ∧ Aa Tryz.prog 124 [.pointer (some ⟨s, 0, none⟩), .int .i64 n6] w8 (RetR R fun u14 w13 => ∃ n15, u14 = .int .i64 n15 ∧ Ad w8 w13 [(Addr.add d11 (n6.toNat * 1)), (Addr.add d9 (n6.toNat * 1))] ∧ ifB (decide (n12 > n15)) (R (.returned (.bool false)) w13) ((I5 (IntKind.i64.wrap (n6 + 1)) w13 ∧ m5 (IntKind.i64.wrap (n6 + 1)) w13 < m5 n6 w7))))))) (R (.returned (.bool true)) w7)))
theorem sx122.ok {s : Nat} {ends : Option Addr} {ends_n ends_c : Nat} {R : Ending → World → Prop} {w : World} (h : sx122 s ends ends_n ends_c R w) : Aa Tryz.prog 122 [.pointer (some ⟨s, 0, none⟩), .slice ends ends_n ends_c] w R :=
 okOf { draws := [(6, { order := (ol [0,1,2,3,4,5,6,7,8,9,10,11,12,13,14] .nil), bars := [] })], loops := [(4, { slots := [(5, .int .i64)], cells := [] })] } mix Tryz.func122 (by kernel_rfl) (by kernel_rfl) (by kernel_rfl) h
def sx125 (s : Nat) (from1 : Option Addr) (from1_n from1_c : Nat) (to : Option Addr) (to_n to_c : Nat) (R : Ending → World → Prop) (w : World) : Prop :=
 ∀ b1 w2, Ag w w2 b1 (.cells #[] 43) → ∃ (I3 : Option Addr → Nat → Nat → Int → World → Prop) (m3 : Option Addr → Nat → Nat → Int → World → Nat), I3 (some ⟨b1, 0, none⟩) 0 0 0 w2 ∧ ∀ a4 l4 c4 n5 w6, I3 a4 l4 c4 n5 w6 → ifB (decide (n5 < ((from1_n : Nat) : Int))) (Aa Tryz.prog 140 [.pointer (some ⟨s, 0, none⟩), .int .i64 n5] w6 (RetR R fun u8 w7 => ∃ a9 l9 c9, u8 = .slice a9 l9 c9 ∧ ∀ w11, Grew w7 w11 → Ab from1 (fun d12 => (0 ≤ n5 ∧ n5 < (from1_n : Nat)) ∧ ∃ n13, w11.cell? (Addr.add d12 (n5.toNat * 1)) = some (.int .i64 n13) ∧ Ab to (fun d14 => (0 ≤ n5 ∧ n5 < (to_n : Nat)) ∧ ∃ n15, w11.cell? (Addr.add d14 (n5.toNat * 1)) = some (.int .i64 n15) ∧ (0 ≤ n15 ∧ n15 ≤ (c9 : Nat)) ∧ (0 ≤ n13 ∧ n13 ≤ (n15.toNat : Nat)) ∧ SemW Tryz.prog (Builtin.append_ #[62, 62] 62 #[.slice a4 l4 c4, .slice (if c9 = n13.toNat then a9 else Option.map (fun x => Addr.add x (n13.toNat * 2)) a9) (n15.toNat - n13.toNat) (c9 - n13.toNat)]) (fun u17 w16 => ∃ a18 l18 c18, u17 = .slice a18 l18 c18 ∧ (I3 a18 l18 c18 (IntKind.i64.wrap (n5 + 1)) w16 ∧ m3 a18 l18 c18 (IntKind.i64.wrap (n5 + 1)) w16 < m3 a4 l4 c4 n5 w6)) w11)))) (R (.returned (.slice a4 l4 c4)) w6)
theorem sx125.ok {s : Nat} {from1 : Option Addr} {from1_n from1_c : Nat} {to : Option Addr} {to_n to_c : Nat} {R : Ending → World → Prop} {w : World} (h : sx125 s from1 from1_n from1_c to to_n to_c R w) : Aa Tryz.prog 125 [.pointer (some ⟨s, 0, none⟩), .slice from1 from1_n from1_c, .slice to to_n to_c] w R :=
 okOf { sem := [31], draws := [(6, { order := (ol [0,1,2,3,4,5,6,7,8,9,10,11,12] .nil), bars := [11] })], loops := [(3, { slots := [(7, .slice), (8, .int .i64)], cells := [] })] } mix Tryz.func125 (by kernel_rfl) (by kernel_rfl) (by kernel_rfl) h
def sx98 (s : Nat) (from1 : Option Addr) (from1_n from1_c : Nat) (most : Int) (R : Ending → World → Prop) (w : World) : Prop :=
 ifB (decide (most < 1)) (R (.returned (.tuple #[.slice none 0 0, .slice none 0 0, .int .i64 1])) w) (ifB (decide (most > 16)) (R (.returned (.tuple #[.slice none 0 0, .slice none 0 0, .int .i64 1])) w) (Aa Tryz.prog 122 [.pointer (some ⟨s, 0, none⟩), .slice from1 from1_n from1_c] w (RetR R fun u2 w1 => ∃ b3, u2 = .bool b3 ∧ ifB (!b3) (R (.returned (.tuple #[.slice none 0 0, .slice none 0 0, .int .i64 70])) w1) (∀ b5 w6, Ag w1 w6 b5 (.cells #[] 3) → ∃ (I7 : Option Addr → Nat → Nat → Int → World → Prop) (m7 : Option Addr → Nat → Nat → Int → World → Nat), I7 (some ⟨b5, 0, none⟩) 0 0 0 w6 ∧ ∀ a8 l8 c8 n9 w10, I7 a8 l8 c8 n9 w10 → ifB (decide (n9 < ((from1_n : Nat) : Int))) (Ab from1 (fun d11 => (0 ≤ n9 ∧ n9 < (from1_n : Nat)) ∧ ∃ n12, w10.cell? (Addr.add d11 (n9.toNat * 1)) = some (.int .i64 n12) ∧ ∃ (I13 : Int → Int → World → Prop) (m13 : Int → Int → World → Nat), I13 n12 0 w10 ∧ ∀ n14 n15 w16, I13 n14 n15 w16 → ifB (decide (n15 < most)) (Aa Tryz.prog 123 [.pointer (some ⟨s, 0, none⟩), .int .i64 n9] w16 (RetR R fun u18 w17 => ∃ b19, u18 = .bool b19 ∧ ifB b19 (Aa Tryz.prog 124 [.pointer (some ⟨s, 0, none⟩), .int .i64 n9] w17 (RetR R fun u22 w21 => ∃ n23, u22 = .int .i64 n23 ∧ ifB (decide (n14 < n23)) ((I13 (IntKind.i64.wrap (n14 + 1)) (IntKind.i64.wrap (n15 + 1)) w21 ∧ m13 (IntKind.i64.wrap (n14 + 1)) (IntKind.i64.wrap (n15 + 1)) w21 < m13 n14 n15 w16)) (∀ b25 w26, Ag w21 w26 b25 (.cells #[.int .i64 n14] 3) → SemW Tryz.prog (Builtin.append_ #[44, 44] 44 #[.slice a8 l8 c8, .slice (some ⟨b25, 0, none⟩) 1 1]) (fun u28 w27 => ∃ a29 l29 c29, u28 = .slice a29 l29 c29 ∧ (I7 a29 l29 c29 (IntKind.i64.wrap (n9 + 1)) w27 ∧ m7 a29 l29 c29 (IntKind.i64.wrap (n9 + 1)) w27 < m7 a8 l8 c8 n9 w10)) w26))) (∀ b30 w31, Ag w17 w31 b30 (.cells #[.int .i64 n14] 3) → SemW Tryz.prog (Builtin.append_ #[44, 44] 44 #[.slice a8 l8 c8, .slice (some ⟨b30, 0, none⟩) 1 1]) (fun u33 w32 => ∃ a34 l34 c34, u33 = .slice a34 l34 c34 ∧ (I7 a34 l34 c34 (IntKind.i64.wrap (n9 + 1)) w32 ∧ m7 a34 l34 c34 (IntKind.i64.wrap (n9 + 1)) w32 < m7 a8 l8 c8 n9 w10)) w31))) (∀ b35 w36, Ag w16 w36 b35 (.cells #[.int .i64 n14] 3) → SemW Tryz.prog (Builtin.append_ #[44, 44] 44 #[.slice a8 l8 c8, .slice (some ⟨b35, 0, none⟩) 1 1]) (fun u38 w37 => ∃ a39 l39 c39, u38 = .slice a39 l39 c39 ∧ (I7 a39 l39 c39 (IntKind.i64.wrap (n9 + 1)) w37 ∧ m7 a39 l39 c39 (IntKind.i64.wrap (n9 + 1)) w37 < m7 a8 l8 c8 n9 w10)) w36))) (Aa Tryz.prog 125 [.pointer (some ⟨s, 0, none⟩), .slice from1 from1_n from1_c, .slice a8 l8 c8] w10 (RetR R fun u41 w40 => ∃ a42 l42 c42, u41 = .slice a42 l42 c42 ∧ R (.returned (.tuple #[.slice a8 l8 c8, .slice a42 l42 c42, .int .i64 0])) w40))))))
theorem sx98.ok {s : Nat} {from1 : Option Addr} {from1_n from1_c : Nat} {most : Int} {R : Ending → World → Prop} {w : World} (h : sx98 s from1 from1_n from1_c most R w) : Aa Tryz.prog 98 [.pointer (some ⟨s, 0, none⟩), .slice from1 from1_n from1_c, .int .i64 most] w R :=
 okOf { known := [14], sem := [58], loops := [(13, { slots := [(11, .int .i64), (12, .int .i64)], cells := [] }), (1009, { slots := [(9, .slice), (10, .int .i64)], cells := [] })] } mix Tryz.func98 (by kernel_rfl) (by kernel_rfl) (by kernel_rfl) h
theorem Ab4 {w : World} {B : Nat} {x : Ch} {v : SrcV} {a : Option Addr} {n c : Nat} {l : List Int} (h : RSA w B x v) (hr : Reads w (Enc.int .i64) (a, n, c) l) :
  Aa Tryz.prog 122 [.pointer (some ⟨x.q, 0, none⟩), .slice a n c] w (Rets fun u w' => u = .bool (decide (C7 v l = 0)) ∧ Grew w w') := by
 refine sx122.ok ?_
 unfold sx122
 have hn : n = l.length := hr.2.1
 subst hn
 refine (Re h).use fun u w1 ⟨hv, hw⟩ => ?_
 subst hv; subst hw
 have hp := h.fits.parts
 have bad : ∀ {w' : World}, Grew w1 w' → C7 v l ≠ 0 → Rets (fun u w' => u = .bool (decide (C7 v l = 0)) ∧ Grew w1 w') (.returned (.bool false)) w' := fun hg hb => ⟨_, rfl, by simp [hb], hg⟩
 refine ⟨_, rfl, fun hne => bad (Grew.refl _) fun h0 => ?_, fun heq => ?_⟩
 ·rw [C2] at h0; simp [h0.1] at hne
 have hlen : l.length = v.parts.length := by simp at heq; omega
 refine ⟨fun i w' => Grew w1 w' ∧ ∃ k : Nat, i = k ∧ k ≤ l.length ∧ ∀ (j : Nat) (e : Int), j < k → l[j]? = some e → 0 ≤ e ∧ e ≤ v.len j, fun i _ => l.length - i.toNat, ⟨Grew.refl _, 0, rfl, Nat.zero_le _, fun j e hj => by omega⟩, ?_⟩
 rintro n6 w7 ⟨hg7, k, rfl, hk, hall⟩
 refine ⟨fun hlt w8 hg8 => ?_, fun hge => ?_⟩
 ·simp only [decide_eq_true_eq] at hlt
  have hg8' := hg7.trans hg8
  obtain ⟨d, e, rfl, he, hc⟩ := (hr.grew hg8').at0 (k := k) (by omega)
  have hw : IntKind.i64.wrap ((k : Int) + 1) = ((k + 1 : Nat) : Int) := by rw [IntKind.wrap_i64]; omega
  rw [Ab]
  refine ⟨⟨by omega, by omega⟩, _, Cc hc, fun h1 => bad hg8' fun h0 => ?_, fun h1 => ?_⟩
  ·simp only [decide_eq_true_eq] at h1
   have := (C2.1 h0).2 k e he; omega
  ·rw [Ab]
   refine ⟨⟨by omega, by omega⟩, _, Cc hc, (W8 (h.grew hg8')).use fun u w10 ⟨hv, hw'⟩ => ?_⟩
   subst hv; subst hw'
   simp only [decide_eq_false_iff_not] at h1
   refine ⟨_, rfl, ⟨rfl, rfl, trivial⟩, fun h2 => bad hg8' fun h0 => ?_, fun h2 => ⟨⟨hg8', k + 1, hw, by omega, fun j y hj hy => ?_⟩, by simp only [hw]; omega⟩⟩
   ·simp only [decide_eq_true_eq] at h2
    have := (C2.1 h0).2 k e he; omega
   ·simp only [decide_eq_false_iff_not] at h2
    by_cases hjk : j = k
    ·subst hjk; rw [he] at hy; cases hy; omega
    ·exact hall j y (by omega) hy
 ·simp only [decide_eq_false_iff_not] at hge
  refine ⟨_, rfl, ?_, hg7⟩
  have : C7 v l = 0 := C2.2 ⟨hlen, fun i e he => hall i e (by have := (List.getElem?_eq_some_iff.1 he).1; omega) he⟩
  simp [this]
theorem Ua {w : World} {B : Nat} {x : Ch} {v : SrcV} {a b : Option Addr} {n c m d : Nat} {f t : List Int} (h : RSA w B x v) (hr : Reads w (Enc.int .i64) (a, n, c) f) (hi : Reads w (Enc.int .i64) (b, m, d) t) (hlen : f.length = t.length) (hf4 : f.length ≤ 4)
  (hft : ∀ (i : Nat) (e g : Int), f[i]? = some e → t[i]? = some g → 0 ≤ e ∧ e ≤ g ∧ g ≤ v.len i) :
  Aa Tryz.prog 125 [.pointer (some ⟨x.q, 0, none⟩), .slice a n c, .slice b m d] w (Rets (Dk w 43 Enc.rcd (btwV v f t f.length))) := by
 refine sx125.ok ?_
 unfold sx125
 have hn : n = f.length := hr.2.1
 subst hn
 have hm : m = t.length := hi.2.1
 subst hm
 have hfit := h.fits
 intro b1 w2 hal2
 have ho2 : Own w2 w.heap.size 43 Enc.rcd (some ⟨b1, 0, none⟩) 0 0 [] := Own.alloc (l := []) hal2 (Nat.le_refl _) rfl (by simp [maxLen])
 refine ⟨fun a n c i w' => ∃ k : Nat, i = k ∧ k ≤ f.length ∧ Own w' w.heap.size 43 Enc.rcd a n c (btwV v f t k) ∧ Grew w w', fun _ _ _ i _ => f.length - i.toNat, ⟨0, rfl, Nat.zero_le _, by simpa [btwV] using ho2, hal2.grew⟩, ?_⟩
 rintro a2 l2 c2 n3 w4 ⟨k, rfl, hk, ho4, hg4⟩
 refine ⟨fun hlt => (Adz (h.grew hg4)).use fun u w10 ⟨a12, l12, c12, hv, ho12, hg10⟩ => ?_, fun hge => ?_⟩
 ·subst hv
  simp only [decide_eq_true_eq] at hlt
  refine ⟨_, _, _, rfl, fun w11 hg11 => ?_⟩
  have hg5' := (hg4.trans hg10).trans hg11
  obtain ⟨d1, e, rfl, he, hc⟩ := (hr.grew hg5').at0 (k := k) (by omega)
  obtain ⟨d2, g, rfl, hg, hc2⟩ := (hi.grew hg5').at0 (k := k) (by omega)
  obtain ⟨q1, q2, q3⟩ := hft k e g he hg
  have hw : IntKind.i64.wrap ((k : Int) + 1) = ((k + 1 : Nat) : Int) := by rw [IntKind.wrap_i64]; omega
  rw [Ab]
  refine ⟨⟨by omega, by omega⟩, _, Cc hc, ?_⟩
  rw [Ab]
  have hll := ho12.len
  have hle := ho12.le
  have hlog := Pj (v := v) (k : Int)
  have hl256 := (Ln hfit (k : Int)).1
  refine ⟨⟨by omega, by omega⟩, _, Cc hc2, ⟨by omega, by omega⟩, ⟨by omega, by omega⟩, ?_⟩
  have hcut : Reads w11 Enc.rcd (if c12 = e.toNat then a12 else Option.map (fun x => Addr.add x (e.toNat * 2)) a12, g.toNat - e.toNat, c12 - e.toNat) (btwI v f t k) := by
   have := (ho12.grew hg11).reads.cut (i := e.toNat) (j := g.toNat) (by omega) (by omega)
   unfold btwI
   rw [J0 he, J0 hg]
   exact this
  have ho10 := ho4.grew (hg10.trans hg11)
  have hbl := Pm hfit f t k
  have hbi := Pk hfit f t k
  refine B5 Qz ho10 hcut.1 hcut.2.1 hcut.2.2.1 hg5'.size (by simp only [maxLen]; omega) (by omega) ?_
  rintro v15 w14 ⟨a16, l16, c16, rfl, ho16, hu16, hb16⟩
  rw [← Jy] at ho16
  exact ⟨_, _, _, rfl, ⟨k + 1, hw, by omega, ho16, hg5'.then_own hu16 fun b hb => (ho10.blk hb).1⟩, by simp only [hw]; omega⟩
 ·simp only [decide_eq_false_iff_not] at hge
  have hkn : k = f.length := by omega
  subst hkn
  exact ⟨_, rfl, _, _, _, rfl, ho4, hg4⟩
theorem Ab5 {w : World} {B : Nat} {x : Ch} {v : SrcV} {a : Option Addr} {n c : Nat} {f : List Int} {most : Int} (h : RSA w B x v) (hr : Reads w (Enc.int .i64) (a, n, c) f) :
  Aa Tryz.prog 98 [.pointer (some ⟨x.q, 0, none⟩), .slice a n c, .int .i64 most] w (Rets (Wv w (Bp v f most))) := by
 refine sx98.ok ?_
 unfold sx98
 have hn : n = f.length := hr.2.1
 subst hn
 have hfit := h.fits
 have none3 : ∀ {y : World} {k : Int}, (Bp v f most) = ⟨[], [], k⟩ → Grew w y → Rets (Wv w (Bp v f most)) (.returned (.tuple #[.slice none 0 0, .slice none 0 0, .int .i64 k])) y := fun he hg => ⟨_, rfl, none, 0, 0, none, 0, 0, by rw [he], by rw [he]; exact Own.nil _ _ _ _, by rw [he]; exact Own.nil _ _ _ _, hg⟩
 refine ⟨fun h1 => ?_, fun h1 => ⟨fun h16 => ?_, fun h16 => (Ab4 h hr).use fun u w1 ⟨hv, hg1⟩ => ?_⟩⟩
 ·simp only [decide_eq_true_eq] at h1
  exact none3 (by unfold Bp; rw [if_pos (.inl h1)]) (Grew.refl _)
 ·simp only [decide_eq_true_eq] at h16
  exact none3 (by unfold Bp; rw [if_pos (.inr h16)]) (Grew.refl _)
 subst hv
 simp only [decide_eq_false_iff_not] at h1 h16
 refine ⟨_, rfl, fun hne => ?_, fun heq b5 w6 hal6 => ?_⟩
 ·have hx : C7 v f ≠ 0 := by simpa using hne
  refine none3 ?_ hg1
  unfold Bp; rw [if_neg (by omega), if_neg hx]
 have he0 : C7 v f = 0 := by simpa using heq
 obtain ⟨hfl, hfe⟩ := C2.1 he0
 have hp4 := hfit.parts
 have hF : Bp v f most = ⟨toV v most f, btwV v f (toV v most f) f.length, 0⟩ := by unfold Bp; rw [if_neg (by omega), if_pos he0]
 have hg6 := hg1.trans hal6.grew
 have ho6 : Own w6 w.heap.size 3 (Enc.int .i64) (some ⟨b5, 0, none⟩) 0 0 [] := Own.alloc (l := []) hal6 hg1.size rfl (by simp [maxLen])
 refine ⟨fun a n c i w' => ∃ k : Nat, i = k ∧ k ≤ f.length ∧ Own w' w.heap.size 3 (Enc.int .i64) a n c ((toV v most f).take k) ∧ Grew w w', fun _ _ _ i _ => f.length - i.toNat, ⟨0, rfl, Nat.zero_le _, by simpa using ho6, hg6⟩, ?_⟩
 rintro a8 l8 c8 n9 w10 ⟨k, rfl, hk, ho10, hg10⟩
 refine ⟨fun hlt => ?_, fun hge => ?_⟩
 ·simp only [decide_eq_true_eq] at hlt
  have hw : IntKind.i64.wrap ((k : Int) + 1) = ((k + 1 : Nat) : Int) := by rw [IntKind.wrap_i64]; omega
  obtain ⟨d, e, rfl, he, hc⟩ := (hr.grew hg10).at0 (k := k) (by omega)
  have hte := Jz (v := v) (most := most) he
  have hlen := R9 hfit (k : Int)
  obtain ⟨q1, q2⟩ := hfe k e he
  rw [Ab]
  refine ⟨⟨by omega, by omega⟩, e, Cc hc, fun m i w' => w' = w10 ∧ ∃ j : Nat, i = j ∧ (j : Int) ≤ most ∧ m = e + j ∧ (0 < j → v.up (k : Int) = true ∧ m ≤ v.len (k : Int)), fun m i _ => 20 - i.toNat, ⟨rfl, 0, rfl, by omega, by omega, fun h => by omega⟩, ?_⟩
  rintro m n15 w16 ⟨rfl, j, rfl, hjm, rfl, hjv⟩
  have put : e + (j : Int) = toI v most k e → ∀ (b : Nat) (w' : World), Ag w16 w' b (.cells #[.int .i64 (e + (j : Int))] 3) → SemW Tryz.prog (Builtin.append_ #[44, 44] 44 #[.slice a8 l8 c8, .slice (some ⟨b, 0, none⟩) 1 1]) (fun u28 w27 => ∃ (a29 : Option Addr) (l29 c29 : Nat), u28 = .slice a29 l29 c29 ∧ ((∃ k_1 : Nat, (IntKind.i64.wrap ((k : Int) + 1)) = k_1 ∧ k_1 ≤ f.length ∧ Own w27 w.heap.size 3 (Enc.int .i64) a29 l29 c29 ((toV v most f).take k_1) ∧ Grew w w27) ∧ f.length - (IntKind.i64.wrap ((k : Int) + 1)).toNat < f.length - (k : Int).toNat)) w' := by
   intro heq b w' hal
   refine Bc (l2 := [e + (j : Int)]) elCI ho10 hal rfl rfl hg10.size (by simp only [maxLen, List.length_take, D9, List.length_singleton]; omega) (by simp only [List.length_take, D9, List.length_singleton]; omega) ?_
   rintro u w27 ⟨a29, l29, c29, rfl, ho27, hu27, hb27⟩
   refine ⟨_, _, _, rfl, ⟨k + 1, hw, by omega, ?_, hg10.then_own hu27 fun b hb => (ho10.blk hb).1⟩, by simp only [hw]; omega⟩
   rw [Ak hte, ← heq]; exact ho27
  refine ⟨fun hlt2 => (Aey (h.grew hg10)).use fun u w17 ⟨hv, hw'⟩ => ?_, fun hge2 => put ?_⟩
  ·subst hv; subst hw'
   simp only [decide_eq_true_eq] at hlt2
   refine ⟨_, rfl, fun hup => (W8 (h.grew hg10)).use fun u w21 ⟨hv, hw'⟩ => ?_, fun hup => put ?_⟩
   ·subst hv; subst hw'
    refine ⟨_, rfl, fun h3 => ?_, fun h3 => put ?_⟩
    ·simp only [decide_eq_true_eq] at h3
     have w1' : IntKind.i64.wrap (e + (j : Int) + 1) = e + ((j + 1 : Nat) : Int) := by rw [IntKind.wrap_i64]; omega
     have w2' : IntKind.i64.wrap ((j : Int) + 1) = ((j + 1 : Nat) : Int) := by rw [IntKind.wrap_i64]; omega
     rw [w1', w2']
     exact ⟨⟨rfl, j + 1, rfl, by omega, rfl, fun _ => ⟨hup, by omega⟩⟩, by show 20 - (((j + 1 : Nat) : Int)).toNat < 20 - ((j : Int)).toNat; omega⟩
    ·simp only [decide_eq_false_iff_not] at h3
     unfold toI
     rw [if_pos hup]
     rcases Nat.eq_zero_or_pos j with hj0 | hj0
     ·subst hj0; omega
     ·have := (hjv hj0).2; omega
   ·unfold toI
    rw [if_neg (by simpa using hup)]
    rcases Nat.eq_zero_or_pos j with hj0 | hj0
    ·subst hj0; omega
    ·have := (hjv hj0).1; rw [this] at hup; cases hup
  ·simp only [decide_eq_false_iff_not] at hge2
   have hj0 : 0 < j := by omega
   unfold toI
   rw [if_pos (hjv hj0).1]
   have := (hjv hj0).2
   omega
 ·simp only [decide_eq_false_iff_not] at hge
  have hkn : k = f.length := by omega
  subst hkn
  rw [List.take_of_length_le (by rw [D9]; omega)] at ho10
  refine (Ua (h.grew hg10) (hr.grew hg10) ho10.reads (by rw [D9]) (by omega) fun i e g he hg => ?_).use fun u w26 ⟨a28, l28, c28, hv, ho28, hg26⟩ => ?_
  ·rw [Jz he] at hg; cases hg
   obtain ⟨q1, q2⟩ := hfe i e he
   unfold toI
   split <;> omega
  ·subst hv
   exact ⟨_, _, _, rfl, _, rfl, _, _, _, _, _, _, by rw [hF], by rw [hF]; exact ho10.grew hg26, by rw [hF]; exact ho28.base hg10.size, hg10.trans hg26⟩
def sx95 (keys : Option Addr) (keys_n keys_c : Nat) (R : Ending → World → Prop) (w : World) : Prop :=
 ∃ (I1 : Int → World → Prop) (m1 : Int → World → Nat), I1 1 w ∧ ∀ n2 w3, I1 n2 w3 → ifB (decide (n2 < ((keys_n : Nat) : Int))) (Ab keys (fun d4 => (0 ≤ n2 ∧ n2 < (keys_n : Nat)) ∧ ∃ n5, w3.cell? (Addr.add d4 (n2.toNat * 1)) = some (.int .u64 n5) ∧ Ab keys (fun d6 => (0 ≤ (IntKind.i64.wrap (n2 - 1)) ∧ (IntKind.i64.wrap (n2 - 1)) < (keys_n : Nat)) ∧ ∃ n7, w3.cell? (Addr.add d6 ((IntKind.i64.wrap (n2 - 1)).toNat * 1)) = some (.int .u64 n7) ∧ ∀ w8, Grew w3 w8 → ifB (decide (n5 ≤ n7)) (R (.returned (.bool false)) w8) ((I1 (IntKind.i64.wrap (n2 + 1)) w8 ∧ m1 (IntKind.i64.wrap (n2 + 1)) w8 < m1 n2 w3))))) (R (.returned (.bool true)) w3)
theorem sx95.ok {keys : Option Addr} {keys_n keys_c : Nat} {R : Ending → World → Prop} {w : World} (h : sx95 keys keys_n keys_c R w) : Aa Tryz.prog 95 [.slice keys keys_n keys_c] w R :=
 okOf { loops := [(2, { slots := [(3, .int .i64)], cells := [] })] } mix Tryz.func95 (by kernel_rfl) (by kernel_rfl) (by kernel_rfl) h
theorem Ub {a : Option Addr} {n c : Nat} {l : List Int} {w : World} (hr : Reads w (Enc.int .u64) (a, n, c) l) (hl : l.length ≤ 9223372036854775806) : Aa Tryz.prog 95 [.slice a n c] w (Rets fun v w' => v = .bool (Dc l) ∧ Grew w w') := by
 refine sx95.ok ?_
 unfold sx95
 have hn : n = l.length := hr.2.1
 subst hn
 refine ⟨fun i w' => ∃ k : Nat, i = k ∧ 1 ≤ k ∧ (∀ (j : Nat) (x y : Int), j + 1 < k → l[j]? = some x → l[j + 1]? = some y → x < y) ∧ Grew w w', fun i _ => l.length - i.toNat, ⟨1, rfl, by decide, fun j x y h => by omega, Grew.refl _⟩, ?_⟩
 rintro i w' ⟨k, rfl, hk, hlt, hg⟩
 refine ⟨fun h => ?_, fun h => ?_⟩
 ·simp only [decide_eq_true_eq] at h
  have hw1 : IntKind.i64.wrap ((k : Int) - 1) = ((k - 1 : Nat) : Int) := by rw [IntKind.wrap_i64]; omega
  have hw2 : IntKind.i64.wrap ((k : Int) + 1) = ((k + 1 : Nat) : Int) := by rw [IntKind.wrap_i64]; omega
  obtain ⟨d, y, rfl, hy, hcy⟩ := (hr.grew hg).at0 (k := k) (by omega)
  obtain ⟨d', x, hd', hx, hcx⟩ := (hr.grew hg).at0 (k := k - 1) (by omega)
  cases hd'
  rw [hw1, hw2]
  refine ⟨by omega, y, by simpa [Enc.int, Ae, Addr.add_zero'] using hcy, by omega, x, by simpa [Enc.int, Ae, Addr.add_zero'] using hcx, fun w8 hg8 => ⟨fun hle => ?_, fun hle => ?_⟩⟩
  ·simp only [decide_eq_true_eq] at hle
   have : Dc l = false := by
    apply Bool.eq_false_iff.2
    intro hr'
    have := (Fj l).1 hr' (k - 1) x y hx (by rw [show k - 1 + 1 = k from by omega]; exact hy)
    omega
   exact ⟨_, rfl, by rw [this], hg.trans hg8⟩
  ·simp only [decide_eq_false_iff_not] at hle
   refine ⟨⟨k + 1, rfl, by omega, fun j u v hj hu hv => ?_, hg.trans hg8⟩, by show l.length - (((k + 1 : Nat) : Int)).toNat < l.length - ((k : Int)).toNat; omega⟩
   by_cases hjk : j + 1 < k
   ·exact hlt j u v hjk hu hv
   ·have : j = k - 1 := by omega
    subst this
    rw [show k - 1 + 1 = k from by omega] at hv
    rw [hx] at hu; rw [hy] at hv
    cases hu; cases hv; omega
 ·simp only [decide_eq_false_iff_not] at h
  have : Dc l = true := (Fj l).2 fun i x y hx hy => by
   have : i + 1 < l.length := (List.getElem?_eq_some_iff.1 hy).1
   exact hlt i x y (by omega) hx hy
  exact ⟨_, rfl, by rw [this], hg⟩
def sx96 (t : Option Addr) (t_n t_c : Nat) (R : Ending → World → Prop) (w : World) : Prop :=
 ∃ (I1 : Int → World → Prop) (m1 : Int → World → Nat), I1 0 w ∧ ∀ n2 w3, I1 n2 w3 → ifB (decide (n2 < ((t_n : Nat) : Int))) (Ab t (fun d4 => (0 ≤ n2 ∧ n2 < (t_n : Nat)) ∧ ∃ b5, w3.cell? (Addr.add (Addr.add d4 (n2.toNat * 3)) 1) = some (.bool b5) ∧ ifB (!b5) (∀ w6, Grew w3 w6 → R (.returned (.bool false)) w6) (ifB (decide (n2 > 0)) (Ab t (fun d7 => (0 ≤ n2 ∧ n2 < (t_n : Nat)) ∧ ∃ n8, w3.cell? (Addr.add d7 (n2.toNat * 3)) = some (.int .u64 n8) ∧ Ab t (fun d9 => (0 ≤ (IntKind.i64.wrap (n2 - 1)) ∧ (IntKind.i64.wrap (n2 - 1)) < (t_n : Nat)) ∧ ∃ n10, w3.cell? (Addr.add d9 ((IntKind.i64.wrap (n2 - 1)).toNat * 3)) = some (.int .u64 n10) ∧ ∀ w11, Grew w3 w11 → ifB (decide (n8 ≤ n10)) (R (.returned (.bool false)) w11) ((I1 (IntKind.i64.wrap (n2 + 1)) w11 ∧ m1 (IntKind.i64.wrap (n2 + 1)) w11 < m1 n2 w3))))) (∀ w12, Grew w3 w12 → (I1 (IntKind.i64.wrap (n2 + 1)) w12 ∧ m1 (IntKind.i64.wrap (n2 + 1)) w12 < m1 n2 w3))))) (R (.returned (.bool true)) w3)
theorem sx96.ok {t : Option Addr} {t_n t_c : Nat} {R : Ending → World → Prop} {w : World} (h : sx96 t t_n t_c R w) : Aa Tryz.prog 96 [.slice t t_n t_c] w R :=
 okOf { loops := [(2, { slots := [(3, .int .i64)], cells := [] })] } mix Tryz.func96 (by kernel_rfl) (by kernel_rfl) (by kernel_rfl) h
def sx104 (t : Option Addr) (t_n t_c : Nat) (R : Ending → World → Prop) (w : World) : Prop :=
 ∀ b1 w2, Ag w w2 b1 (.cells #[] 40) → ∃ (I3 : Option Addr → Nat → Nat → Int → World → Prop) (m3 : Option Addr → Nat → Nat → Int → World → Nat), I3 (some ⟨b1, 0, none⟩) 0 0 0 w2 ∧ ∀ a4 l4 c4 n5 w6, I3 a4 l4 c4 n5 w6 → ifB (decide (n5 < ((t_n : Nat) : Int))) (Ab t (fun d7 => (0 ≤ n5 ∧ n5 < (t_n : Nat)) ∧ ∃ n8, w6.cell? (Addr.add d7 (n5.toNat * 3)) = some (.int .u64 n8) ∧ ∀ b9 w10, Ag w6 w10 b9 (.cells #[.int .u64 n8] 40) → SemW Tryz.prog (Builtin.append_ #[45, 45] 45 #[.slice a4 l4 c4, .slice (some ⟨b9, 0, none⟩) 1 1]) (fun u12 w11 => ∃ a13 l13 c13, u12 = .slice a13 l13 c13 ∧ (I3 a13 l13 c13 (IntKind.i64.wrap (n5 + 1)) w11 ∧ m3 a13 l13 c13 (IntKind.i64.wrap (n5 + 1)) w11 < m3 a4 l4 c4 n5 w6)) w10)) (R (.returned (.slice a4 l4 c4)) w6)
theorem sx104.ok {t : Option Addr} {t_n t_c : Nat} {R : Ending → World → Prop} {w : World} (h : sx104 t t_n t_c R w) : Aa Tryz.prog 104 [.slice t t_n t_c] w R :=
 okOf { sem := [19], loops := [(3, { slots := [(3, .slice), (4, .int .i64)], cells := [] })] } mix Tryz.func104 (by kernel_rfl) (by kernel_rfl) (by kernel_rfl) h
theorem Rf {a : Option Addr} {n c : Nat} {l : List Am} {w : World} (hr : Reads w Enc.pair (a, n, c) l) (hl : l.length ≤ maxLen) (hb : l.length * 24 ≤ 140737488355328) : Aa Tryz.prog 104 [.slice a n c] w (Rets (Dk w 40 (Enc.int .u64) (l.map (·.key)))) := by
 refine sx104.ok ?_
 unfold sx104
 have hn : n = l.length := hr.2.1
 subst hn
 simp only [maxLen] at hl
 intro b1 w2 hal2
 have ho2 := Own.alloc (E := Enc.int .u64) (l := []) hal2 (Nat.le_refl _) rfl (by decide)
 refine ⟨fun a l' c i w' => ∃ k : Nat, i = k ∧ k ≤ l.length ∧ Own w' w.heap.size 40 (Enc.int .u64) a l' c ((l.take k).map (·.key)) ∧ Grew w w', fun _ _ _ i _ => l.length - i.toNat, ⟨0, rfl, Nat.zero_le _, by simpa using ho2, hal2.grew⟩, ?_⟩
 rintro a4 l4 c4 i w6 ⟨k, rfl, hk, ho6, hg6⟩
 refine ⟨fun hlt => ?_, fun hge => ?_⟩
 ·simp only [decide_eq_true_eq] at hlt
  obtain ⟨d, x, rfl, hx, hc⟩ := (hr.grew hg6).at0 (k := k) (by omega)
  obtain ⟨c1, c2⟩ := pair_cells hc
  have hw : IntKind.i64.wrap ((k : Int) + 1) = ((k + 1 : Nat) : Int) := by rw [IntKind.wrap_i64]; omega
  rw [hw]
  refine ⟨⟨by omega, by omega⟩, _, c2, fun b9 w10 hal10 => ?_⟩
  have hlk : ((l.take k).map (·.key)).length ≤ l.length := by simp; omega
  refine Bc (l2 := [x.key]) Aet ho6 hal10 rfl rfl hg6.size (by simp only [maxLen, List.length_singleton]; simp at hlk ⊢; omega) (by simp only [List.length_singleton]; omega) ?_
  rintro v12 w11 ⟨a13, l13, c13, rfl, ho11, hu11, hb11⟩
  refine ⟨_, _, _, rfl, ⟨k + 1, rfl, by omega, ?_, hg6.then_own hu11 fun b hb => (ho6.blk hb).1⟩, by show l.length - (((k + 1 : Nat) : Int)).toNat < l.length - ((k : Int)).toNat; omega⟩
  rw [Ak hx, List.map_append]; exact ho11
 ·simp only [decide_eq_false_iff_not] at hge
  rw [List.take_of_length_le (by omega)] at ho6
  exact ⟨_, rfl, _, _, _, rfl, ho6, hg6⟩
section
variable {H : Type} {enc : TypeId × Value → H}
end
def sx94 (kind : Int) (R : Ending → World → Prop) (w : World) : Prop :=
 ifB (kind == 1) (ifB (kind == 1) (R (.returned (.int .i64 1)) w) (ifB (kind == 4) (R (.returned (.int .i64 2)) w) (ifB (kind == 6) (R (.returned (.int .i64 3)) w) (ifB (kind == 5) (ifB (kind == 5) (R (.returned (.int .i64 4)) w) (R (.returned (.int .i64 0)) w)) (ifB (kind == 7) (R (.returned (.int .i64 4)) w) (R (.returned (.int .i64 0)) w)))))) (ifB (kind == 2) (ifB (kind == 2) (R (.returned (.int .i64 1)) w) (ifB (kind == 4) (R (.returned (.int .i64 2)) w) (ifB (kind == 6) (R (.returned (.int .i64 3)) w) (ifB (kind == 5) (ifB (kind == 5) (R (.returned (.int .i64 4)) w) (R (.returned (.int .i64 0)) w)) (ifB (kind == 7) (R (.returned (.int .i64 4)) w) (R (.returned (.int .i64 0)) w)))))) (ifB (kind == 3) (ifB (kind == 3) (R (.returned (.int .i64 1)) w) (ifB (kind == 4) (R (.returned (.int .i64 2)) w) (ifB (kind == 6) (R (.returned (.int .i64 3)) w) (ifB (kind == 5) (ifB (kind == 5) (R (.returned (.int .i64 4)) w) (R (.returned (.int .i64 0)) w)) (ifB (kind == 7) (R (.returned (.int .i64 4)) w) (R (.returned (.int .i64 0)) w)))))) (ifB (kind == 8) (R (.returned (.int .i64 1)) w) (ifB (kind == 4) (R (.returned (.int .i64 2)) w) (ifB (kind == 6) (R (.returned (.int .i64 3)) w) (ifB (kind == 5) (ifB (kind == 5) (R (.returned (.int .i64 4)) w) (R (.returned (.int .i64 0)) w)) (ifB (kind == 7) (R (.returned (.int .i64 4)) w) (R (.returned (.int .i64 0)) w))))))))
theorem sx94.ok {kind : Int} {R : Ending → World → Prop} {w : World} (h : sx94 kind R w) : Aa Tryz.prog 94 [.int .i64 kind] w R :=
 okOf {} mix Tryz.func94 (by kernel_rfl) (by kernel_rfl) (by kernel_rfl) h
def sx48 (d_0 d_1 d_2 d_3 d_4 d_5 : Int) (d_6 : Option Addr) (d_6_n d_6_c : Nat) (d_7 : Option Addr) (d_7_n d_7_c : Nat) (d_8 : Option Addr) (d_8_n d_8_c : Nat) (R : Ending → World → Prop) (w : World) : Prop :=
 ∀ w1, Grew w w1 → Aa Tryz.prog 94 [.int .i64 d_0] w1 (RetR R fun u3 w2 => ∃ n4, u3 = .int .i64 n4 ∧ ∃ J6 : Bool → World → Prop, (ifB (n4 == 0) (J6 true w2) (ifB (decide (d_1 < 0)) (J6 true w2) (ifB (decide (d_1 > 8)) (J6 true w2) (ifB (decide (d_2 < 0)) (J6 true w2) (ifB (decide (d_2 > 8)) (J6 true w2) (ifB (decide (d_3 < 1)) (J6 true w2) (ifB (decide (d_3 > 1099511627776)) (J6 true w2) (ifB (decide (d_4 < 1)) (J6 true w2) (J6 (decide (d_4 > 1099511627776)) w2))))))))) ∧ ∀ b7 w8, J6 b7 w8 → ifB b7 (R (.returned (.bool false)) w8) (∃ J9 : Bool → World → Prop, (ifB (n4 != 1) (ifB (decide (((d_6_n : Nat) : Int) > 0)) (J9 true w8) (ifB (n4 != 2) (ifB (decide (((d_7_n : Nat) : Int) > 0)) (J9 true w8) (ifB (n4 != 3) (ifB (decide (((d_8_n : Nat) : Int) > 0)) (J9 true w8) (ifB (n4 != 4) (J9 (d_5 != 0) w8) (J9 false w8))) (ifB (n4 != 4) (J9 (d_5 != 0) w8) (J9 false w8)))) (ifB (n4 != 3) (ifB (decide (((d_8_n : Nat) : Int) > 0)) (J9 true w8) (ifB (n4 != 4) (J9 (d_5 != 0) w8) (J9 false w8))) (ifB (n4 != 4) (J9 (d_5 != 0) w8) (J9 false w8))))) (ifB (n4 != 2) (ifB (decide (((d_7_n : Nat) : Int) > 0)) (J9 true w8) (ifB (n4 != 3) (ifB (decide (((d_8_n : Nat) : Int) > 0)) (J9 true w8) (ifB (n4 != 4) (J9 (d_5 != 0) w8) (J9 false w8))) (ifB (n4 != 4) (J9 (d_5 != 0) w8) (J9 false w8)))) (ifB (n4 != 3) (ifB (decide (((d_8_n : Nat) : Int) > 0)) (J9 true w8) (ifB (n4 != 4) (J9 (d_5 != 0) w8) (J9 false w8))) (ifB (n4 != 4) (J9 (d_5 != 0) w8) (J9 false w8))))) ∧ ∀ b10 w11, J9 b10 w11 → ifB b10 (R (.returned (.bool false)) w11) (∃ J12 : Bool → World → Prop, (ifB (n4 == 1) (ifB (decide (((d_6_n : Nat) : Int) < 1)) (J12 true w11) (J12 (decide (((d_6_n : Nat) : Int) > 4)) w11)) (J12 false w11)) ∧ ∀ b13 w14, J12 b13 w14 → ifB b13 (R (.returned (.bool false)) w14) (∃ (I15 : Int → World → Prop) (m15 : Int → World → Nat), I15 0 w14 ∧ ∀ n16 w17, I15 n16 w17 → ifB (decide (n16 < ((d_6_n : Nat) : Int))) (∃ J18 : Bool → World → Prop, (Ab d_6 (fun d19 => (0 ≤ n16 ∧ n16 < (d_6_n : Nat)) ∧ ∃ n20, w17.cell? (Addr.add d19 (n16.toNat * 1)) = some (.int .i64 n20) ∧ ifB (decide (n20 < 0)) (J18 true w17) (Ab d_6 (fun d21 => (0 ≤ n16 ∧ n16 < (d_6_n : Nat)) ∧ ∃ n22, w17.cell? (Addr.add d21 (n16.toNat * 1)) = some (.int .i64 n22) ∧ J18 (decide (n22 > 256)) w17)))) ∧ ∀ b23 w24, J18 b23 w24 → ifB b23 (R (.returned (.bool false)) w24) ((I15 (IntKind.i64.wrap (n16 + 1)) w24 ∧ m15 (IntKind.i64.wrap (n16 + 1)) w24 < m15 n16 w17))) (ifB (decide (((d_7_n : Nat) : Int) ≤ 64)) (Aa Tryz.prog 95 [.slice d_7 d_7_n d_7_c] w17 (RetR R fun u26 w25 => ∃ b27, u26 = .bool b27 ∧ ifB b27 (ifB (decide (((d_8_n : Nat) : Int) ≤ 64)) (Aa Tryz.prog 96 [.slice d_8 d_8_n d_8_c] w25 (RetR R fun u30 w29 => ∃ b31, u30 = .bool b31 ∧ ifB b31 (ifB (decide (d_5 ≥ 0)) (R (.returned (.bool (decide (d_5 ≤ 1000)))) w29) (R (.returned (.bool false)) w29)) (R (.returned (.bool false)) w29))) (R (.returned (.bool false)) w25)) (R (.returned (.bool false)) w25))) (R (.returned (.bool false)) w17))))))
theorem sx48.ok {d_0 d_1 d_2 d_3 d_4 d_5 : Int} {d_6 : Option Addr} {d_6_n d_6_c : Nat} {d_7 : Option Addr} {d_7_n d_7_c : Nat} {d_8 : Option Addr} {d_8_n d_8_c : Nat} {R : Ending → World → Prop} {w : World} (h : sx48 d_0 d_1 d_2 d_3 d_4 d_5 d_6 d_6_n d_6_c d_7 d_7_n d_7_c d_8 d_8_n d_8_c R w) : Aa Tryz.prog 48 [.agg #[.int .i64 d_0, .int .i64 d_1, .int .i64 d_2, .int .i64 d_3, .int .i64 d_4, .int .i64 d_5, .slice d_6 d_6_n d_6_c, .slice d_7 d_7_n d_7_c, .slice d_8 d_8_n d_8_c]] w R :=
 okOf { locals := [1], loops := [(9, { slots := [(4, .int .i64)], cells := [] })], cuts := [(3, { slots := [(49, .bool)], cells := [] }), (5, { slots := [(86, .bool)], cells := [] }), (7, { slots := [(100, .bool)], cells := [] }), (12, { slots := [(121, .bool)], cells := [] })] } mix Tryz.func48 (by kernel_rfl) (by kernel_rfl) (by kernel_rfl) h
theorem Ab6 {k : Int} {w : World} : Aa Tryz.prog 94 [.int .i64 k] w (Rets fun v w' => v = .int .i64 (Co k) ∧ w' = w) := by
 refine sx94.ok ?_
 unfold sx94
 have leaf : ∀ c : Int, c = Co k → Rets (fun v w' => v = Value.int .i64 (Co k) ∧ w' = w) (.returned (.int .i64 c)) w := fun c h => ⟨_, rfl, by rw [h], rfl⟩
 repeat' first
  | refine leaf _ ?_
  | refine And.intro (fun h => ?_) (fun h => ?_)
 all_goals simp only [beq_iff_eq, beq_eq_false_iff_ne, ne_eq] at *
 all_goals (unfold Co; repeat' split)
 all_goals omega
theorem Vr {a : Option Addr} {n c : Nat} {l : List Am} {w : World} (hr : Reads w Enc.pair (a, n, c) l) (hl : l.length ≤ 9223372036854775806) :
  Aa Tryz.prog 96 [.slice a n c] w (Rets fun v w' => v = .bool (Do l) ∧ Grew w w') := by
 refine sx96.ok ?_
 unfold sx96
 have hn : n = l.length := hr.2.1
 subst hn
 refine ⟨fun i w' => ∃ k : Nat, i = k ∧ k ≤ l.length ∧ (∀ (j : Nat) (x : Am), j < k → l[j]? = some x → x.has = true) ∧ (∀ (j : Nat) (x y : Am), j + 1 < k → l[j]? = some x → l[j + 1]? = some y → x.key < y.key) ∧ Grew w w', fun i _ => l.length - i.toNat, ⟨0, rfl, Nat.zero_le _, fun j x h => by omega, fun j x y h => by omega, Grew.refl _⟩, ?_⟩
 rintro i w' ⟨k, rfl, hk, hh, hlt, hg⟩
 refine ⟨fun h => ?_, fun h => ?_⟩
 ·simp only [decide_eq_true_eq] at h
  have hw1 : IntKind.i64.wrap ((k : Int) + 1) = ((k + 1 : Nat) : Int) := by rw [IntKind.wrap_i64]; omega
  obtain ⟨d, y, rfl, hy, hcy⟩ := (hr.grew hg).at0 (k := k) (by omega)
  have hm : l.length - (((k + 1 : Nat) : Int)).toNat < l.length - ((k : Int)).toNat := by omega
  have hcb := hcy.2.1; have hck := hcy.1
  refine ⟨by omega, y.has, by simpa [Enc.pair, Addr.add_zero'] using hcb, fun hb w6 hg6 => ?_, fun hb => ⟨fun h0 => ?_, fun h0 w12 hg12 => ?_⟩⟩
  ·have hb' : y.has = false := by simpa using hb
   have : Do l = false := by
    apply Bool.eq_false_iff.2
    intro he
    have := ((Ec l).1 he).1 k y hy
    rw [hb'] at this; cases this
   exact ⟨_, rfl, by rw [this], hg.trans hg6⟩
  ·simp only [decide_eq_true_eq] at h0
   have hb' : y.has = true := by simpa using hb
   have hw2 : IntKind.i64.wrap ((k : Int) - 1) = ((k - 1 : Nat) : Int) := by rw [IntKind.wrap_i64]; omega
   rw [hw2, hw1]
   obtain ⟨d', x, hd', hx, hcx⟩ := (hr.grew hg).at0 (k := k - 1) (by omega)
   cases hd'
   refine ⟨by omega, y.key, by simpa [Enc.pair, Addr.add_zero'] using hck, by omega, x.key, by have := hcx.1; simpa [Enc.pair, Addr.add_zero'] using this, fun w11 hg11 => ⟨fun hle => ?_, fun hle => ?_⟩⟩
   ·simp only [decide_eq_true_eq] at hle
    have : Do l = false := by
     apply Bool.eq_false_iff.2
     intro he
     have := ((Ec l).1 he).2 (k - 1) x y hx (by rw [show k - 1 + 1 = k from by omega]; exact hy)
     omega
    exact ⟨_, rfl, by rw [this], hg.trans hg11⟩
   ·simp only [decide_eq_false_iff_not] at hle
    refine ⟨⟨k + 1, rfl, by omega, fun j u hj hu => ?_, fun j u v hj hu hv => ?_, hg.trans hg11⟩, hm⟩
    ·by_cases hjk : j < k
     ·exact hh j u hjk hu
     ·have : j = k := by omega
      subst this; rw [hy] at hu; cases hu; exact hb'
    ·by_cases hjk : j + 1 < k
     ·exact hlt j u v hjk hu hv
     ·have : j = k - 1 := by omega
      subst this
      rw [show k - 1 + 1 = k from by omega] at hv
      rw [hx] at hu; rw [hy] at hv
      cases hu; cases hv; omega
  ·simp only [decide_eq_false_iff_not] at h0
   have hb' : y.has = true := by simpa using hb
   rw [hw1]
   refine ⟨⟨k + 1, rfl, by omega, fun j u hj hu => ?_, fun j u v hj hu hv => by omega, hg.trans hg12⟩, hm⟩
   have : j = k := by omega
   subst this; rw [hy] at hu; cases hu; exact hb'
 ·simp only [decide_eq_false_iff_not] at h
  have : Do l = true := (Ec l).2 ⟨fun i x hx => by
   have : i < l.length := (List.getElem?_eq_some_iff.1 hx).1
   exact hh i x (by omega) hx, fun i x y hx hy => by
   have : i + 1 < l.length := (List.getElem?_eq_some_iff.1 hy).1
   exact hlt i x y (by omega) hx hy⟩
  exact ⟨_, rfl, by rw [this], hg⟩
set_option maxHeartbeats 1000000 in
theorem Vs {x : Msg} {w : World} (hx : x.At w) (h1 : x.c.ends.length ≤ 9223372036854775806) (h2 : x.c.keys.length ≤ 9223372036854775806) (h3 : x.c.pairs.length ≤ 9223372036854775806) :
  Aa Tryz.prog 48 [x.val] w (Rets fun v w' => v = .bool (Bl x.c) ∧ Grew w w') := by
 refine sx48.ok ?_
 unfold sx48
 have he : x.e.2.1 = x.c.ends.length := hx.e.2.1
 have hk : x.k.2.1 = x.c.keys.length := hx.k.2.1
 have hp : x.p.2.1 = x.c.pairs.length := hx.p.2.1
 have hsi := F1 x.c
 have no : ∀ w', Grew w w' → ¬ (Bl x.c = true) → Rets (fun v w' => v = Value.bool (Bl x.c) ∧ Grew w w') (.returned (.bool false)) w' := fun w' hg h => ⟨_, rfl, by rw [Bool.eq_false_iff.2 h], hg⟩
 have fin : ∀ b w', Grew w w' → (b = true ↔ Bl x.c = true) → Rets (fun v w' => v = Value.bool (Bl x.c) ∧ Grew w w') (.returned (.bool b)) w' := fun b w' hg h => ⟨_, rfl, by rw [Bool.eq_iff_iff.2 h], hg⟩
 intro w1 hg1
 refine Ab6.use fun v w2 ⟨hv, hw⟩ => ?_
 subst hv; subst hw
 obtain ⟨f, hf⟩ : ∃ f, f = Co x.c.kind := ⟨_, rfl⟩
 rw [← hf] at hsi ⊢
 refine ⟨f, rfl, fun b w' => Grew w w' ∧ (b = false ↔ (f ≠ 0 ∧ (0 ≤ x.c.frm ∧ x.c.frm ≤ 8) ∧ (0 ≤ x.c.to ∧ x.c.to ≤ 8) ∧ (1 ≤ x.c.batch ∧ x.c.batch ≤ 1099511627776) ∧ (1 ≤ x.c.att ∧ x.c.att ≤ 1099511627776))), ?_, ?_⟩
 ·clear hsi no fin
  repeat' first
   | refine And.intro (fun h => ?_) (fun h => ?_)
   | refine And.intro hg1 ?_
  all_goals simp only [beq_iff_eq, beq_eq_false_iff_ne, ne_eq, decide_eq_true_eq, decide_eq_false_iff_not, Bool.true_eq_false, iff_true, iff_false, true_iff, false_iff] at *
  all_goals omega
 rintro b7 w8 ⟨hg8, hb7⟩
 refine ⟨fun h => no _ hg8 fun hs => ?_, fun h => ?_⟩
 ·have := hsi.1 hs; rw [h] at hb7; have := hb7.2 ⟨this.1, this.2.1, this.2.2.1, this.2.2.2.1, this.2.2.2.2.1⟩; cases this
 obtain ⟨f0, ffr, fto, fba, fat⟩ := hb7.1 h
 refine ⟨fun b w' => Grew w w' ∧ (b = false ↔ ((f ≠ 1 → x.c.ends.length = 0) ∧ (f ≠ 2 → x.c.keys.length = 0) ∧ (f ≠ 3 → x.c.pairs.length = 0) ∧ (f ≠ 4 → x.c.code = 0))), ?_, ?_⟩
 ·clear hsi no fin hb7
  repeat' first
   | refine And.intro (fun h => ?_) (fun h => ?_)
   | refine And.intro hg8 ?_
  all_goals simp only [beq_iff_eq, beq_eq_false_iff_ne, bne_iff_ne, bne_eq_false_iff_eq, ne_eq, decide_eq_true_eq, decide_eq_false_iff_not, Bool.true_eq_false, iff_true, iff_false, true_iff, false_iff] at *
  all_goals omega
 rintro b10 w11 ⟨hg11, hb10⟩
 refine ⟨fun h => no _ hg11 fun hs => ?_, fun h => ?_⟩
 ·have := hsi.1 hs; rw [h] at hb10
  have := hb10.2 ⟨this.2.2.2.2.2.1, this.2.2.2.2.2.2.1, this.2.2.2.2.2.2.2.1, this.2.2.2.2.2.2.2.2.1⟩; cases this
 obtain ⟨k1, k2, k3, k4⟩ := hb10.1 h
 refine ⟨fun b w' => Grew w w' ∧ (b = false ↔ (f = 1 → 1 ≤ x.c.ends.length ∧ x.c.ends.length ≤ 4)), ?_, ?_⟩
 ·clear hsi no fin hb7 hb10
  repeat' first
   | refine And.intro (fun h => ?_) (fun h => ?_)
   | refine And.intro hg11 ?_
  all_goals simp only [beq_iff_eq, beq_eq_false_iff_ne, bne_iff_ne, bne_eq_false_iff_eq, ne_eq, decide_eq_true_eq, decide_eq_false_iff_not, Bool.true_eq_false, iff_true, iff_false, true_iff, false_iff] at *
  all_goals omega
 rintro b13 w14 ⟨hg14, hb13⟩
 refine ⟨fun h => no _ hg14 fun hs => ?_, fun h => ?_⟩
 ·have := hsi.1 hs; rw [h] at hb13
  have := hb13.2 this.2.2.2.2.2.2.2.2.2.1; cases this
 have k5 := hb13.1 h
 obtain ⟨l, hl⟩ : ∃ l, l = x.c.ends := ⟨_, rfl⟩
 have hre : Reads w (Enc.int .i64) x.e l := by rw [hl]; exact hx.e
 have hll : l.length ≤ 9223372036854775806 := by rw [hl]; exact h1
 rw [← hl] at he
 refine ⟨fun i w' => ∃ k : Nat, i = k ∧ k ≤ l.length ∧ Kd (l.take k) = true ∧ Grew w w', fun i _ => l.length - i.toNat, ⟨0, rfl, Nat.zero_le _, rfl, hg14⟩, ?_⟩
 rintro i w17 ⟨k, rfl, hkl, hlt, hg17⟩
 refine ⟨fun h => ?_, fun h => ?_⟩
 ·simp only [decide_eq_true_eq] at h
  have hw1 : IntKind.i64.wrap ((k : Int) + 1) = ((k + 1 : Nat) : Int) := by rw [IntKind.wrap_i64]; omega
  have hre' : Reads w17 (Enc.int .i64) (x.e.1, x.e.2.1, x.e.2.2) l := hre.grew hg17
  obtain ⟨d, y, hd, hy, hcy⟩ := hre'.at0 (k := k) (by omega)
  have hcy' : w17.cell? (Addr.add d (((k : Nat) : Int).toNat * 1)) = some (.int .i64 y) := by simpa [Enc.int, Ae, Addr.add_zero'] using hcy
  rw [hd]
  refine ⟨fun b w' => w' = w17 ∧ (b = false ↔ (0 ≤ y ∧ y ≤ 256)), ⟨by omega, y, hcy', fun h => ⟨rfl, ?_⟩, fun h => ⟨by omega, y, hcy', rfl, ?_⟩⟩, ?_⟩
  ·simp only [decide_eq_true_eq] at h; simp only [Bool.true_eq_false, false_iff]; omega
  ·simp only [decide_eq_false_iff_not] at h ⊢; omega
  rintro b23 w24 ⟨rfl, hb23⟩
  refine ⟨fun hb => no _ hg17 fun hs => ?_, fun hb => ?_⟩
  ·have h5 := (hsi.1 hs).2.2.2.2.2.2.2.2.2.2.1
   rw [← hl] at h5
   have := List.all_eq_true.1 h5 y (List.mem_of_getElem? hy)
   rw [hb] at hb23
   have := hb23.2 (by simpa using this); cases this
  ·rw [hw1]
   have hyb := hb23.1 hb
   refine ⟨⟨k + 1, rfl, by omega, ?_, hg17⟩, by show l.length - (((k + 1 : Nat) : Int)).toNat < l.length - ((k : Int)).toNat; omega⟩
   rw [Ak hy]
   unfold Kd at hlt ⊢
   rw [List.all_append, hlt]; simp [hyb]
 ·simp only [decide_eq_false_iff_not] at h
  rw [List.take_of_length_le (by omega), hl] at hlt
  have hx17 := hx.grew hg17
  refine ⟨fun h6 => ?_, fun h6 => no _ hg17 fun hs => ?_⟩
  ·simp only [decide_eq_true_eq] at h6
   refine (Ub hx17.k h2).use fun v w25 ⟨hv, hg25⟩ => ?_
   subst hv
   have hg25' := hg17.trans hg25
   refine ⟨_, rfl, fun h7 => ⟨fun h8 => ?_, fun h8 => no _ hg25' fun hs => ?_⟩, fun h7 => no _ hg25' fun hs => ?_⟩
   ·simp only [decide_eq_true_eq] at h8
    refine (Vr (hx17.grew hg25).p h3).use fun v w29 ⟨hv, hg29⟩ => ?_
    subst hv
    have hg29' := hg25'.trans hg29
    refine ⟨_, rfl, fun h9 => ⟨fun h10 => fin _ _ hg29' ?_, fun h10 => no _ hg29' fun hs => ?_⟩, fun h9 => no _ hg29' fun hs => ?_⟩
    ·simp only [decide_eq_true_eq] at h10 ⊢
     rw [hsi]
     exact ⟨fun hc => ⟨f0, ffr, fto, fba, fat, k1, k2, k3, k4, k5, hlt, by omega, h7, by omega, h9, by omega, hc⟩, fun hs => hs.2.2.2.2.2.2.2.2.2.2.2.2.2.2.2.2⟩
    ·simp only [decide_eq_false_iff_not] at h10
     have := (hsi.1 hs).2.2.2.2.2.2.2.2.2.2.2.2.2.2.2.1; omega
    ·have := (hsi.1 hs).2.2.2.2.2.2.2.2.2.2.2.2.2.2.1; rw [h9] at this; cases this
   ·simp only [decide_eq_false_iff_not] at h8
    have := (hsi.1 hs).2.2.2.2.2.2.2.2.2.2.2.2.2.1; omega
   ·have := (hsi.1 hs).2.2.2.2.2.2.2.2.2.2.2.2.1; rw [h7] at this; cases this
  ·simp only [decide_eq_false_iff_not] at h6
   have := (hsi.1 hs).2.2.2.2.2.2.2.2.2.2.2.1; omega
end Go.Proofs.YtcpkneemhfnanaaGreat
