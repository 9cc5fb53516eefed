/- What msg's Sound hands back. Conditions: none. -/
import Derived.Test.YtcpkneemhfnanaaGreatProg
import Derived.Test.YtcpkneemhfnanaaGreatKRise
import Derived.Test.YtcpkneemhfnanaaGreatFoldA
import Derived.Test.YtcpkneemhfnanaaGreatSxN
import Derived.Test.YtcpkneemhfnanaaGreatSxX
import Derived.Shelf.Strconv.Itoa0
import Derived.Shelf.Sort.Plain
import Derived.Shelf.Slices.In.SortNone
namespace Go.Proofs.YtcpkneemhfnanaaGreat
open Go.Sx
set_option maxRecDepth 100000
set_option linter.unusedVariables false
set_option linter.unusedSimpArgs false
def sx84 (kind : Int) (R : Ending → World → Prop) (w : World) : Prop :=
 ifB (kind == 1) (ifB (kind == 1) (R (.returned (.int .i64 1)) w) (ifB (kind == 4) (R (.returned (.int .i64 2)) w) (ifB (kind == 6) (R (.returned (.int .i64 3)) w) (ifB (kind == 5) (ifB (kind == 5) (R (.returned (.int .i64 4)) w) (R (.returned (.int .i64 0)) w)) (ifB (kind == 7) (R (.returned (.int .i64 4)) w) (R (.returned (.int .i64 0)) w)))))) (ifB (kind == 2) (ifB (kind == 2) (R (.returned (.int .i64 1)) w) (ifB (kind == 4) (R (.returned (.int .i64 2)) w) (ifB (kind == 6) (R (.returned (.int .i64 3)) w) (ifB (kind == 5) (ifB (kind == 5) (R (.returned (.int .i64 4)) w) (R (.returned (.int .i64 0)) w)) (ifB (kind == 7) (R (.returned (.int .i64 4)) w) (R (.returned (.int .i64 0)) w)))))) (ifB (kind == 3) (ifB (kind == 3) (R (.returned (.int .i64 1)) w) (ifB (kind == 4) (R (.returned (.int .i64 2)) w) (ifB (kind == 6) (R (.returned (.int .i64 3)) w) (ifB (kind == 5) (ifB (kind == 5) (R (.returned (.int .i64 4)) w) (R (.returned (.int .i64 0)) w)) (ifB (kind == 7) (R (.returned (.int .i64 4)) w) (R (.returned (.int .i64 0)) w)))))) (ifB (kind == 8) (R (.returned (.int .i64 1)) w) (ifB (kind == 4) (R (.returned (.int .i64 2)) w) (ifB (kind == 6) (R (.returned (.int .i64 3)) w) (ifB (kind == 5) (ifB (kind == 5) (R (.returned (.int .i64 4)) w) (R (.returned (.int .i64 0)) w)) (ifB (kind == 7) (R (.returned (.int .i64 4)) w) (R (.returned (.int .i64 0)) w))))))))
theorem sx84.ok {kind : Int} {R : Ending → World → Prop} {w : World} (h : sx84 kind R w) : Aa Tryz.prog 84 [.int .i64 kind] w R :=
 okOf {} mix Tryz.func84 (by kernel_rfl) (by kernel_rfl) (by kernel_rfl) h
def sx85 (low n high : Int) (R : Ending → World → Prop) (w : World) : Prop :=
 ifB (decide (low ≤ n)) (R (.returned (.bool (decide (n ≤ high)))) w) (R (.returned (.bool false)) w)
theorem sx85.ok {low n high : Int} {R : Ending → World → Prop} {w : World} (h : sx85 low n high R w) : Aa Tryz.prog 85 [.int .i64 low, .int .i64 n, .int .i64 high] w R :=
 okOf {} mix Tryz.func85 (by kernel_rfl) (by kernel_rfl) (by kernel_rfl) h
def sx86 (list : Option Addr) (list_n list_c : Nat) (R : Ending → World → Prop) (w : World) : Prop :=
 ∃ (I1 : Int → World → Prop) (m1 : Int → World → Nat), I1 0 w ∧ ∀ n2 w3, I1 n2 w3 → ifB (decide (n2 < ((list_n : Nat) : Int))) (Ab list (fun d4 => (0 ≤ n2 ∧ n2 < (list_n : Nat)) ∧ ∃ n5, w3.cell? (Addr.add d4 (n2.toNat * 1)) = some (.int .i64 n5) ∧ Aa Tryz.prog 85 [.int .i64 0, .int .i64 n5, .int .i64 256] w3 (RetR R fun u7 w6 => ∃ b8, u7 = .bool b8 ∧ ifB (!b8) (R (.returned (.bool false)) w6) ((I1 (IntKind.i64.wrap (n2 + 1)) w6 ∧ m1 (IntKind.i64.wrap (n2 + 1)) w6 < m1 n2 w3))))) (Aa Tryz.prog 85 [.int .i64 1, .int .i64 ((list_n : Nat) : Int), .int .i64 4] w3 (RetR R fun u11 w10 => ∃ b12, u11 = .bool b12 ∧ R (.returned (.bool b12)) w10))
theorem sx86.ok {list : Option Addr} {list_n list_c : Nat} {R : Ending → World → Prop} {w : World} (h : sx86 list list_n list_c R w) : Aa Tryz.prog 86 [.slice list list_n list_c] w R :=
 okOf { loops := [(2, { slots := [(7, .int .i64)], cells := [] })] } mix Tryz.func86 (by kernel_rfl) (by kernel_rfl) (by kernel_rfl) h
def sx44 (d_0 d_1 d_2 d_3 d_4 d_5 : Int) (d_6 : Option Addr) (d_6_n d_6_c : Nat) (d_7 : Option Addr) (d_7_n d_7_c : Nat) (d_8 : Option Addr) (d_8_n d_8_c : Nat) (R : Ending → World → Prop) (w : World) : Prop :=
 ∀ w1, Grew w w1 → Aa Tryz.prog 84 [.int .i64 d_0] w1 (RetR R fun u3 w2 => ∃ n4, u3 = .int .i64 n4 ∧ ∃ J6 : Bool → World → Prop, (ifB (n4 == 0) (J6 true w2) (Aa Tryz.prog 85 [.int .i64 0, .int .i64 d_1, .int .i64 8] w2 (RetR R fun u8 w7 => ∃ b9, u8 = .bool b9 ∧ ifB (!b9) (J6 true w7) (Aa Tryz.prog 85 [.int .i64 0, .int .i64 d_2, .int .i64 8] w7 (RetR R fun u12 w11 => ∃ b13, u12 = .bool b13 ∧ J6 (!b13) w11))))) ∧ ∀ b15 w16, J6 b15 w16 → ifB b15 (R (.returned (.bool false)) w16) (∃ J17 : Bool → World → Prop, (Aa Tryz.prog 85 [.int .i64 1, .int .i64 d_3, .int .i64 1099511627776] w16 (RetR R fun u19 w18 => ∃ b20, u19 = .bool b20 ∧ ifB (!b20) (J17 true w18) (Aa Tryz.prog 85 [.int .i64 1, .int .i64 d_4, .int .i64 1099511627776] w18 (RetR R fun u23 w22 => ∃ b24, u23 = .bool b24 ∧ J17 (!b24) w22)))) ∧ ∀ b26 w27, J17 b26 w27 → ifB b26 (R (.returned (.bool false)) w27) (∃ J28 : Bool → World → Prop, (∃ J29 : Bool → World → Prop, (ifB (n4 != 1) (J29 (decide (((d_6_n : Nat) : Int) > 0)) w27) (J29 false w27)) ∧ ∀ b30 w31, J29 b30 w31 → ifB b30 (J28 b30 w31) (∃ J32 : Bool → World → Prop, (ifB (n4 != 2) (J32 (decide (((d_7_n : Nat) : Int) > 0)) w31) (J32 false w31)) ∧ ∀ b33 w34, J32 b33 w34 → ifB b33 (J28 b33 w34) (∃ J35 : Bool → World → Prop, (ifB (n4 != 3) (J35 (decide (((d_8_n : Nat) : Int) > 0)) w34) (J35 false w34)) ∧ ∀ b36 w37, J35 b36 w37 → ifB b36 (J28 b36 w37) (ifB (n4 != 4) (J28 (d_5 != 0) w37) (J28 false w37))))) ∧ ∀ b38 w39, J28 b38 w39 → ifB b38 (R (.returned (.bool false)) w39) (ifB (n4 == 1) (Aa Tryz.prog 86 [.slice d_6 d_6_n d_6_c] w39 (RetR R fun u41 w40 => ∃ b42, u41 = .bool b42 ∧ R (.returned (.bool b42)) w40)) (ifB (n4 == 2) (ifB (decide (((d_7_n : Nat) : Int) ≤ 64)) (Aa Tryz.prog 87 [.slice d_7 d_7_n d_7_c] w39 (RetR R fun u45 w44 => ∃ b46, u45 = .bool b46 ∧ R (.returned (.bool b46)) w44)) (R (.returned (.bool false)) w39)) (ifB (n4 == 3) (ifB (decide (((d_8_n : Nat) : Int) ≤ 64)) (Aa Tryz.prog 66 [.slice d_8 d_8_n d_8_c] w39 (RetR R fun u49 w48 => ∃ b50, u49 = .bool b50 ∧ R (.returned (.bool b50)) w48)) (R (.returned (.bool false)) w39)) (Aa Tryz.prog 85 [.int .i64 0, .int .i64 d_5, .int .i64 1000] w39 (RetR R fun u53 w52 => ∃ b54, u53 = .bool b54 ∧ R (.returned (.bool b54)) w52))))))))
theorem sx44.ok {d_0 d_1 d_2 d_3 d_4 d_5 : Int} {d_6 : Option Addr} {d_6_n d_6_c : Nat} {d_7 : Option Addr} {d_7_n d_7_c : Nat} {d_8 : Option Addr} {d_8_n d_8_c : Nat} {R : Ending → World → Prop} {w : World} (h : sx44 d_0 d_1 d_2 d_3 d_4 d_5 d_6 d_6_n d_6_c d_7 d_7_n d_7_c d_8 d_8_n d_8_c R w) : Aa Tryz.prog 44 [.agg #[.int .i64 d_0, .int .i64 d_1, .int .i64 d_2, .int .i64 d_3, .int .i64 d_4, .int .i64 d_5, .slice d_6 d_6_n d_6_c, .slice d_7 d_7_n d_7_c, .slice d_8 d_8_n d_8_c]] w R :=
 okOf { locals := [1], cuts := [(3, { slots := [(7, .bool)], cells := [] }), (5, { slots := [(22, .bool)], cells := [] }), (7, { slots := [(33, .bool)], cells := [] }), (8, { slots := [(33, .bool)], cells := [] }), (9, { slots := [(33, .bool)], cells := [] }), (10, { slots := [(33, .bool)], cells := [] })] } mix Tryz.func44 (by kernel_rfl) (by kernel_rfl) (by kernel_rfl) h
theorem Aff {k : Int} {w : World} : Aa Tryz.prog 84 [.int .i64 k] w (Rets fun v w' => v = .int .i64 (Co k) ∧ w' = w) := by
 refine sx84.ok ?_
 unfold sx84
 have leaf : ∀ c : Int, c = Co k → Rets (fun v w' => v = Value.int .i64 (Co k) ∧ w' = w) (.returned (.int .i64 c)) w := fun c h => ⟨_, rfl, by rw [h], rfl⟩
 repeat' first
  | refine leaf _ ?_
  | refine And.intro (fun h => ?_) (fun h => ?_)
 all_goals simp only [beq_iff_eq, beq_eq_false_iff_ne, ne_eq] at *
 all_goals (unfold Co; repeat' split)
 all_goals omega
theorem E9 {a n b : Int} {w : World} : Aa Tryz.prog 85 [.int .i64 a, .int .i64 n, .int .i64 b] w (Rets fun v w' => v = .bool (decide (a ≤ n ∧ n ≤ b)) ∧ w' = w) := by
 refine sx85.ok ?_
 unfold sx85
 refine ⟨fun h => ⟨_, rfl, ?_, rfl⟩, fun h => ⟨_, rfl, ?_, rfl⟩⟩
 ·simp only [decide_eq_true_eq] at h; simp [h]
 ·simp only [decide_eq_false_iff_not] at h; simp [h]
theorem Ye {a : Option Addr} {n c : Nat} {l : List Int} {w : World} (hr : Reads w (Enc.int .i64) (a, n, c) l) (hl : l.length ≤ 9223372036854775806) :
  Aa Tryz.prog 86 [.slice a n c] w (Rets fun v w' => v = .bool (Kd l && decide (1 ≤ l.length ∧ l.length ≤ 4)) ∧ w' = w) := by
 refine sx86.ok ?_
 unfold sx86
 have hn : n = l.length := hr.2.1
 subst hn
 refine ⟨fun i w' => ∃ k : Nat, i = k ∧ k ≤ l.length ∧ Kd (l.take k) = true ∧ w' = w, fun i _ => l.length - i.toNat, ⟨0, rfl, Nat.zero_le _, rfl, rfl⟩, ?_⟩
 rintro i w' ⟨k, rfl, hk, hlt, rfl⟩
 refine ⟨fun h => ?_, fun h => ?_⟩
 ·simp only [decide_eq_true_eq] at h
  have hw1 : IntKind.i64.wrap ((k : Int) + 1) = ((k + 1 : Nat) : Int) := by rw [IntKind.wrap_i64]; omega
  obtain ⟨d, y, rfl, hy, hcy⟩ := hr.at0 (k := k) (by omega)
  rw [hw1]
  refine ⟨by omega, y, by simpa [Enc.int, Ae, Addr.add_zero'] using hcy, E9.use fun v w6 ⟨hv, hw⟩ => ?_⟩
  subst hv; subst hw
  refine ⟨_, rfl, fun hb => ?_, fun hb => ⟨⟨k + 1, rfl, by omega, ?_, rfl⟩, by show l.length - (((k + 1 : Nat) : Int)).toNat < l.length - ((k : Int)).toNat; omega⟩⟩
  ·have hb' : ¬ (0 ≤ y ∧ y ≤ 256) := by rw [Bool.not_eq_true', decide_eq_false_iff_not] at hb; exact hb
   have : Kd l = false := by
    apply Bool.eq_false_iff.2
    intro he
    have := List.all_eq_true.1 he y (List.mem_of_getElem? hy)
    exact hb' (by simpa using this)
   exact ⟨_, rfl, by rw [this]; rfl, rfl⟩
  ·have hb' : 0 ≤ y ∧ y ≤ 256 := by simpa using hb
   rw [Ak hy]
   unfold Kd at hlt ⊢
   rw [List.all_append, hlt]; simp [hb']
 ·simp only [decide_eq_false_iff_not] at h
  rw [List.take_of_length_le (by omega)] at hlt
  refine E9.use fun v w6 ⟨hv, hw⟩ => ?_
  subst hv; subst hw
  refine ⟨_, rfl, _, rfl, ?_, rfl⟩
  rw [hlt, Bool.true_and]
  congr 1
  rw [decide_eq_decide]; omega
theorem Yf {a : Option Addr} {n c : Nat} {l : List Am} {w : World} (hr : Reads w Enc.pair (a, n, c) l) (hl : l.length ≤ 9223372036854775806) :
  Aa Tryz.prog 66 [.slice a n c] w (Rets fun v w' => v = .bool (Do l) ∧ Grew w w') := by
 refine sx66.ok ?_
 unfold sx66
 have hn : n = l.length := hr.2.1
 subst hn
 refine ⟨fun i w' => ∃ k : Nat, i = k ∧ k ≤ l.length ∧ (∀ (j : Nat) (x : Am), j < k → l[j]? = some x → x.has = true) ∧ (∀ (j : Nat) (x y : Am), j + 1 < k → l[j]? = some x → l[j + 1]? = some y → x.key < y.key) ∧ Grew w w', fun i _ => l.length - i.toNat, ⟨0, rfl, Nat.zero_le _, fun j x h => by omega, fun j x y h => by omega, Grew.refl _⟩, ?_⟩
 rintro i w' ⟨k, rfl, hk, hh, hlt, hg⟩
 refine ⟨fun h => ?_, fun h => ?_⟩
 ·simp only [decide_eq_true_eq] at h
  have hw1 : IntKind.i64.wrap ((k : Int) + 1) = ((k + 1 : Nat) : Int) := by rw [IntKind.wrap_i64]; omega
  obtain ⟨d, y, rfl, hy, hcy⟩ := (hr.grew hg).at0 (k := k) (by omega)
  have hm : l.length - (((k + 1 : Nat) : Int)).toNat < l.length - ((k : Int)).toNat := by omega
  refine ⟨by omega, y.key, y.has, y.bits, by simpa [Enc.pair] using hcy, fun w8 hg8 => ⟨fun hb w9 hg9 => ?_, fun hb => ⟨fun h0 => ?_, fun h0 w13 hg13 => ?_⟩⟩⟩
  ·have hb' : y.has = false := by simpa using hb
   have : Do l = false := by
    apply Bool.eq_false_iff.2
    intro he
    have := ((Ec l).1 he).1 k y hy
    rw [hb'] at this; cases this
   exact ⟨_, rfl, by rw [this], hg.trans (hg8.trans hg9)⟩
  ·simp only [decide_eq_true_eq] at h0
   have hb' : y.has = true := by simpa using hb
   have hw2 : IntKind.i64.wrap ((k : Int) - 1) = ((k - 1 : Nat) : Int) := by rw [IntKind.wrap_i64]; omega
   rw [hw2, hw1]
   obtain ⟨d', x, hd', hx, hcx⟩ := ((hr.grew hg).grew hg8).at0 (k := k - 1) (by omega)
   cases hd'
   refine ⟨by omega, x.key, by have := hcx.1; simpa [Enc.pair, Addr.add_zero'] using this, fun w12 hg12 => ⟨fun hle => ?_, fun hle => ?_⟩⟩
   ·simp only [decide_eq_true_eq] at hle
    have : Do l = false := by
     apply Bool.eq_false_iff.2
     intro he
     have := ((Ec l).1 he).2 (k - 1) x y hx (by rw [show k - 1 + 1 = k from by omega]; exact hy)
     omega
    exact ⟨_, rfl, by rw [this], hg.trans (hg8.trans hg12)⟩
   ·simp only [decide_eq_false_iff_not] at hle
    refine ⟨⟨k + 1, rfl, by omega, fun j u hj hu => ?_, fun j u v hj hu hv => ?_, hg.trans (hg8.trans hg12)⟩, hm⟩
    ·by_cases hjk : j < k
     ·exact hh j u hjk hu
     ·have : j = k := by omega
      subst this; rw [hy] at hu; cases hu; exact hb'
    ·by_cases hjk : j + 1 < k
     ·exact hlt j u v hjk hu hv
     ·have : j = k - 1 := by omega
      subst this
      rw [show k - 1 + 1 = k from by omega] at hv
      rw [hx] at hu; rw [hy] at hv
      cases hu; cases hv; omega
  ·simp only [decide_eq_false_iff_not] at h0
   have hb' : y.has = true := by simpa using hb
   rw [hw1]
   refine ⟨⟨k + 1, rfl, by omega, fun j u hj hu => ?_, fun j u v hj hu hv => by omega, hg.trans (hg8.trans hg13)⟩, hm⟩
   have : j = k := by omega
   subst this; rw [hy] at hu; cases hu; exact hb'
 ·simp only [decide_eq_false_iff_not] at h
  have : Do l = true := (Ec l).2 ⟨fun i x hx => by
   have : i < l.length := (List.getElem?_eq_some_iff.1 hx).1
   exact hh i x (by omega) hx, fun i x y hx hy => by
   have : i + 1 < l.length := (List.getElem?_eq_some_iff.1 hy).1
   exact hlt i x y (by omega) hx hy⟩
  exact ⟨_, rfl, by rw [this], hg⟩
theorem Yg {x : Msg} {w : World} (hx : x.At w) (h1 : x.c.ends.length ≤ 9223372036854775806) (h2 : x.c.keys.length ≤ 9223372036854775806) (h3 : x.c.pairs.length ≤ 9223372036854775806) :
  Aa Tryz.prog 44 [x.val] w (Rets fun v w' => v = .bool (Bl x.c) ∧ Grew w w') := by
 refine sx44.ok ?_
 unfold sx44
 have he : x.e.2.1 = x.c.ends.length := hx.e.2.1
 have hk : x.k.2.1 = x.c.keys.length := hx.k.2.1
 have hp : x.p.2.1 = x.c.pairs.length := hx.p.2.1
 have hsi := F1 x.c
 have no : ∀ w', Grew w w' → ¬ (Bl x.c = true) → Rets (fun v w' => v = Value.bool (Bl x.c) ∧ Grew w w') (.returned (.bool false)) w' := fun w' hg h => ⟨_, rfl, by rw [Bool.eq_false_iff.2 h], hg⟩
 have fin : ∀ b w', Grew w w' → (b = true ↔ Bl x.c = true) → Rets (fun v w' => v = Value.bool (Bl x.c) ∧ Grew w w') (.returned (.bool b)) w' := fun b w' hg h => ⟨_, rfl, by rw [Bool.eq_iff_iff.2 h], hg⟩
 intro w1 hg1
 refine Aff.use fun v w2 ⟨hv, hw⟩ => ?_
 subst hv; subst hw
 obtain ⟨f, hf⟩ : ∃ f, f = Co x.c.kind := ⟨_, rfl⟩
 rw [← hf] at hsi ⊢
 refine ⟨f, rfl, fun b w' => Grew w w' ∧ (b = false ↔ (f ≠ 0 ∧ (0 ≤ x.c.frm ∧ x.c.frm ≤ 8) ∧ (0 ≤ x.c.to ∧ x.c.to ≤ 8))), ⟨fun h => ⟨hg1, ?_⟩, fun h => ?_⟩, ?_⟩
 ·simp only [beq_iff_eq] at h; simp [h]
 ·simp only [beq_eq_false_iff_ne, ne_eq] at h
  refine E9.use fun v w3 ⟨hv, hw⟩ => ?_
  subst hv; subst hw
  refine ⟨_, rfl, fun h2 => ⟨hg1, ?_⟩, fun h2 => ?_⟩
  ·rw [Bool.not_eq_true', decide_eq_false_iff_not] at h2; simp only [Bool.true_eq_false, false_iff]; exact fun hh => h2 hh.2.1
  ·rw [Bool.not_eq_false', decide_eq_true_eq] at h2
   refine E9.use fun v w4 ⟨hv, hw⟩ => ?_
   subst hv; subst hw
   refine ⟨_, rfl, hg1, ?_⟩
   rw [Bool.not_eq_false', decide_eq_true_eq]
   exact ⟨fun hh => ⟨h, h2, hh⟩, fun hh => hh.2.2⟩
 rintro b15 w16 ⟨hg16, hb15⟩
 refine ⟨fun h => no _ hg16 fun hs => ?_, fun h => ?_⟩
 ·have := hsi.1 hs; rw [h] at hb15; have := hb15.2 ⟨this.1, this.2.1, this.2.2.1⟩; cases this
 obtain ⟨f0, ffr, fto⟩ := hb15.1 h
 refine ⟨fun b w' => Grew w w' ∧ (b = false ↔ ((1 ≤ x.c.batch ∧ x.c.batch ≤ 1099511627776) ∧ (1 ≤ x.c.att ∧ x.c.att ≤ 1099511627776))), ?_, ?_⟩
 ·refine E9.use fun v w3 ⟨hv, hw⟩ => ?_
  subst hv; subst hw
  refine ⟨_, rfl, fun h2 => ⟨hg16, ?_⟩, fun h2 => ?_⟩
  ·rw [Bool.not_eq_true', decide_eq_false_iff_not] at h2; simp only [Bool.true_eq_false, false_iff]; exact fun hh => h2 hh.1
  ·rw [Bool.not_eq_false', decide_eq_true_eq] at h2
   refine E9.use fun v w4 ⟨hv, hw⟩ => ?_
   subst hv; subst hw
   refine ⟨_, rfl, hg16, ?_⟩
   rw [Bool.not_eq_false', decide_eq_true_eq]
   exact ⟨fun hh => ⟨h2, hh⟩, fun hh => hh.2⟩
 rintro b26 w27 ⟨hg27, hb26⟩
 refine ⟨fun h => no _ hg27 fun hs => ?_, fun h => ?_⟩
 ·have := hsi.1 hs; rw [h] at hb26; have := hb26.2 ⟨this.2.2.2.1, this.2.2.2.2.1⟩; cases this
 obtain ⟨fba, fat⟩ := hb26.1 h
 refine ⟨fun b w' => Grew w w' ∧ (b = false ↔ ((f ≠ 1 → x.c.ends.length = 0) ∧ (f ≠ 2 → x.c.keys.length = 0) ∧ (f ≠ 3 → x.c.pairs.length = 0) ∧ (f ≠ 4 → x.c.code = 0))), ?_, ?_⟩
 ·refine ⟨fun b w' => Grew w w' ∧ (b = false ↔ (f ≠ 1 → x.c.ends.length = 0)), ⟨fun h => ⟨hg27, ?_⟩, fun h => ⟨hg27, ?_⟩⟩, ?_⟩
  ·simp only [bne_iff_ne, ne_eq] at h; rw [decide_eq_false_iff_not]; omega
  ·simp only [bne_eq_false_iff_eq] at h; simp [h]
  rintro b30 w31 ⟨hg31, hb30⟩
  refine ⟨fun h => ⟨hg31, ?_⟩, fun h => ?_⟩
  ·rw [h] at hb30 ⊢; simp only [Bool.true_eq_false, false_iff] at hb30 ⊢; exact fun hh => hb30 hh.1
  have k1 := hb30.1 h
  refine ⟨fun b w' => Grew w w' ∧ (b = false ↔ (f ≠ 2 → x.c.keys.length = 0)), ⟨fun h => ⟨hg31, ?_⟩, fun h => ⟨hg31, ?_⟩⟩, ?_⟩
  ·simp only [bne_iff_ne, ne_eq] at h; rw [decide_eq_false_iff_not]; omega
  ·simp only [bne_eq_false_iff_eq] at h; simp [h]
  rintro b33 w34 ⟨hg34, hb33⟩
  refine ⟨fun h => ⟨hg34, ?_⟩, fun h => ?_⟩
  ·rw [h] at hb33 ⊢; simp only [Bool.true_eq_false, false_iff] at hb33 ⊢; exact fun hh => hb33 hh.2.1
  have k2 := hb33.1 h
  refine ⟨fun b w' => Grew w w' ∧ (b = false ↔ (f ≠ 3 → x.c.pairs.length = 0)), ⟨fun h => ⟨hg34, ?_⟩, fun h => ⟨hg34, ?_⟩⟩, ?_⟩
  ·simp only [bne_iff_ne, ne_eq] at h; rw [decide_eq_false_iff_not]; omega
  ·simp only [bne_eq_false_iff_eq] at h; simp [h]
  rintro b36 w37 ⟨hg37, hb36⟩
  refine ⟨fun h => ⟨hg37, ?_⟩, fun h => ?_⟩
  ·rw [h] at hb36 ⊢; simp only [Bool.true_eq_false, false_iff] at hb36 ⊢; exact fun hh => hb36 hh.2.2.1
  have k3 := hb36.1 h
  refine ⟨fun h => ⟨hg37, ?_⟩, fun h => ⟨hg37, ?_⟩⟩
  ·simp only [bne_iff_ne, ne_eq] at h
   rw [bne_eq_false_iff_eq]
   exact ⟨fun hh => ⟨k1, k2, k3, fun _ => hh⟩, fun hh => hh.2.2.2 h⟩
  ·simp only [bne_eq_false_iff_eq] at h
   exact ⟨fun _ => ⟨k1, k2, k3, fun hh => absurd h hh⟩, fun _ => rfl⟩
 rintro b38 w39 ⟨hg39, hb38⟩
 refine ⟨fun h => no _ hg39 fun hs => ?_, fun h => ?_⟩
 ·have := hsi.1 hs; rw [h] at hb38
  have := hb38.2 ⟨this.2.2.2.2.2.1, this.2.2.2.2.2.2.1, this.2.2.2.2.2.2.2.1, this.2.2.2.2.2.2.2.2.1⟩; cases this
 obtain ⟨k1, k2, k3, k4⟩ := hb38.1 h
 have hx39 := hx.grew hg39
 refine ⟨fun h1' => ?_, fun n1 => ⟨fun h2' => ⟨fun hle => ?_, fun hle => no _ hg39 fun hs => ?_⟩, fun n2 => ⟨fun h3' => ⟨fun hle => ?_, fun hle => no _ hg39 fun hs => ?_⟩, fun n3 => ?_⟩⟩⟩
 all_goals simp only [beq_iff_eq, beq_eq_false_iff_ne, ne_eq, decide_eq_true_eq, decide_eq_false_iff_not] at *
 ·have z2 : x.c.keys = [] := List.eq_nil_of_length_eq_zero (k2 (by omega))
  have z3 : x.c.pairs = [] := List.eq_nil_of_length_eq_zero (k3 (by omega))
  have z4 := k4 (by omega)
  refine (Ye hx39.e h1).use fun v w40 ⟨hv, hw⟩ => ?_
  subst hv; subst hw
  refine ⟨_, rfl, fin _ _ hg39 ?_⟩
  rw [hsi, z2, z3, z4, h1']
  simp [ffr, fto, fba, fat, Dc, Do, and_comm]
 ·have z1 : x.c.ends = [] := List.eq_nil_of_length_eq_zero (k1 (by omega))
  have z3 : x.c.pairs = [] := List.eq_nil_of_length_eq_zero (k3 (by omega))
  have z4 := k4 (by omega)
  refine (Vi hx39.k h2).use fun v w40 ⟨hv, hw⟩ => ?_
  subst hv; subst hw
  refine ⟨_, rfl, fin _ _ hg39 ?_⟩
  have hle' : x.c.keys.length ≤ 64 := by omega
  rw [hsi, z1, z3, z4, h2']
  simp [ffr, fto, fba, fat, Kd, Do, hle']
 ·have := (hsi.1 hs).2.2.2.2.2.2.2.2.2.2.2.1; omega
 ·have z1 : x.c.ends = [] := List.eq_nil_of_length_eq_zero (k1 (by omega))
  have z2 : x.c.keys = [] := List.eq_nil_of_length_eq_zero (k2 (by omega))
  have z4 := k4 (by omega)
  refine (Yf hx39.p h3).use fun v w40 ⟨hv, hw⟩ => ?_
  subst hv
  refine ⟨_, rfl, fin _ _ (hg39.trans hw) ?_⟩
  have hle' : x.c.pairs.length ≤ 64 := by omega
  rw [hsi, z1, z2, z4, h3']
  simp [ffr, fto, fba, fat, Kd, Dc, hle']
 ·have := (hsi.1 hs).2.2.2.2.2.2.2.2.2.2.2.2.2.1; omega
 ·have z1 : x.c.ends = [] := List.eq_nil_of_length_eq_zero (k1 (by omega))
  have z2 : x.c.keys = [] := List.eq_nil_of_length_eq_zero (k2 (by omega))
  have z3 : x.c.pairs = [] := List.eq_nil_of_length_eq_zero (k3 (by omega))
  refine E9.use fun v w40 ⟨hv, hw⟩ => ?_
  subst hv; subst hw
  refine ⟨_, rfl, fin _ _ hg39 ?_⟩
  have hf4 : f = 4 ∨ x.c.code = 0 := by by_cases h4 : f = 4; exact .inl h4; exact .inr (k4 h4)
  rw [hsi, z1, z2, z3]
  simp only [decide_eq_true_eq, List.length_nil]
  constructor
  ·intro hc; exact ⟨f0, ffr, fto, fba, fat, by simp, by simp, by simp, k4, fun hh => absurd hh n1, rfl, by decide, rfl, by decide, rfl, hc⟩
  ·intro hc; exact hc.2.2.2.2.2.2.2.2.2.2.2.2.2.2.2
end Go.Proofs.YtcpkneemhfnanaaGreat
namespace Go.Proofs
open Go.Shelf
def Tryz.lays189_ren : Go.Shelf.Ren := ⟨fun | 189 => 109 | 125 => 132 | 257 => 131 | 128 => 164 | 129 => 165 | 294 => 155 | 295 => 156 | 296 => 157 | 297 => 158 | 298 => 159 | 299 => 160 | 216 => 161 | 300 => 162 | 301 => 163 | 328 => 177 | 329 => 178 | 330 => 179 | 331 => 180 | 332 => 181 | 215 => 182 | 343 => 200 | n => n, fun | 28 => 44 | 3 => 3 | 46 => 71 | 0 => 0 | 51 => 218 | 53 => 40 | 4 => 4 | 183 => 211 | 182 => 210 | 131 => 215 | 5 => 5 | 9 => 9 | 218 => 228 | 222 => 232 | 228 => 242 | 229 => 243 | n => n, fun | n => n⟩
theorem Tryz.lays189 : Go.Proofs.Lays.n189 Tryz.prog Tryz.lays189_ren := {
 mixed := by kernel_rfl
 f125 := Tryz.func132.trans (congrArg some (by kernel_rfl))
 f128 := Tryz.func164.trans (congrArg some (by kernel_rfl))
 f129 := Tryz.func165.trans (congrArg some (by kernel_rfl))
 f189 := Tryz.func109.trans (congrArg some (by kernel_rfl))
 f215 := Tryz.func182.trans (congrArg some (by kernel_rfl))
 f216 := Tryz.func161.trans (congrArg some (by kernel_rfl))
 f257 := Tryz.func131.trans (congrArg some (by kernel_rfl))
 f294 := Tryz.func155.trans (congrArg some (by kernel_rfl))
 f295 := Tryz.func156.trans (congrArg some (by kernel_rfl))
 f296 := Tryz.func157.trans (congrArg some (by kernel_rfl))
 f297 := Tryz.func158.trans (congrArg some (by kernel_rfl))
 f298 := Tryz.func159.trans (congrArg some (by kernel_rfl))
 f299 := Tryz.func160.trans (congrArg some (by kernel_rfl))
 f300 := Tryz.func162.trans (congrArg some (by kernel_rfl))
 f301 := Tryz.func163.trans (congrArg some (by kernel_rfl))
 f328 := Tryz.func177.trans (congrArg some (by kernel_rfl))
 f329 := Tryz.func178.trans (congrArg some (by kernel_rfl))
 f330 := Tryz.func179.trans (congrArg some (by kernel_rfl))
 f331 := Tryz.func180.trans (congrArg some (by kernel_rfl))
 f332 := Tryz.func181.trans (congrArg some (by kernel_rfl))
 f343 := Tryz.func200.trans (congrArg some (by kernel_rfl))
 t0 := Tryz.underlying0
 a0 := Tryz.isAgg0
 z0 := Tryz.sizeOf0
 v0 := Tryz.zeroValue0
 t3 := Tryz.underlying3
 a3 := Tryz.isAgg3
 z3 := Tryz.sizeOf3
 v3 := Tryz.zeroValue3
 t4 := Tryz.underlying4
 a4 := Tryz.isAgg4
 z4 := Tryz.sizeOf4
 v4 := Tryz.zeroValue4
 t5 := Tryz.underlying5
 a5 := Tryz.isAgg5
 z5 := Tryz.sizeOf5
 v5 := Tryz.zeroValue5
 t9 := Tryz.underlying9
 a9 := Tryz.isAgg9
 z9 := Tryz.sizeOf9
 v9 := Tryz.zeroValue9
 t28 := Tryz.underlying44
 a28 := Tryz.isAgg44
 z28 := Tryz.sizeOf44
 v28 := Tryz.zeroValue44
 t46 := Tryz.underlying71
 a46 := Tryz.isAgg71
 z46 := Tryz.sizeOf71
 v46 := Tryz.zeroValue71
 t51 := Tryz.underlying218
 a51 := Tryz.isAgg218
 z51 := Tryz.sizeOf218
 v51 := Tryz.zeroValue218
 t53 := Tryz.underlying40
 a53 := Tryz.isAgg40
 z53 := Tryz.sizeOf40
 v53 := Tryz.zeroValue40
 t131 := Tryz.underlying215
 a131 := Tryz.isAgg215
 z131 := Tryz.sizeOf215
 v131 := Tryz.zeroValue215
 t182 := Tryz.underlying210
 a182 := Tryz.isAgg210
 z182 := Tryz.sizeOf210
 v182 := Tryz.zeroValue210
 t183 := Tryz.underlying211
 a183 := Tryz.isAgg211
 z183 := Tryz.sizeOf211
 v183 := Tryz.zeroValue211
 t218 := Tryz.underlying228
 a218 := Tryz.isAgg228
 z218 := Tryz.sizeOf228
 v218 := Tryz.zeroValue228
 t222 := Tryz.underlying232
 a222 := Tryz.isAgg232
 z222 := Tryz.sizeOf232
 v222 := Tryz.zeroValue232
 t228 := Tryz.underlying242
 a228 := Tryz.isAgg242
 z228 := Tryz.sizeOf242
 v228 := Tryz.zeroValue242
 t229 := Tryz.underlying243
 a229 := Tryz.isAgg243
 z229 := Tryz.sizeOf243
 v229 := Tryz.zeroValue243 }
open Go.Sort Go.RowKit in
theorem Tryz.slices_Sort_int (blk off cap : Nat) (zs : List Int) (w : World) (hH : Holds (Value.int .i64) w blk off zs.toArray) (hblk : blk < w.heap.size) (hsz : zs.length < 4611686018427387904) :
  Calls Tryz.prog 109 #[.slice (some ⟨blk, off, none⟩) zs.length cap] w fun e w' =>
   e = .returned (.tuple #[]) ∧ ∃ n os, w' = grow (putRow (Value.int .i64) (Sort.ahead w n) blk off (zs.mergeSort fun x y => decide (x ≤ y)).toArray) os := Any.slices_Sort_int Tryz.lays189 blk off cap zs w hH hblk hsz
open Go.RowKit Go.Sort in
theorem Tryz.slices_Sort_int_none (p : Option Addr) (cap : Nat) (w : World) :
  Calls Tryz.prog 109 #[.slice p 0 cap] w fun e w' => e = .returned (.tuple #[]) ∧ w' = w := Any.slices_Sort_int_none Tryz.lays189 p cap w
end Go.Proofs
