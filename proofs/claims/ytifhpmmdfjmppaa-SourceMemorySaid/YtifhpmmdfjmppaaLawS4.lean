/- SourceMemory: what it computes, and its row. Conditions: none. -/
import Derived.Test.YtifhpmmdfjmppaaProg
import Derived.Test.YtifhpmmdfjmppaaLawS1
import Derived.Test.YtifhpmmdfjmppaaSxNc
namespace Go.Proofs.Ytifhpmmdfjmppaa
open Go.Sx
set_option maxRecDepth 100000
set_option linter.unusedVariables false
set_option linter.unusedSimpArgs false
/- reprise/repriselaw06.SourceMemory -/
def sx5 (d : Option Addr) (d_n d_c : Nat) (i : Option Addr) (i_n i_c : Nat) (R : Ending → World → Prop) (w : World) : Prop :=
  CallsW Try.prog 7 [] w (RetR R fun u2 w1 => ∃ (b3 : Bool), u2 = .bool b3 ∧ (((!b3) = true → R (.returned (.bool false)) w1) ∧ ((!b3) = false → ∀ (b5 : Nat) (w6 : World), Alloc w1 w6 b5 (.cells #[] 51) → SemW Try.prog
    (Builtin.append_ #[22, 22] 22 #[.slice (some ⟨b5, 0, none⟩) 0 0, .slice d d_n d_c]) (fun u8 w7 => ∃ (a9 : Option Addr) (l9 c9 : Nat), u8 = .slice a9 l9 c9 ∧ CallsW Try.prog 17 [.slice a9 l9 c9, .slice i i_n i_c] w7
    (RetR R fun u11 w10 => ∃ (p12 : Option Addr), u11 = .pointer p12 ∧ CallsW Try.prog 17 [.slice d d_n d_c, .slice i i_n i_c] w10 (RetR R fun u15 w14 => ∃ (p16 : Option Addr), u15 = .pointer p16 ∧ (((Option.isNone p12) =
    true → CallsW Try.prog 9 [.slice d d_n d_c] w14 (RetR R fun u19 w18 => ∃ (n20 : Int), u19 = .int .i64 n20 ∧ R (.returned (.bool (n20 != 0))) w18)) ∧ ((Option.isNone p12) = false → (((Option.isNone p16) = true → CallsW
    Try.prog 9 [.slice d d_n d_c] w14 (RetR R fun u23 w22 => ∃ (n24 : Int), u23 = .int .i64 n24 ∧ R (.returned (.bool (n24 != 0))) w22)) ∧ ((Option.isNone p16) = false → ∃ (I26 : Int → World → Prop) (m26 : Int → World →
    Nat), I26 0 w14 ∧ ∀ (n27 : Int) (w28 : World), I26 n27 w28 → (((decide (n27 < ((l9 : Nat) : Int))) = true → withSome a9 (fun d29 => (0 ≤ n27 ∧ n27 < (l9 : Nat)) ∧ RoomAt w28 (Addr.add d29 (n27.toNat * 3)) 0 [.int .i64
    11, .int .i64 1, .float .f64 0] ∧ ∀ w30, w30 = setCells w28 (Addr.add d29 (n27.toNat * 3)) 0 [.int .i64 11, .int .i64 1, .float .f64 0] → (I26 (IntKind.i64.wrap (n27 + 1)) w30 ∧ m26 (IntKind.i64.wrap (n27 + 1)) w30 <
    m26 n27 w28))) ∧ ((decide (n27 < ((l9 : Nat) : Int))) = false → ∀ w31, Grew w28 w31 → ∀ w32, Grew w31 w32 → CallsW Try.prog 13 [.pointer p12, .int .i64 0, .agg #[.int .u64 1099511627776, .float .f64
    4613937818241073152]] w32 (RetR R fun u34 w33 => ∃ (n35 : Int), u34 = .int .i64 n35 ∧ SameB w32 w33 [] ∧ CallsW Try.prog 13 [.pointer p16, .int .i64 0, .agg #[.int .u64 1099511627776, .float .f64 4613937818241073152]]
    w33 (RetR R fun u38 w37 => ∃ (n39 : Int), u38 = .int .i64 n39 ∧ (((n35 != n39) = true → R (.returned (.bool false)) w37) ∧ ((n35 != n39) = false → ∃ (I41 : Int → World → Prop) (m41 : Int → World → Nat), I41 0 w37 ∧ ∀
    (n42 : Int) (w43 : World), I41 n42 w43 → (((decide (n42 < 2)) = true → CallsW Try.prog 15 [.pointer p12, .int .i64 n42] w43 (RetR R fun u45 w44 => ∃ (a46 : Option Addr) (l46 c46 : Nat), u45 = .slice a46 l46 c46 ∧
    CallsW Try.prog 15 [.pointer p12, .int .i64 n42] w44 (RetR R fun u49 w48 => ∃ (a50 : Option Addr) (l50 c50 : Nat), u49 = .slice a50 l50 c50 ∧ CallsW Try.prog 18 [.pointer p12, .int .i64 n42, .int .i64 0, .int .i64
    ((l46 : Nat) : Int)] w48 (RetR R fun u53 w52 => ∃ (a54 : Option Addr) (l54 c54 : Nat) (n55 : Int), u53 = .tuple #[.slice a54 l54 c54, .int .i64 n55] ∧ ∃ (I57 : Int → World → Prop) (m57 : Int → World → Nat), I57 0 w52
    ∧ ∀ (n58 : Int) (w59 : World), I57 n58 w59 → (((decide (n58 < ((l46 : Nat) : Int))) = true → withSome a46 (fun d60 => (0 ≤ n58 ∧ n58 < (l46 : Nat)) ∧ RoomAt w59 (Addr.add d60 (n58.toNat * 2)) 0 [.int .u64 77, .float
    .f64 0] ∧ ∀ w61, w61 = setCells w59 (Addr.add d60 (n58.toNat * 2)) 0 [.int .u64 77, .float .f64 0] → (I57 (IntKind.i64.wrap (n58 + 1)) w61 ∧ m57 (IntKind.i64.wrap (n58 + 1)) w61 < m57 n58 w59))) ∧ ((decide (n58 <
    ((l46 : Nat) : Int))) = false → ∃ (I62 : Int → World → Prop) (m62 : Int → World → Nat), I62 0 w59 ∧ ∀ (n63 : Int) (w64 : World), I62 n63 w64 → (((decide (n63 < ((l54 : Nat) : Int))) = true → withSome a54 (fun d65 =>
    (0 ≤ n63 ∧ n63 < (l54 : Nat)) ∧ RoomAt w64 (Addr.add d65 (n63.toNat * 2)) 0 [.int .u64 78, .float .f64 0] ∧ ∀ w66, w66 = setCells w64 (Addr.add d65 (n63.toNat * 2)) 0 [.int .u64 78, .float .f64 0] → (I62
    (IntKind.i64.wrap (n63 + 1)) w66 ∧ m62 (IntKind.i64.wrap (n63 + 1)) w66 < m62 n63 w64))) ∧ ((decide (n63 < ((l54 : Nat) : Int))) = false → ∃ (I67 : Option Addr → Nat → Nat → Option Addr → Nat → Nat → Int → World →
    Prop) (m67 : Option Addr → Nat → Nat → Option Addr → Nat → Nat → Int → World → Nat), I67 a46 l46 c46 a54 l54 c54 0 w64 ∧ ∀ (a68 : Option Addr) (l68 c68 : Nat) (a69 : Option Addr) (l69 c69 : Nat) (n70 : Int) (w71 :
    World), I67 a68 l68 c68 a69 l69 c69 n70 w71 → (((decide (n70 < 9)) = true → ∀ (b72 : Nat) (w73 : World), Alloc w71 w73 b72 (.cells #[.int .u64 79, .float .f64 0] 34) → SemW Try.prog (Builtin.append_ #[44, 44] 44
    #[.slice a68 l68 c68, .slice (some ⟨b72, 0, none⟩) 1 1]) (fun u75 w74 => ∃ (a76 : Option Addr) (l76 c76 : Nat), u75 = .slice a76 l76 c76 ∧ ∀ (b77 : Nat) (w78 : World), Alloc w74 w78 b77 (.cells #[.int .u64 80, .float
    .f64 0] 34) → SemW Try.prog (Builtin.append_ #[44, 44] 44 #[.slice a69 l69 c69, .slice (some ⟨b77, 0, none⟩) 1 1]) (fun u80 w79 => ∃ (a81 : Option Addr) (l81 c81 : Nat), u80 = .slice a81 l81 c81 ∧ (I67 a76 l76 c76 a81
    l81 c81 (IntKind.i64.wrap (n70 + 1)) w79 ∧ m67 a76 l76 c76 a81 l81 c81 (IntKind.i64.wrap (n70 + 1)) w79 < m67 a68 l68 c68 a69 l69 c69 n70 w71)) w78) w73) ∧ ((decide (n70 < 9)) = false → CallsW Try.prog 15 [.pointer
    p16, .int .i64 n42] w71 (RetR R fun u83 w82 => ∃ (a84 : Option Addr) (l84 c84 : Nat), u83 = .slice a84 l84 c84 ∧ CallsW Try.prog 16 [.slice a50 l50 c50, .slice a84 l84 c84] w82 (RetR R fun u87 w86 => ∃ (b88 : Bool),
    u87 = .bool b88 ∧ (((!b88) = true → R (.returned (.bool false)) w86) ∧ ((!b88) = false → CallsW Try.prog 15 [.pointer p12, .int .i64 n42] w86 (RetR R fun u91 w90 => ∃ (a92 : Option Addr) (l92 c92 : Nat), u91 = .slice
    a92 l92 c92 ∧ CallsW Try.prog 16 [.slice a92 l92 c92, .slice a50 l50 c50] w90 (RetR R fun u95 w94 => ∃ (b96 : Bool), u95 = .bool b96 ∧ (((!b96) = true → R (.returned (.bool false)) w94) ∧ ((!b96) = false → (((((l68 :
    Nat) : Int) != ((l69 : Nat) : Int)) = true → R (.returned (.bool false)) w94) ∧ ((((l68 : Nat) : Int) != ((l69 : Nat) : Int)) = false → (I41 (IntKind.i64.wrap (n42 + 1)) w94 ∧ m41 (IntKind.i64.wrap (n42 + 1)) w94 <
    m41 n42 w43))))))))))))))))))))) ∧ ((decide (n42 < 2)) = false → CallsW Try.prog 11 [.pointer p12] w43 (RetR R fun u99 w98 => ∃ (a100 : Option Addr) (l100 c100 : Nat), u99 = .slice a100 l100 c100 ∧ ∃ (I102 : Int →
    World → Prop) (m102 : Int → World → Nat), I102 0 w98 ∧ ∀ (n103 : Int) (w104 : World), I102 n103 w104 → (((decide (n103 < ((l100 : Nat) : Int))) = true → withSome a100 (fun d105 => (0 ≤ n103 ∧ n103 < (l100 : Nat)) ∧
    RoomAt w104 (Addr.add d105 (n103.toNat * 1)) 0 [.int .u64 5] ∧ ∀ w106, w106 = setCells w104 (Addr.add d105 (n103.toNat * 1)) 0 [.int .u64 5] → ∀ n107 : Int, n107 = IntKind.i64.wrap (n103 + 1) → (I102 n107 w106 ∧ m102
    n107 w106 < m102 n103 w104))) ∧ ((decide (n103 < ((l100 : Nat) : Int))) = false → CallsW Try.prog 11 [.pointer p12] w104 (RetR R fun u109 w108 => ∃ (a110 : Option Addr) (l110 c110 : Nat), u109 = .slice a110 l110 c110
    ∧ CallsW Try.prog 11 [.pointer p16] w108 (RetR R fun u113 w112 => ∃ (a114 : Option Addr) (l114 c114 : Nat), u113 = .slice a114 l114 c114 ∧ CallsW Try.prog 14 [.slice a110 l110 c110, .slice a114 l114 c114] w112 (RetR R
    fun u117 w116 => ∃ (b118 : Bool), u117 = .bool b118 ∧ R (.returned (.bool b118)) w116))))))))))))))))))))) w6)))
theorem sx5.ok {d : Option Addr} {d_n d_c : Nat} {i : Option Addr} {i_n i_c : Nat} {R : Ending → World → Prop} {w : World} (h : sx5 d d_n d_c i i_n i_c R w) : CallsW Try.prog 5 [.slice d d_n d_c, .slice i i_n i_c] w R :=
  callsW_of mix Try.func5 (by kernel_rfl) (by kernel_rfl) (Eq.mpr (by kernel_rfl : denFn Try.prog { locals := [9], sem := [24, 103, 107], named := [136], draws := [(13, { order := (.cons 0 (.cons 1 (.cons 3 (.cons 4 (.cons 2 (.cons 5 (.cons 6 .nil))))))), bars := [5] })], loops := [(9, { slots := [(8, .int .i64)], cells := [] }), (22, { slots := [(15, .int .i64)], cells := [] }), (26, { slots := [(16, .int .i64)], cells := [] }), (30, { slots := [(11, .slice), (13, .slice), (17, .int .i64)], cells := [] }), (38, { slots := [(19, .int .i64)], cells := [] }), (3016, { slots := [(10, .int .i64)], cells := [] })] } Try.f5 [.slice d d_n d_c, .slice i i_n i_c] R w = sx5 d d_n d_c i i_n i_c R w) h)


/-- two sources that share nothing -/
def SApart (x y : SrcX) : Prop := ∀ b, x.Foot b → ¬ y.Foot b
theorem SApart.left {w : World} {B : Nat} {x x' y : SrcX} {v : SrcV} (h : SApart x y) (hy : SrA w B y v) (hf : ∀ b, x'.Foot b → x.Foot b ∨ w.heap.size ≤ b) : SApart x' y := fun b hb hb' => (hf b hb).elim (fun h1 => h b h1 hb') fun h1 => by have := (hy.foot hb').2; omega
theorem SApart.right {w : World} {B : Nat} {x y y' : SrcX} {v : SrcV} (h : SApart x y) (hx : SrA w B x v) (hf : ∀ b, y'.Foot b → y.Foot b ∨ w.heap.size ≤ b) : SApart x y' := fun b hb hb' => (hf b hb').elim (fun h1 => h b hb h1) fun h1 => by have := (hx.foot hb).2; omega

set_option maxHeartbeats 2000000 in
theorem SourceMemory_ok {a b : Option Addr} {n c m d : Nat} {l : List OpV} {its : List ItemV} {w : World} (hr : Reads w Enc.op3 (a, n, c) l) (hl : ∀ o ∈ l, o.Fits) (hn : l.length ≤ maxLen) (hb : l.length * 24 ≤ 140737488351232)
    (hi : Reads w Enc.item (b, m, d) its) (hf : ∀ x ∈ its, x.Fits) (hni : its.length ≤ maxLen) (hbi : its.length * 24 ≤ 140737488351232) :
    CallsW Try.prog 5 [.slice a n c, .slice b m d] w (Rets fun v w' => v = .bool true ∧ Grew w w') := by
  refine sx5.ok ?_
  unfold sx5
  have nb : ∀ {x y : World}, SameB x y [] := by intro x y; simp [SameB]
  refine awakeS_ok.use fun v w1 ⟨hv, hg1⟩ => ?_
  subst hv
  refine ⟨_, rfl, fun h => (by cases h), fun _ b5 w6 hal6 => ?_⟩
  have hg6 := hg1.trans hal6.grew
  have ho6 := Own.alloc (E := Enc.op3) (l := []) hal6 (Nat.le_refl _) rfl (by decide)
  have hr6 := hr.grew hg6
  have s1 := hg1.size; have s6 := hal6.grew.size
  refine append_sl elOp ho6 hr6.1 hr6.2.1 hr6.2.2.1 s6 (by simp [maxLen]; omega) (by simp; omega) ?_
  rintro u w7 ⟨a9, l9, c9, rfl, ho7, hu7, -⟩
  rw [List.nil_append] at ho7
  have hg7 : Grew w w7 := hg6.then_own hu7 fun b hb => by have := (ho6.blk hb).1; omega
  have hl9 : l9 = l.length := ho7.len
  subst hl9
  refine ⟨_, _, _, rfl, (filled_ok ho7.reads hl (hi.grew hg7) hf).use fun u w10 ⟨hg10, hv⟩ => ?_⟩
  have hg10' := hg7.trans hg10
  rcases hv with ⟨hc, hv⟩ | ⟨hc, x, hv, hS10⟩
  · subst hv
    refine ⟨_, rfl, (filled_ok (hr.grew hg10') hl (hi.grew hg10') hf).use fun u w14 ⟨hg14, hv⟩ => ?_⟩
    have hg14' := hg10'.trans hg14
    rcases hv with ⟨-, hv⟩ | ⟨hc', -⟩
    · subst hv
      refine ⟨_, rfl, fun _ => (Check_ok (hr.grew hg14')).use fun u w18 ⟨hv, hg18⟩ => ?_, fun h => (by cases h)⟩
      subst hv
      rw [hc]
      exact ⟨_, rfl, _, rfl, rfl, hg14'.trans hg18⟩
    · rw [hc] at hc'; cases hc'
  subst hv
  refine ⟨_, rfl, (filled_ok (hr.grew hg10') hl (hi.grew hg10') hf).use fun u w14 ⟨hg14, hv⟩ => ?_⟩
  have hg14' := hg10'.trans hg14
  rcases hv with ⟨hc', -⟩ | ⟨-, y, hv, hT14⟩
  · rw [hc] at hc'; cases hc'
  subst hv
  refine ⟨_, rfl, fun h => (by cases h), fun _ => ⟨fun h => (by cases h), fun _ => ?_⟩⟩
  have hS14 := hS10.grew hg14
  have hAp : SApart x y := fun b hb hb' => by have := (hS10.foot hb).2; have := (hT14.foot hb').1; omega
  have hon := allOn_fill l (its.take 4096)
  have hv2 : (fillV l (its.take 4096)).parts.length = 2 := (fill_inv l hl hc (its.take 4096) (fun x hx => hf x (List.mem_of_mem_take hx)) _ (new_fits (n := 2) hl hc (by omega) (by omega)) (keysOk_new _ _) ⟨rfl, by simp [srcNew]⟩).2.2.2
  generalize fillV l (its.take 4096) = v at hS14 hT14 hon hv2
  have ho14 := (ho7.grew hg10).grew hg14
  have s7 := hg7.size; have s10 := hg10'.size
  refine fill_own ho14 ⟨11, 1, 0⟩ fun l' w31 hl' ho31 hu31 => ?_
  have hmS : ∀ b, Blk a9 b → ¬ x.Foot b := fun b hb hb' => by have := (ho7.blk hb).2; have := (hS10.foot hb').1; omega
  have hmT : ∀ b, Blk a9 b → ¬ y.Foot b := fun b hb hb' => by have h1 := (ho7.blk hb).2; have h2 := (hT14.foot hb').1; have := hg10.size; omega
  have hS31 := hS14.upd hu31 fun b hb hb' => hmS b hb' hb
  have hT31 := hT14.upd hu31 fun b hb hb' => hmT b hb' hb
  have hg31 : Grew w w31 := hg14'.then_own hu31 fun b hb => by have := (ho7.blk hb).1; omega
  intro w32 hg32 w33 hg33
  have hg33' := hg31.trans (hg32.trans hg33)
  have hS33 := (hS31.grew hg32).grew hg33
  have hT33 := (hT31.grew hg32).grew hg33
  have hmore : RecV.Fits ⟨1099511627776, 4613937818241073152⟩ := ⟨⟨by decide, by decide⟩, by decide⟩
  have qS : w7.heap.size ≤ w33.heap.size := by have := hS33.foot (.inl rfl); omega
  refine (Produce_ok (p := 0) (r := ⟨1099511627776, 4613937818241073152⟩) hS33 hmore qS).use fun u w34 ⟨hv, hM⟩ => ?_
  subst hv
  have hg34 := hM.grew hS33 hg33' s7
  obtain ⟨x', hS34, hpx, hux, hfx⟩ := hM.out
  have hT34 := hT33.upd hux fun b hb hb' => hAp b hb' hb
  have hAp34 := hAp.left hT33 hfx
  refine ⟨_, rfl, nb, ?_⟩
  have qT : w10.heap.size ≤ w34.heap.size := by have := hT34.foot (.inl rfl); omega
  refine (Produce_ok (p := 0) (r := ⟨1099511627776, 4613937818241073152⟩) hT34 hmore qT).use fun u w37 ⟨hv, hM⟩ => ?_
  subst hv
  have hg37 := hM.grew hT34 hg34 s10
  obtain ⟨y', hT37, hpy, huy, hfy⟩ := hM.out
  have hS37 := hS34.upd huy fun b hb hb' => hAp34 b hb hb'
  have hAp37 := hAp34.right hS34 hfy
  refine ⟨_, rfl, fun h => (by simp at h), fun _ => ?_⟩
  rw [← hpx, ← hpy]
  have hon' : AllOn (v.produce 0 ⟨1099511627776, 4613937818241073152⟩).1 := allOn_produce hon
  have hv2' : (v.produce 0 ⟨1099511627776, 4613937818241073152⟩).1.parts.length = 2 := (produce_shape v 0 _).2.trans hv2
  generalize (v.produce 0 ⟨1099511627776, 4613937818241073152⟩).1 = V at hS37 hT37 hon' hv2'
  clear hS34 hT34 hS33 hT33 hS31 hT31 hS14 hT14 hM
  refine ⟨fun i w' => ∃ p : Nat, i = p ∧ p ≤ 2 ∧ SrA w' w7.heap.size x' V ∧ SrA w' w10.heap.size y' V ∧ Grew w w', fun i _ => 2 - i.toNat, ⟨0, rfl, by omega, hS37, hT37, hg37⟩, ?_⟩
  rintro i w43 ⟨p, rfl, hp, hS43, hT43, hg43⟩
  refine ⟨fun hlt => ?_, fun _ => ?_⟩
  · simp only [decide_eq_true_eq] at hlt
    have hwp : IntKind.i64.wrap ((p : Int) + 1) = ((p + 1 : Nat) : Int) := by rw [IntKind.wrap_i64]; omega
    obtain ⟨q, hq⟩ := getP_of (v := V) (p := (p : Int)) (by omega) (by omega)
    have hpq := (getP_some hq).2.2
    have hql := hS43.fits.logs q (List.mem_of_getElem? hpq)
    have hqoff := hon' q (List.mem_of_getElem? hpq)
    have hlog : V.log p = q.1 := by unfold SrcV.log; rw [hq]
    have hread : V.read p 0 (q.1.length : Int) = (q.1, 0) := by
      unfold SrcV.read; rw [hq]; simp only
      rw [if_neg (by omega), if_neg (by rw [hqoff]; simp)]
      simp
    refine (Log_ok hS43).use fun u w44 ⟨a46, l46, c46, hv, hoa, hg44⟩ => ?_
    subst hv
    rw [hlog] at hoa
    have h46 : l46 = q.1.length := hoa.len
    subst h46
    refine ⟨_, _, _, rfl, (Log_ok (hS43.grew hg44)).use fun u w48 ⟨a50, l50, c50, hv, hob, hg48⟩ => ?_⟩
    subst hv
    rw [hlog] at hob
    refine ⟨_, _, _, rfl, (SRead_ok ((hS43.grew hg44).grew hg48)).use fun u w52 ⟨a54, l54, c54, hv, hoc, hg52⟩ => ?_⟩
    subst hv
    rw [hread] at hoc ⊢
    have h54 : l54 = q.1.length := hoc.len
    subst h54
    have hg52' := hg43.trans (hg44.trans (hg48.trans hg52))
    have s43 := hg43.size; have s44 := hg44.size; have s48 := hg48.size; have s52 := hg52.size
    have hS52 := ((hS43.grew hg44).grew hg48).grew hg52
    have hT52 := ((hT43.grew hg44).grew hg48).grew hg52
    have hoa52 := (hoa.grew hg48).grew hg52
    have hob52 := hob.grew hg52
    have bA : ∀ {k : Nat}, Blk a46 k → w43.heap.size ≤ k ∧ k < w44.heap.size := fun hb => hoa.blk hb
    have bB : ∀ {k : Nat}, Blk a50 k → w44.heap.size ≤ k ∧ k < w48.heap.size := fun hb => hob.blk hb
    have bC : ∀ {k : Nat}, Blk a54 k → w48.heap.size ≤ k ∧ k < w52.heap.size := fun hb => hoc.blk hb
    have bS : ∀ {k : Nat}, x'.Foot k → k < w43.heap.size := fun hb => (hS43.foot hb).2
    have bT : ∀ {k : Nat}, y'.Foot k → k < w43.heap.size := fun hb => (hT43.foot hb).2
    refine ⟨_, _, _, _, rfl, fill_own hoa52 ⟨77, 0⟩ fun la w59 hla hoa59 hu59 => fill_own (hoc.upd hu59 fun k hk hk' => by have := bC hk; have := bA hk'; omega) ⟨78, 0⟩ fun lc w64 hlc hoc64 hu64 => ?_⟩
    have hoa64 := hoa59.upd hu64 fun k hk hk' => by have := bA hk; have := bC hk'; omega
    have hU64 : Upd (fun k => Blk a46 k ∨ Blk a54 k) w52 w64 := (hu59.mono fun k _ hk => .inl hk).trans (hu64.mono fun k _ hk => .inr hk)
    refine ⟨fun a68 l68 c68 a69 l69 c69 i w' => ∃ (j : Nat) (la lc : List RecV), i = j ∧ j ≤ 9 ∧ Own w' w43.heap.size 34 Enc.rcd a68 l68 c68 la ∧ la.length = q.1.length + j ∧ Own w' w43.heap.size 34 Enc.rcd a69 l69 c69 lc ∧ lc.length = q.1.length + j ∧ Upd (fun k => Blk a46 k ∨ Blk a54 k) w52 w' ∧
      (∀ k, Blk a68 k → Blk a46 k ∨ w52.heap.size ≤ k) ∧ (∀ k, Blk a69 k → Blk a54 k ∨ w52.heap.size ≤ k) ∧ (∀ k, Blk a68 k → ¬ Blk a69 k), fun _ _ _ _ _ _ i _ => 9 - i.toNat, ⟨0, la, lc, rfl, by omega, hoa64, by simpa using hla, hoc64.base (by omega), by simpa using hlc, hU64, fun k hk => .inl hk, fun k hk => .inl hk, fun k hk hk' => by have := bA hk; have := bC hk'; omega⟩, ?_⟩
    rintro a68 l68 c68 a69 l69 c69 i w71 ⟨j, la, lc, rfl, hj, hoA, hlA, hoC, hlC, hU71, hbA, hbC, hAC⟩
    refine ⟨fun hlt9 b72 w73 hal73 => ?_, fun hge9 => ?_⟩
    · simp only [decide_eq_true_eq] at hlt9
      have hwj : IntKind.i64.wrap ((j : Int) + 1) = ((j + 1 : Nat) : Int) := by rw [IntKind.wrap_i64]; omega
      have s71 := hU71.size
      have s73 := hal73.grew.size
      refine append_new (l2 := [⟨79, 0⟩]) elRec hoA hal73 rfl rfl (by omega) (by simp [maxLen]; omega) (by simp; omega) ?_
      rintro u w74 ⟨a76, l76, c76, rfl, ho76, hu76, hb76⟩
      have hoC74 := hoC.upd hu76 fun k hk hk' => hAC k hk' hk
      have s74 := hu76.size
      refine ⟨_, _, _, rfl, fun b77 w78 hal78 => ?_⟩
      have s78 := hal78.grew.size
      refine append_new (l2 := [⟨80, 0⟩]) elRec hoC74 hal78 rfl rfl (by omega) (by simp [maxLen]; omega) (by simp; omega) ?_
      rintro u w79 ⟨a81, l81, c81, rfl, ho81, hu81, hb81⟩
      rw [hwj]
      have ho76' := ho76.upd hu81 fun k hk hk' => (hb76 k hk).elim (fun h => hAC k h hk') fun h => by have := (hoC.blk hk').2; omega
      have hU76 : Upd (fun k => Blk a46 k ∨ Blk a54 k) w52 w74 := hU71.then hu76 fun k hk h => (hbA k h).elim .inl fun h => by omega
      refine ⟨_, _, _, rfl, ⟨j + 1, _, _, rfl, by omega, ho76', by simp; omega, ho81, by simp; omega, hU76.then hu81 fun k hk h => (hbC k h).elim .inr fun h => by omega, fun k hk => ?_, fun k hk => ?_, fun k hk hk' => ?_⟩, by show 9 - (((j + 1 : Nat) : Int)).toNat < 9 - ((j : Int)).toNat; omega⟩
      · exact (hb76 k hk).elim (hbA k) fun h => .inr (by omega)
      · exact (hb81 k hk).elim (hbC k) fun h => .inr (by omega)
      · have h1 := (ho76.blk hk).2
        rcases hb76 k hk with h | h
        · rcases hb81 k hk' with h' | h'
          · exact hAC k h h'
          · have := (hoA.blk h).2; omega
        · rcases hb81 k hk' with h' | h'
          · have := (hoC.blk h').2; omega
          · omega
    · simp only [decide_eq_false_iff_not] at hge9
      have offU : ∀ {k : Nat}, k < w43.heap.size → ¬ (Blk a46 k ∨ Blk a54 k) := fun hk h => h.elim (fun h => by have := bA h; omega) (fun h => by have := bC h; omega)
      have hS71 := hS52.upd hU71 fun k hk => offU (bS hk)
      have hT71 := hT52.upd hU71 fun k hk => offU (bT hk)
      have hob71 := hob52.upd hU71 fun k hk h => h.elim (fun h => by have := bA h; have := bB hk; omega) (fun h => by have := bC h; have := bB hk; omega)
      have hg71 : Grew w w71 := hg52'.then_own hU71 fun k hk => by
        rcases hk with h | h
        · have := bA h; omega
        · have := bC h; omega
      refine (Log_ok hT71).use fun u w82 ⟨a84, l84, c84, hv, hod, hg82⟩ => ?_
      subst hv
      rw [hlog] at hod
      refine ⟨_, _, _, rfl, (records_ok (hob71.grew hg82).reads hod.reads (by omega)).use fun u w86 ⟨hv, hg86⟩ => ?_⟩
      subst hv
      refine ⟨_, rfl, fun h => (by cases h), fun _ => ?_⟩
      refine (Log_ok ((hS71.grew hg82).grew hg86)).use fun u w90 ⟨a92, l92, c92, hv, hoe, hg90⟩ => ?_
      subst hv
      rw [hlog] at hoe
      refine ⟨_, _, _, rfl, (records_ok hoe.reads (((hob71.grew hg82).grew hg86).grew hg90).reads (by omega)).use fun u w94 ⟨hv, hg94⟩ => ?_⟩
      subst hv
      refine ⟨_, rfl, fun h => (by cases h), fun _ => ⟨fun h => ?_, fun _ => ?_⟩⟩
      · rw [hoA.len, hoC.len, hlA, hlC] at h; simp at h
      · rw [hwp]
        have gg := hg82.trans (hg86.trans (hg90.trans hg94))
        exact ⟨⟨p + 1, rfl, by omega, hS71.grew gg, hT71.grew gg, hg71.trans gg⟩, by show 2 - (((p + 1 : Nat) : Int)).toNat < 2 - ((p : Int)).toNat; omega⟩
  · refine (SKeys_ok hS43).use fun u w98 ⟨a100, l100, c100, hv, hok, hg98⟩ => ?_
    subst hv
    have hkl := hS43.fits.keys.2.1
    have hS98 := hS43.grew hg98
    have hT98 := hT43.grew hg98
    have s43 := hg43.size
    have h100 : l100 = (sortL V.keys).length := hok.len
    refine ⟨_, _, _, rfl, fill_own_n hok 5 fun l' w104 hl' hok' hu => ?_⟩
    have hS104 := hS98.upd hu fun k hk hk' => by have := (hok.blk hk').1; have := (hS43.foot hk).2; omega
    have hT104 := hT98.upd hu fun k hk hk' => by have := (hok.blk hk').1; have := (hT43.foot hk).2; omega
    have hg104 : Grew w w104 := (hg43.trans hg98).then_own hu fun k hk => by have := (hok.blk hk).1; omega
    refine (SKeys_ok hS104).use fun u w108 ⟨a110, l110, c110, hv, ho1, hg108⟩ => ?_
    subst hv
    refine ⟨_, _, _, rfl, (SKeys_ok (hT104.grew hg108)).use fun u w112 ⟨a114, l114, c114, hv, ho2, hg112⟩ => ?_⟩
    subst hv
    refine ⟨_, _, _, rfl, (lkeys_ok (ho1.grew hg112).reads ho2.reads (by rw [sortL_len]; omega)).use fun u w116 ⟨hv, hg116⟩ => ?_⟩
    subst hv
    exact ⟨_, rfl, _, rfl, rfl, hg104.trans (hg108.trans (hg112.trans hg116))⟩

open Go.ChangeShapes Go.WideShapes Go.ChangeAt Go.RowKit
set_option maxRecDepth 100000 in
theorem sourceMemory_lifted (os : Os) (started : os.Started) (H : Type) (enc : TypeId × Value → H) :
    ReturnsInHanded {} Try.checked os 5 .any (Rows.sourceMemorySpec.pre6 enc Try.prog Try.f5 Rows.sourceMemoryRow.domain false) (Rows.sourceMemorySpec.post enc Try.prog Try.f5 false true false false) := by
  refine returnsInHanded_of_change_sized (C := Try.checked) (by kernel_rfl) started (by kernel_rfl) Try.func5
    (ChangeSpec.witness6 (enc := enc) (C := Try.checked) false ⟨#[], #[.slice none 0 0, .slice none 0 0], []⟩ 8 (by kernel_rfl) (by kernel_rfl) (by kernel_rfl) (by kernel_rfl)) ?_
  intro W base args ds gs before hval0 hW hcnd hsz0 _
  have hval : ∀ (j : Nat) t v, Try.f5.params[j]? = some t → args[j]? = some v → Value.okWide Try.prog W .any base t v := hval0
  have hW' := hW
  obtain ⟨p, q, hA0, hV, rfl, hfz, hnd⟩ := hW
  have hA : DataW.TrodAll enc Try.prog W 0 (fun _ => true) true Try.f5.params.toList args.toList ds p := hA0
  have hsz : (DataW.weightsEach Try.prog (Try.f5.params.toList ++ _) (ds ++ gs)).all (· ≤ reachBytes) = true := hsz0
  rw [show Try.f5.params = #[22, 23] from by kernel_rfl] at hA hval hsz
  have hA1 := hA
  obtain ⟨v0, vs0, d0, ds0, p0, q0, hargs, rfl, rfl, h0, r0⟩ := trodAll_cons hA
  obtain ⟨v1, vs1, d1, ds1, p1, q1, rfl, rfl, rfl, h1, r1⟩ := trodAll_cons r0
  obtain ⟨rfl, rfl, rfl⟩ := trodAll_nil r1
  obtain rfl : args = #[v0, v1] := by cases args; simp_all
  obtain ⟨a0, n0, c0, l0, rfl, hr0, hcl0, hn0, hb0⟩ := open_sub (P := Try.prog) (t := 22) (e := 51) (arg_sub (e := 51) (j := 0) hsz rfl rfl (by kernel_rfl) (hval 0 22 v0 rfl rfl) h0) (by kernel_rfl) op3_kinds (by kernel_rfl) (B := 24) (by kernel_rfl) (E := Enc.op3) rfl op3_of
  obtain ⟨a1, n1, c1, l1, rfl, hr1, hcl1, hn1, hb1⟩ := open_sub (P := Try.prog) (t := 23) (e := 36) (arg_sub (e := 36) (j := 1) hsz rfl rfl (by kernel_rfl) (hval 1 23 v1 rfl rfl) h1) (by kernel_rfl) item_kinds (by kernel_rfl) (B := 24) (by kernel_rfl) (E := Enc.item) rfl item_of
  clear hA0 hA1 hval0 hsz0
  refine (CallsW.calls ⟨_, Try.func5, by kernel_rfl, by kernel_rfl⟩ (SourceMemory_ok hr0 hcl0 hn0 hb0 hr1 hcl1 hn1 hb1)).mono fun e W' ⟨w', hh, hk, v, he, hv, hg⟩ => ?_
  subst he; subst hv
  exact ⟨_, rfl, post_true (tb := 4) (by kernel_rfl) rfl (by kernel_rfl) (by kernel_rfl) ⟨rfl, rfl, rfl⟩ (by decide +kernel) hW' (below_of hg hh hk)⟩

theorem sourceMemory_holds : Rows.SourceMemorySaid :=
  OpenClaim.holds_of_wide 5 Try.f5 rfl rfl rfl rfl rfl rfl rfl ⟨rfl, rfl, rfl, rfl, rfl⟩ rfl rfl rfl rfl rfl (by kernel_rfl) Try.func5 (by kernel_rfl)
    (of_decide_eq_true (by kernel_rfl)) (by unfold Func.isWrapper; first | (rw [if_pos (by decide +kernel)]; kernel_rfl) | (rw [if_neg (by decide +kernel)]; exact ⟨rfl, rfl⟩))
    (fun os started H enc _ => sourceMemory_lifted os started H enc)
end Go.Proofs.Ytifhpmmdfjmppaa
