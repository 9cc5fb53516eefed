import Derived.Test.YtcpkneemhfnanaaGreatProg
import Derived.Test.YtcpkneemhfnanaaGreatWorkM
import Derived.Test.YtcpkneemhfnanaaGreatSxX
import Derived.Test.YtcpkneemhfnanaaGreatSxQ
import Derived.Test.YtcpkneemhfnanaaGreatSxWq
/- What a case of the law is made of. Conditions: none. -/
namespace Go.Proofs.YtcpkneemhfnanaaGreat
open Go.Sx
set_option maxRecDepth 100000
set_option linter.unusedVariables false
set_option linter.unusedSimpArgs false
structure CaseX where
  p : Plan
  r : Sl3
  off : Int
  f : Sl3
def CaseX.vals (x : CaseX) : List Value := [.int .i64 x.p.c.parts, .int .i64 x.p.c.stores, .int .i64 x.p.c.workers, .slice x.p.o.1 x.p.o.2.1 x.p.o.2.2, .int .i64 x.p.c.agg, .int .i64 x.p.c.batch, .int .i64 x.p.c.window, .int .i64 x.p.c.giveUp, .slice x.r.1 x.r.2.1 x.r.2.2, .int .i64 x.off, .slice x.f.1 x.f.2.1 x.f.2.2]
@[reducible] def CaseX.val (x : CaseX) : Value := .agg #[.int .i64 x.p.c.parts, .int .i64 x.p.c.stores, .int .i64 x.p.c.workers, .slice x.p.o.1 x.p.o.2.1 x.p.o.2.2, .int .i64 x.p.c.agg, .int .i64 x.p.c.batch, .int .i64 x.p.c.window, .int .i64 x.p.c.giveUp, .slice x.r.1 x.r.2.1 x.r.2.2, .int .i64 x.off, .slice x.f.1 x.f.2.1 x.f.2.2]
def Enc.caseX : Enc CaseX := ⟨11, CaseX.vals, fun _ => rfl, by decide, fun x v h => by simp [CaseX.vals] at h; rcases h with rfl | rfl | rfl | rfl | rfl | rfl | rfl | rfl | rfl | rfl | rfl <;> rfl⟩
structure CaseIn (w : World) (x : CaseX) : Prop where
  plan : x.p.At w
  ops : ∀ o ∈ x.p.c.ops, o.Fits
  opl : x.p.c.ops.length ≤ maxLen ∧ x.p.c.ops.length * 24 ≤ 140737488351232
  rl : ∃ rs, Reads w Enc.rcd x.r rs ∧ ∀ r ∈ rs, r.Fits
  fl : ∃ fr, Reads w (Enc.int .i64) x.f fr
theorem wop_kinds : kinds2 Tryz.prog 8 79 = some [.int .i64, .int .i64, .float .f64] := by kernel_rfl
theorem wrec_kinds : kinds2 Tryz.prog 8 43 = some [.int .u64, .float .f64] := by kernel_rfl
theorem wint_kinds : kinds2 Tryz.prog 2 3 = some [.int .i64] := by kernel_rfl
theorem wop_of {S : TypeId → Value → Prop} (cs : List Value) (h : AllK2 S [.int .i64, .int .i64, .float .f64] cs) : ∃ x : OpV, cs = Enc.op3.f x ∧ x.Fits := by
  obtain ⟨hl, h⟩ := h
  match cs, hl with
  | [c0, c1, c2], _ =>
    obtain ⟨_, e0, n0, rfl, w0⟩ := h 0 _ rfl
    obtain ⟨_, e1, n1, rfl, w1⟩ := h 1 _ rfl
    obtain ⟨_, e2, n2, rfl, w2⟩ := h 2 _ rfl
    simp at e0 e1 e2; subst e0; subst e1; subst e2
    refine ⟨⟨n0, n1, n2⟩, rfl, ?_⟩
    simp [Lit.wf, IntKind.min, IntKind.max, IntKind.signed, IntKind.bits] at w0 w1 w2
    refine ⟨⟨?_, ?_⟩, ⟨?_, ?_⟩, ?_⟩ <;> simp only <;> omega
theorem wrec_of {S : TypeId → Value → Prop} (cs : List Value) (h : AllK2 S [.int .u64, .float .f64] cs) : ∃ x : RecV, cs = Enc.rcd.f x ∧ x.Fits := by
  obtain ⟨hl, h⟩ := h
  match cs, hl with
  | [c0, c1], _ =>
    obtain ⟨_, e0, n0, rfl, w0⟩ := h 0 _ rfl
    obtain ⟨_, e1, n1, rfl, w1⟩ := h 1 _ rfl
    simp at e0 e1; subst e0; subst e1
    refine ⟨⟨n0, n1⟩, rfl, ?_⟩
    simp [Lit.wf, IntKind.min, IntKind.max, IntKind.signed, IntKind.bits] at w0 w1
    refine ⟨⟨?_, ?_⟩, ?_⟩ <;> simp only [u64m] <;> omega
theorem wint_of {S : TypeId → Value → Prop} (cs : List Value) (h : AllK2 S [.int .i64] cs) : ∃ x : Int, cs = (Enc.int .i64).f x ∧ True := by
  obtain ⟨hl, h⟩ := h
  match cs, hl with
  | [c0], _ =>
    obtain ⟨_, e0, n0, rfl, w0⟩ := h 0 _ rfl
    simp at e0; subst e0
    exact ⟨n0, rfl, trivial⟩
theorem case_kinds : kinds2 Tryz.prog 8 64 = some [.int .i64, .int .i64, .int .i64, .sub 22, .int .i64, .int .i64, .int .i64, .int .i64, .sub 62, .int .i64, .sub 44] := by kernel_rfl
section
open Go.ChangeShapes Go.WideShapes Go.RowKit
variable {H : Type} {enc : TypeId × Value → H}
theorem case_of {w : World} {spare : Nat → Bool} {held : Bool} (cs : List Value) (h : AllK2 (Sub enc Tryz.prog w spare held) [.int .i64, .int .i64, .int .i64, .sub 22, .int .i64, .int .i64, .int .i64, .int .i64, .sub 62, .int .i64, .sub 44] cs) : ∃ x : CaseX, cs = Enc.caseX.f x ∧ CaseIn w x := by
  obtain ⟨hl, h⟩ := h
  match cs, hl with
  | [c0, c1, c2, c3, c4, c5, c6, c7, c8, c9, c10], _ =>
    obtain ⟨_, e0, n0, rfl, -⟩ := h 0 _ rfl
    obtain ⟨_, e1, n1, rfl, -⟩ := h 1 _ rfl
    obtain ⟨_, e2, n2, rfl, -⟩ := h 2 _ rfl
    obtain ⟨v3, e3, h3⟩ := h 3 _ rfl
    obtain ⟨_, e4, n4, rfl, -⟩ := h 4 _ rfl
    obtain ⟨_, e5, n5, rfl, -⟩ := h 5 _ rfl
    obtain ⟨_, e6, n6, rfl, -⟩ := h 6 _ rfl
    obtain ⟨_, e7, n7, rfl, -⟩ := h 7 _ rfl
    obtain ⟨v8, e8, h8⟩ := h 8 _ rfl
    obtain ⟨_, e9, n9, rfl, -⟩ := h 9 _ rfl
    obtain ⟨v10, e10, h10⟩ := h 10 _ rfl
    simp at e0 e1 e2 e3 e4 e5 e6 e7 e8 e9 e10
    subst e0; subst e1; subst e2; subst e3; subst e4; subst e5; subst e6; subst e7; subst e8; subst e9; subst e10
    obtain ⟨a, n, c, l, rfl, hr, hf, hlen, hb⟩ := open_sub (show Sub enc Tryz.prog w spare held 22 c3 from h3) (by kernel_rfl) wop_kinds (by kernel_rfl) (B := 24) (by kernel_rfl) (E := Enc.op3) rfl wop_of
    obtain ⟨a2, m2, k2, rs, rfl, hr2, hf2, hlen2, hb2⟩ := open_sub (show Sub enc Tryz.prog w spare held 62 c8 from h8) (by kernel_rfl) wrec_kinds (by kernel_rfl) (B := 16) (by kernel_rfl) (E := Enc.rcd) rfl wrec_of
    obtain ⟨a3, m3, k3, fr, rfl, hr3, hf3, hlen3, hb3⟩ := open_sub (show Sub enc Tryz.prog w spare held 44 c10 from h10) (by kernel_rfl) wint_kinds (by kernel_rfl) (B := 8) (by kernel_rfl) (E := Enc.int .i64) rfl wint_of
    exact ⟨⟨⟨⟨n0, n1, n2, l, n4, n5, n6, n7⟩, (a, n, c)⟩, (a2, m2, k2), n9, (a3, m3, k3)⟩, rfl, hr, hf, ⟨hlen, hb⟩, ⟨rs, hr2, hf2⟩, ⟨fr, hr3⟩⟩
theorem openCase {ts : List TypeId} {ds : List (DataW H)} (hz : (DataW.weightsEach Tryz.prog ts ds).all (· ≤ reachBytes) = true) {j : Nat} (htj : ts[j]? = some 64) {dt : DataW H} (hdj : ds[j]? = some dt) {w : World} {spare : Nat → Bool} {held : Bool} {v : Value} {ps : List MemPlace}
    {r : Reach} {b0 : Nat} (hval : Value.okWide Tryz.prog w r b0 64 v) (h : DataW.Trod enc Tryz.prog w 0 spare held 64 v dt ps) : ∃ x : CaseX, v = x.val ∧ CaseIn w x := by
  obtain ⟨x, rfl, hx⟩ := arg_struct hz htj hdj (by kernel_rfl) case_kinds hval h (E := Enc.caseX) case_of
  exact ⟨x, rfl, hx⟩
end
end Go.Proofs.YtcpkneemhfnanaaGreat
/- What a law holds while a worker and its source go on. Conditions: none. -/
namespace Go.Proofs.YtcpkneemhfnanaaGreat
open Go.Sx
set_option maxRecDepth 100000
set_option linter.unusedVariables false
set_option linter.unusedSimpArgs false
structure Clear (w : World) (sx : SrcX) (X : WorkX) (S : Nat → Prop) : Prop where
  out : ∀ b, S b → b < w.heap.size ∧ ¬ sx.Foot b ∧ ¬ WFoot X b
theorem Clear.more {w w' : World} {sx : SrcX} {X : WorkX} {S : Nat → Prop} (h : Clear w sx X S) (hs : w.heap.size ≤ w'.heap.size) : Clear w' sx X S := ⟨fun b hb => ⟨by have := (h.out b hb).1; omega, (h.out b hb).2⟩⟩
theorem Clear.play {w0 w w' : World} {sx : SrcX} {s : SrcV} {X X' : WorkX} {r : TookV} {a : Option Addr} {n c : Nat} {xs : List Msg} {S : Nat → Prop} (h : Clear w sx X S) (P : Play w0 w sx s X r a n c w' X' xs) : Clear w' sx X' S :=
  ⟨fun b hb => ⟨by have := (h.out b hb).1; have := P.upd.size; omega, (h.out b hb).2.1, fun hf => (P.foot b hf).elim (h.out b hb).2.2 (fun h2 => by have := (h.out b hb).1; omega)⟩⟩
theorem Clear.new {w0 w w' : World} {sx : SrcX} {s : SrcV} {X : WorkX} {V : WorkV} {S : Nat → Prop} (P : Pair2 w0 w sx s X V) (hS : ∀ b, S b → w.heap.size ≤ b ∧ b < w'.heap.size) : Clear w' sx X S :=
  ⟨fun b hb => ⟨(hS b hb).2, fun h => by have := (P.src.foot h).2; have := (hS b hb).1; omega, fun h => by have := (P.wrk.foot h).2; have := (hS b hb).1; omega⟩⟩
theorem Clear.or {w : World} {sx : SrcX} {X : WorkX} {S T : Nat → Prop} (h : Clear w sx X S) (k : Clear w sx X T) : Clear w sx X (fun b => S b ∨ T b) := ⟨fun b hb => hb.elim (h.out b) (k.out b)⟩
theorem Clear.msgs {w0 w w' : World} {sx : SrcX} {s : SrcV} {X X' : WorkX} {V : WorkV} {r : TookV} {a : Option Addr} {n c : Nat} {xs : List Msg} (P0 : Pair2 w0 w sx s X V) (P : Play w0 w sx s X r a n c w' X' xs) : Clear w' sx X' (fun b => Blk a b ∨ ∃ x ∈ xs, x.Blk b) := by
  refine ⟨fun b hb => ?_⟩
  rcases hb with hb | ⟨x, hx, hb⟩
  · have := P.new.own.blk hb
    exact ⟨this.2, fun h => by have := (P0.src.foot h).2; omega, P.out.a b hb⟩
  · have := (P.new.each x hx).blk hb
    exact ⟨this.2, fun h => by have := (P0.src.foot h).2; omega, P.out.x x hx b hb⟩
/-- the source goes on -/
theorem Pair2.srcMoved {w0 w w' : World} {sx : SrcX} {s s' : SrcV} {X : WorkX} {V : WorkV} {S : Nat → Prop} (h : Pair2 w0 w sx s X V) (hc : Clear w sx X S) (hM : SrM w w0.heap.size sx w' s') : ∃ sx', sx'.p = sx.p ∧ Pair2 w0 w' sx' s' X V ∧ Upd sx.Foot w w' ∧ Clear w' sx' X S := by
  obtain ⟨x', a1, a2, a3, a4⟩ := hM.out
  have z := a3.size
  refine ⟨x', a2, ⟨a1, h.wrk.upd a3 fun b hb hb' => h.apart b hb' hb, fun b hb hb' => ?_, SrM.grewW hM h.src h.grew (Nat.le_refl _)⟩, a3, ⟨fun b hb => ⟨by have := (hc.out b hb).1; omega, fun hf => ?_, (hc.out b hb).2.2⟩⟩⟩
  · rcases a4 b hb with h1 | h1
    · exact h.apart b h1 hb'
    · have := (h.wrk.foot hb').2; omega
  · rcases a4 b hf with h1 | h1
    · exact (hc.out b hb).2.1 h1
    · have := (hc.out b hb).1; omega
structure Base (w0 w : World) (sx : SrcX) (s : SrcV) (X : WorkX) (V : WorkV) (f : List Int) (a : Option Addr) (n c : Nat) (r : Msg) : Prop where
  pair : Pair2 w0 w sx s X V
  from_ : Reads w (Enc.int .i64) (a, n, c) f
  rat : r.At w
  clr : Clear w sx X (fun b => Blk a b ∨ r.Blk b)
theorem Base.more {w0 w w' : World} {sx : SrcX} {s : SrcV} {X : WorkX} {V : WorkV} {f : List Int} {a : Option Addr} {n c : Nat} {r : Msg} (h : Base w0 w sx s X V f a n c r) (hg : Grew w w') : Base w0 w' sx s X V f a n c r := ⟨h.pair.more hg, h.from_.grew hg, h.rat.grew hg, h.clr.more hg.size⟩
theorem Base.play {w0 w w' : World} {sx : SrcX} {s : SrcV} {X X' : WorkX} {V : WorkV} {t : TookV} {a' : Option Addr} {n' c' : Nat} {xs : List Msg} {f : List Int} {a : Option Addr} {n c : Nat} {r : Msg} (h : Base w0 w sx s X V f a n c r) (P : Play w0 w sx s X t a' n' c' w' X' xs) : Base w0 w' sx s X' t.w f a n c r :=
  ⟨P.pair, h.from_.upd P.upd fun b hb => (h.clr.out b (.inl hb)).2.2, h.rat.upd P.upd fun b hb => (h.clr.out b (.inr hb)).2.2, h.clr.play P⟩
theorem Base.src {w0 w w' : World} {sx : SrcX} {s s' : SrcV} {X : WorkX} {V : WorkV} {f : List Int} {a : Option Addr} {n c : Nat} {r : Msg} (h : Base w0 w sx s X V f a n c r) (hM : SrM w w0.heap.size sx w' s') : ∃ sx', sx'.p = sx.p ∧ Base w0 w' sx' s' X V f a n c r := by
  obtain ⟨sx', h1, h2, h3, h4⟩ := h.pair.srcMoved h.clr hM
  exact ⟨sx', h1, h2, h.from_.upd h3 fun b hb => (h.clr.out b (.inl hb)).2.1, h.rat.upd h3 fun b hb => (h.clr.out b (.inr hb)).2.1, h4⟩
theorem base_new {w0 w w1 w' : World} {sx : SrcX} {s : SrcV} {X X' : WorkX} {V : WorkV} {t : TookV} {a' : Option Addr} {n' c' : Nat} {r : Msg} {f : List Int} {a : Option Addr} {n c : Nat} (h : Pair2 w0 w sx s X V) (hf : Reads w (Enc.int .i64) (a, n, c) f) (ha : Clear w sx X (Blk a)) (hg : Grew w w1) (P : Play w0 w1 sx s X t a' n' c' w' X' [r]) : Base w0 w' sx s X' t.w f a n c r :=
  ⟨P.pair, (hf.grew hg).upd P.upd fun b hb => (ha.out b hb).2.2, (P.out.own.each r (by simp)).at, ((ha.more hg.size).play P).or ⟨fun b hb => (Clear.msgs (h.more hg) P).out b (.inr ⟨r, by simp, hb⟩)⟩⟩
end Go.Proofs.YtcpkneemhfnanaaGreat
/- Tables that come together while a worker goes on. Conditions: none. -/
namespace Go.Proofs.YtcpkneemhfnanaaGreat
open Go.Sx
set_option maxRecDepth 100000
set_option linter.unusedVariables false
set_option linter.unusedSimpArgs false
structure TabSt (w0 w : World) (sy : SrcX) (t : SrcV) (Y : WorkX) (p : PlanV) (a : AttV) (f : List Int) (fa : Option Addr) (fn fc : Nat) (r : Msg) (T W : List PairV) (ba : Option Addr) (bn bc : Nat) (xs : List Msg) (wa : Option Addr) (wn wc : Nat) (aa : Option Addr) (an ac : Nat) (k : Nat) : Prop where
  base : Base w0 w sy t Y (W1 p a) f fa fn fc r
  out : Out w Y ba bn bc xs
  want : Reads w Enc.pair (wa, wn, wc) W
  wclr : Clear w sy Y (Blk wa)
  all : Reads w Enc.pair (aa, an, ac) (upTo p.stores T k)
  aclr : Clear w sy Y (Blk aa)
section
variable {w0 w w' : World} {sy : SrcX} {t : SrcV} {Y Y' : WorkX} {p : PlanV} {a : AttV} {f : List Int} {fa : Option Addr} {fn fc : Nat} {r : Msg} {T W : List PairV} {ba : Option Addr} {bn bc : Nat} {xs : List Msg} {wa : Option Addr} {wn wc : Nat} {aa : Option Addr} {an ac : Nat} {k : Nat}
theorem TabSt.more (h : TabSt w0 w sy t Y p a f fa fn fc r T W ba bn bc xs wa wn wc aa an ac k) (hg : Grew w w') : TabSt w0 w' sy t Y p a f fa fn fc r T W ba bn bc xs wa wn wc aa an ac k := ⟨h.base.more hg, h.out.more hg, h.want.grew hg, h.wclr.more hg.size, h.all.grew hg, h.aclr.more hg.size⟩
theorem TabSt.play {l : List MsgV} {a' : Option Addr} {n' c' : Nat} {ys : List Msg} (h : TabSt w0 w sy t Y p a f fa fn fc r T W ba bn bc xs wa wn wc aa an ac k) (P : Play w0 w sy t Y ⟨W1 p a, l, 0⟩ a' n' c' w' Y' ys) : TabSt w0 w' sy t Y' p a f fa fn fc r T W ba bn bc xs wa wn wc aa an ac k :=
  ⟨h.base.play P, h.out.play P.upd P.foot, h.want.upd P.upd fun b hb => (h.wclr.out b hb).2.2, h.wclr.play P, h.all.upd P.upd fun b hb => (h.aclr.out b hb).2.2, h.aclr.play P⟩
theorem TabSt.upd_new {S : Nat → Prop} {wB : World} {YB : WorkX} (h0 : TabSt w0 wB sy t YB p a f fa fn fc r T W ba bn bc xs wa wn wc aa an ac k) (h : TabSt w0 w sy t Y p a f fa fn fc r T W ba bn bc xs wa wn wc aa an ac k) (hu : Upd S w w') (hB : wB.heap.size ≤ w.heap.size) (hS : ∀ b, S b → wB.heap.size ≤ b ∧ ¬ WFoot Y b) : TabSt w0 w' sy t Y p a f fa fn fc r T W ba bn bc xs wa wn wc aa an ac k := by
  have z := hu.size
  have far : ∀ b, b < wB.heap.size → ¬ S b := fun b h1 h2 => by have := (hS b h2).1; omega
  have c1 := h0.base.clr; have c2 := h0.wclr; have c3 := h0.aclr
  have g0 := h.base.pair.grew
  refine ⟨⟨⟨h.base.pair.src.upd hu fun b hb => far b (h0.base.pair.src.foot hb).2, h.base.pair.wrk.upd hu fun b hb hb' => (hS b hb').2 hb, h.base.pair.apart, g0.then_own hu fun b hb => by have := (hS b hb).1; have := h0.base.pair.grew.size; omega⟩, h.base.from_.upd hu fun b hb => far b (c1.out b (.inl hb)).1, h.base.rat.upd hu fun b hb => far b (c1.out b (.inr hb)).1, h.base.clr.more z⟩,
    ⟨h.out.own.upd hu (fun b hb => far b (h0.out.own.own.blk hb).2) fun x hx b hb => far b ((h0.out.own.each x hx).blk hb).2, h.out.a, h.out.x⟩, h.want.upd hu fun b hb => far b (c2.out b hb).1, h.wclr.more z, h.all.upd hu fun b hb => far b (c3.out b hb).1, h.aclr.more z⟩
end
end Go.Proofs.YtcpkneemhfnanaaGreat
