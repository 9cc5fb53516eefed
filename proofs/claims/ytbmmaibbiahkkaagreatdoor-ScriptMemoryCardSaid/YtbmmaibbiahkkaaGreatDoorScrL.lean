/- A script read. Conditions: none. -/
import Derived.Test.YtbmmaibbiahkkaaGreatDoorProg
import Derived.Test.YtbmmaibbiahkkaaGreatDoorScrK
namespace Go.Proofs.YtbmmaibbiahkkaaGreatDoor
open Go.Sx
set_option maxRecDepth 100000
set_option linter.unusedVariables false
set_option linter.unusedSimpArgs false
open Go.RowKit Go.Maps Go.Sort
theorem I5 {v W : World} {b o : Nat} {x : Value} (h : Ae v W) (hl : v.heap[b]? = some hole) : Ae v (W.setCell ⟨b, o, none⟩ x) := by
 refine ⟨h.os, h.tape, h.drawn, h.output, by rw [h.size]; simp [World.setCell], fun k => ?_⟩
 by_cases hk : k = b
 ·subst hk; exact .inr hl
 ·rcases h.block k with e | e
  ·left; rw [e]; simp only [World.setCell, Array.getElem?_modify]; rw [if_neg (fun h => hk h.symm)]
  ·exact .inr e
theorem D3 {v : World} {k b o : Nat} {x : Value} (h : v.heap[k]? = some hole) : (v.setCell ⟨b, o, none⟩ x).heap[k]? = some hole := by
 simp only [World.setCell, Array.getElem?_modify, h]; split <;> rfl
theorem Ni {v W : World} {b o : Nat} {x : Value} (h : Ae v W) : Ae (v.setCell ⟨b, o, none⟩ x) (W.setCell ⟨b, o, none⟩ x) := by
 refine ⟨h.os, h.tape, h.drawn, h.output, by simp [World.setCell, h.size], fun k => ?_⟩
 rcases h.block k with e | e
 ·left; simp only [World.setCell, Array.getElem?_modify, e]
 ·exact .inr (D3 e)
theorem Nj {st st' : ScrS} {l : L8} (h : Cj st l = .ok st') : (Cf st'.p).length ≤ (Cf st.p).length + 1 := by
 unfold Cj at h
 split at h
 ·cases h
 ·split at h
  ·split at h
   ·split at h
    ·rename_i p hp
     cases h
     have : p.ops = [] := by
      unfold E3 at hp
      split at hp
      ·split at hp
       ·cases hp; rfl
       ·cases hp
      ·cases hp
     show p.ops.length ≤ _
     rw [this]; exact Nat.zero_le _
    ·cases h
   ·cases h
  ·rename_i p hp
   rw [hp]
   split at h
   ·split at h
    ·cases h; show (p.ops ++ [_]).length ≤ p.ops.length + 1; simp
    ·cases h
   ·split at h
    ·cases h
    ·split at h
     ·cases h
     ·cases h; show (Cf st.p).length ≤ _; rw [hp]; exact Nat.le_succ _
def G2 : Code := (Code.region 6 #[{ dst := some 7, op := Op.assign (Operand.tmp 17), type := 9, pos := "script.go:134", after := #[], guard := none }] false)
def Kg : Code := (Code.block 1 (Code.seq (Code.region 7 #[{ dst := some 18, op := Op.load 3 (Operand.tmp 4), type := 3, pos := "script.go:135", after := #[], guard := none }, { dst := some 19, op := Op.binOp BinOp.add 3 (Operand.tmp 18) (Operand.const (Value.int IntKind.i64 1)) 3, type := 3, pos := "script.go:135", after := #[{ on := 0, ground := Ground.data }], guard := none }, { dst := none, op := Op.store 3 (Operand.tmp 4) (Operand.tmp 19), type := 0, pos := "script.go:135", after := #[{ on := 1, ground := Ground.data }, { on := 0, ground := Ground.phase }, { on := 1, ground := Ground.phase }], guard := none }] false) (Code.seq (Code.region 8 #[{ dst := some 20, op := Op.move (Operand.tmp 7), type := 9, pos := "script.go:136", after := #[], guard := none }, { dst := some 21, op := Op.binOp BinOp.neq 9 (Operand.tmp 20) (Operand.const (Value.string { data := #[] })) 9, type := 4, pos := "script.go:136", after := #[{ on := 0, ground := Ground.data }], guard := none }, { dst := some 22, op := Op.move (Operand.tmp 21), type := 4, pos := "script.go:136", after := #[{ on := 1, ground := Ground.data }], guard := none }, { dst := some 23, op := Op.move (Operand.tmp 7), type := 9, pos := "script.go:136", after := #[{ on := 2, ground := Ground.guard }], guard := some (2, true) }, { dst := some 24, op := Op.index 9 (Operand.tmp 23) (Operand.const (Value.int IntKind.i64 0)), type := 5, pos := "script.go:136", after := #[{ on := 3, ground := Ground.data }, { on := 2, ground := Ground.guard }], guard := some (2, true) }, { dst := some 25, op := Op.binOp BinOp.neq 5 (Operand.tmp 24) (Operand.const (Value.int IntKind.u8 35)) 5, type := 4, pos := "script.go:136", after := #[{ on := 4, ground := Ground.data }, { on := 2, ground := Ground.guard }], guard := some (2, true) }, { dst := some 26, op := Op.pick (Operand.tmp 22) (Operand.tmp 25) (Operand.const (Value.bool false)), type := 4, pos := "script.go:136", after := #[{ on := 2, ground := Ground.data }, { on := 5, ground := Ground.data }], guard := none }] false) (Code.cond (Operand.tmp 26) (Code.region 9 #[{ dst := some 27, op := Op.load 53 (Operand.tmp 6), type := 53, pos := "script.go:137", after := #[], guard := none }, { dst := some 28, op := Op.move (Operand.tmp 7), type := 9, pos := "script.go:137", after := #[], guard := none }, { dst := some 29, op := Op.call { callee := Callee.value (Operand.func 20), args := #[Operand.tmp 27, Operand.tmp 28], argTypes := #[53, 9] }, type := 0, pos := "script.go:137", after := #[{ on := 0, ground := Ground.data }, { on := 1, ground := Ground.data }], guard := none }] false) Code.skip))))
def Hm (t : L8) (hs : Nat) (it ln : Value) : List Value :=
 [.string (bs t), undef, .pointer (some ⟨hs, 0, none⟩), .pointer (some ⟨hs + 1, 0, none⟩), .pointer (some ⟨hs + 2, 0, none⟩), .pointer (some ⟨hs + 3, 0, none⟩), .pointer (some ⟨hs + 5, 0, none⟩), undef, .string (bs t), .int .i64 (t.length : Int), .bool (decide (262144 < (t.length : Int))), undef,
  .func (.func 18) #[] #[.pointer (some ⟨hs, 0, none⟩), .pointer (some ⟨hs + 1, 0, none⟩), .pointer (some ⟨hs + 3, 0, none⟩)],
  .agg #[.int .i64 0, .int .i64 0, .int .i64 0, .slice none 0 0, .int .i64 0, .int .i64 0, .int .i64 0, .int .i64 0, .slice none 0 0, .bool false],
  .pointer (some ⟨hs + 4, 0, none⟩), .string (bs t), it, ln, undef, undef, undef, undef, undef, undef, undef, undef, undef, undef, undef, undef, undef, undef, undef, undef, undef, undef, undef, undef, undef, undef, undef, undef, undef]
def Dp (t : L8) (hs D : Nat) (it : Value) (fn : FuncId) (stt : LoopState) : Loop :=
 { state := stt, pending := none, fn, tmps := (Hm t hs it undef).toArray, params := #[17], assign := G2, body := Kg, defers := D }
structure ParV (t : L8) (w0 T : World) (hs : Nat) (n : Int) (v W : World) (x : RdX) (st : ScrS) : Prop where
 hides : Ae v W
 rP : Row v hs 25 [.int .i64 0, .int .i64 0, .int .i64 0, .slice none 0 0, .int .i64 0, .int .i64 0, .int .i64 0, .int .i64 0]
 rS : Row v (hs + 1) 26 [.slice none 0 0]
 rA : Row v (hs + 2) 3 [.int .i64 n]
 rE : Row v (hs + 3) 27 [.int .i64 0]
 rR : Row v (hs + 5) 53 [.pointer (some ⟨hs + 4, 0, none⟩)]
 rd : RA v w0.heap.size (hs + 4) x st
 grew : Grew w0 v
 same : ∀ b : Nat, w0.heap[b]? = some hole → W.heap[b]? = T.heap[b]?
theorem Cx {w : World} {b : Nat} (h : w.heap[b]? = some hole) : b < w.heap.size := (Array.getElem?_eq_some_iff.1 h).1
section
variable {t : L8} {w0 T : World} {hs : Nat} {n : Int} {v W : World} {x : RdX} {st : ScrS}
theorem ParV.next (hV : ParV t w0 T hs n v W x st) (hhs : w0.heap.size ≤ hs) (n' : Int) : ParV t w0 T hs n' (v.setCell ⟨hs + 2, 0, none⟩ (.int .i64 n')) (W.setCell ⟨hs + 2, 0, none⟩ (.int .i64 n')) x st := by
 obtain ⟨q1, q2⟩ := B3 hV.rA 0 (.int .i64 n')
 refine ⟨Ni hV.hides, hV.rP.upd q2 (by omega), hV.rS.upd q2 (by omega), by simpa [Row] using q1, hV.rE.upd q2 (by omega), hV.rR.upd q2 (by omega), ?_, hV.grew.then_own q2 fun k hk => by omega, fun b hb => ?_⟩
 rotate_left
 ·rw [← hV.same b hb]; have := Cx hb; simp only [World.setCell, Array.getElem?_modify]; rw [if_neg (by omega)]
 exact ⟨hV.rd.row.upd q2 (by omega), hV.rd.low, hV.rd.ops.upd q2 fun b hb e => Ax hV.rd.ops hV.rA (by decide) (e ▸ hb), hV.rd.steps.upd q2 fun b hb e => Ax hV.rd.steps hV.rA (by decide) (e ▸ hb)⟩
theorem B9 {q g : Nat} {T : TypeId} {cs : List Value} (h : RA v w0.heap.size q x st) (hr : Row v g T cs) (hg : g ≠ q) (h1 : 49 ≠ T) (h2 : 46 ≠ T) : ¬ x.Foot q g := by
 rintro (e | e | e)
 ·exact hg e
 ·exact Ax h.ops hr h1 e
 ·exact Ax h.steps hr h2 e
theorem ParV.line {v' W' : World} {x' : RdX} {st' : ScrS} (hV : ParV t w0 T hs n v W x st) (hk : Kept v W v' W') (hh : Ae v' W') (hu : Upd (x.Foot (hs + 4)) v v') (hrd : RA v' w0.heap.size (hs + 4) x' st') : ParV t w0 T hs n v' W' x' st' :=
  ⟨hh, hV.rP.upd hu (B9 hV.rd hV.rP (by omega) (by decide) (by decide)), hV.rS.upd hu (B9 hV.rd hV.rS (by omega) (by decide) (by decide)), hV.rA.upd hu (B9 hV.rd hV.rA (by omega) (by decide) (by decide)),
   hV.rE.upd hu (B9 hV.rd hV.rE (by omega) (by decide) (by decide)), hV.rR.upd hu (B9 hV.rd hV.rR (by omega) (by decide) (by decide)), hrd, hV.grew.then_own hu fun k hk => (hV.rd.foot hk).1, fun b hb => (hk.same b (hV.grew.heap hb)).trans (hV.same b hb)⟩
end
structure ParJ (t : L8) (w0 T : World) (hs l D b1 b2 b3 : Nat) (it : Value) (fn : FuncId) (i : Nat) (W : World) : Prop where
 see : ∃ (v : World) (x : RdX) (st : ScrS), ParV t w0 T hs i v W x st ∧ (v.heap[l]? = some hole ∧ v.heap[D]? = some hole ∧ v.heap[b1]? = some hole ∧ v.heap[b2]? = some hole ∧ v.heap[b3]? = some hole) ∧
  Ap 0 ⟨none, []⟩ (Ag 10 t) = Ap i st ((Ag 10 t).drop i) ∧ (Cf st.p).length ≤ i
 rec_ : W.heap[l]? = some (.loop (Dp t hs D it fn .ready))
 defs : W.heap[D]? = some (.deferred (some []))
def ParX (t : L8) (w0 T : World) (hs D : Nat) (ch : List PanicEntry) (W : World) : Prop :=
 ∃ (e : Int) (i : Nat) (v : World), ch = C8 (.iface tF (.agg #[.int .i64 e])) ∧ Ap 0 ⟨none, []⟩ (Ag 10 t) = .error (e, i) ∧ Ae v W ∧ W.heap[D]? = some (.deferred (some [])) ∧ v.heap[D]? = some hole ∧
  Row v hs 25 [.int .i64 0, .int .i64 0, .int .i64 0, .slice none 0 0, .int .i64 0, .int .i64 0, .int .i64 0, .int .i64 0] ∧ Row v (hs + 1) 26 [.slice none 0 0] ∧ Row v (hs + 2) 3 [.int .i64 (i : Int)] ∧ Row v (hs + 3) 27 [.int .i64 0] ∧ Grew w0 v ∧ ∀ b : Nat, w0.heap[b]? = some hole → W.heap[b]? = T.heap[b]?
abbrev ParR (t : L8) (w0 T : World) (hs l D b1 b2 b3 : Nat) (it : Value) (fn : FuncId) (i : Nat) (r : L8) (e : Ending) (W' : World) : Prop :=
 (e = .returned (.bool true) ∧ ParJ t w0 T hs l D b1 b2 b3 it fn (i + 1) W' ∧ SBox W' b1 b2 b3 r) ∨ ∃ ch, e = .panicked ch ∧ ParX t w0 T hs D ch W'
theorem Mb {t : L8} {w0 T : World} {hs l D b1 b2 b3 : Nat} {it : Value} {fn : FuncId} {i : Nat} {r : L8} {v1 W1 : World} {x' : RdX} {st' : ScrS} {a : Act} (hl0 : w0.heap.size ≤ l)
  (hV : ParV t w0 T hs ((i + 1 : Nat) : Int) v1 W1 x' st') (hH : v1.heap[l]? = some hole ∧ v1.heap[D]? = some hole ∧ v1.heap[b1]? = some hole ∧ v1.heap[b2]? = some hole ∧ v1.heap[b3]? = some hole)
  (hgo : Ap 0 ⟨none, []⟩ (Ag 10 t) = Ap (i + 1) st' ((Ag 10 t).drop (i + 1))) (hfew : (Cf st'.p).length ≤ i + 1)
  (hL : W1.heap[l]? = some (.loop { Dp t hs D it fn .ready with state := .busy })) (hD : W1.heap[D]? = some (.deferred (some []))) (hb : SBox W1 b1 b2 b3 r) :
  D1 Tryz.prog l (ParR t w0 T hs l D b1 b2 b3 it fn i r) .normal a W1 := by
 have ne : ∀ {k : Nat} {o : Obj}, W1.heap[k]? = some o → (∀ L, o ≠ .loop L) → k ≠ l := fun hk ho e => by
  subst e; rw [hk] at hL; exact ho _ (Option.some.inj hL)
 have hlt : l < W1.heap.size := (Array.getElem?_eq_some_iff.1 hL).1
 have kp : ∀ {k : Nat} {o o' : Obj}, W1.heap[k]? = some o → (∀ L, o ≠ .loop L) → (W1.putObj l o').heap[k]? = some o := fun hk ho => (World.putObj_heap_other (ne hk ho)).trans hk
 exact ⟨_, _, run_endRound none hL, .inl ⟨rfl, ⟨⟨v1, x', st', { hV with hides := D2 hV.hides hH.1, same := fun b hb => (World.putObj_heap_other (fun e => by have := Cx hb; omega)).trans (hV.same b hb) }, hH, hgo, hfew⟩, World.putObj_heap_same hlt, kp hD (fun _ h => by cases h)⟩,
  kp hb.1 (fun _ h => by cases h), kp hb.2.1 (fun _ h => by cases h), kp hb.2.2 (fun _ h => by cases h)⟩⟩
theorem Pv {t : L8} {w0 T : World} {hs l D b1 b2 b3 : Nat} {it : Value} {fn : FuncId} {i : Nat} {x r : L8} {v1 W1 : World} {xr : RdX} {st : ScrS} (hG : Glob w0) (hl0 : w0.heap.size ≤ l) (htl : t.length ≤ 262144)
  (hV : ParV t w0 T hs ((i + 1 : Nat) : Int) v1 W1 xr st) (hH : v1.heap[l]? = some hole ∧ v1.heap[D]? = some hole ∧ v1.heap[b1]? = some hole ∧ v1.heap[b2]? = some hole ∧ v1.heap[b3]? = some hole)
  (hgo : Ap 0 ⟨none, []⟩ (Ag 10 t) = Ap i st ((Ag 10 t).drop i)) (hfew : (Cf st.p).length ≤ i) (hx : (Ag 10 t)[i]? = some x) (hsk : Dh x = false)
  (hL : W1.heap[l]? = some (.loop { Dp t hs D it fn .ready with state := .busy })) (hD : W1.heap[D]? = some (.deferred (some []))) (hb : SBox W1 b1 b2 b3 r) :
  Calls Tryz.prog 20 #[.pointer (some ⟨hs + 4, 0, none⟩), .string (bs x)] W1 fun e W' => (e = .returned (.tuple #[]) ∧ ∀ a, D1 Tryz.prog l (ParR t w0 T hs l D b1 b2 b3 it fn i r) .normal a W') ∨
   ∃ ch, e = .panicked ch ∧ ∀ a : Act, a.defers = [] → D1 Tryz.prog l (ParR t w0 T hs l D b1 b2 b3 it fn i r) (.panic ch) a W' := by
 have hE : Go.Sx.Enters Tryz.prog 20 := ⟨_, Tryz.func20, by kernel_rfl, by kernel_rfl⟩
 have hxl : x.length ≤ 262144 := Nat.le_trans (G0 10 t x (List.mem_of_getElem? hx)) htl
 have hil : i < 262145 := by
  have h1 := (List.getElem?_eq_some_iff.1 hx).1
  have h2 := List.count_le_length (l := t) (a := (10 : UInt8))
  rw [Ce] at h1; omega
 have hgoc := Gp (j := i) (st := st) hx
 rw [if_neg (by rw [hsk]; simp), ← hgo] at hgoc
 refine ((Pt hG hV.grew hV.rd (by omega) (by omega)).callsAt hE hV.hides).mono ?_
 rintro e W' ⟨v', hh, hk, hr⟩
 obtain ⟨h1, h2, h3, h4, h5⟩ := hH
 cases hl : Cj st x with
 | ok st' =>
  rw [hl] at hr hgoc
  obtain ⟨_, rfl, rfl, x', hrd, hu, -⟩ := hr
  exact .inl ⟨rfl, fun a => Mb hl0 (hV.line hk hh hu hrd) ⟨hk.hid _ h1, hk.hid _ h2, hk.hid _ h3, hk.hid _ h4, hk.hid _ h5⟩ hgoc (by have := Nj hl; omega) ((hk.same _ h1).trans hL) ((hk.same _ h2).trans hD) ⟨(hk.same _ h3).trans hb.1, (hk.same _ h4).trans hb.2.1, (hk.same _ h5).trans hb.2.2⟩⟩
 | error c =>
  rw [hl] at hr hgoc
  obtain ⟨rfl, hu⟩ := hr
  exact .inr ⟨_, rfl, fun a ha => ⟨ha, .inr ⟨_, rfl, c, i + 1, v', rfl, hgoc, hh, (hk.same _ h2).trans hD, hk.hid _ h2, hV.rP.upd hu (B9 hV.rd hV.rP (by omega) (by decide) (by decide)), hV.rS.upd hu (B9 hV.rd hV.rS (by omega) (by decide) (by decide)),
   hV.rA.upd hu (B9 hV.rd hV.rA (by omega) (by decide) (by decide)), hV.rE.upd hu (B9 hV.rd hV.rE (by omega) (by decide) (by decide)), hV.grew.then_own hu fun k hk => (hV.rd.foot hk).1, fun b hb => (hk.same b (hV.grew.heap hb)).trans (hV.same b hb)⟩⟩⟩
set_option maxRecDepth 100000 in
set_option maxHeartbeats 2000000 in
theorem Ow (m : Nat) {t : L8} {w0 T : World} {hs l D b1 b2 b3 : Nat} {it : Value} {fn : FuncId} {fnc : Func} (hG : Glob w0) (hhs : w0.heap.size ≤ hs) (hl0 : w0.heap.size ≤ l) (htl : t.length ≤ 262144) (hfn : Tryz.prog.funcs[fn]? = some fnc) {i : Nat} {x r : L8} {W : World}
  (hJ : ParJ t w0 T hs l D b1 b2 b3 it fn i W) (hx : (Ag 10 t)[i]? = some x) (hb : SBox W b1 b2 b3 r) :
  YieldAt Fence.wide m Tryz.prog l #[.string (bs x)] W fun e W' => (e = .returned (.bool true) ∧ ParJ t w0 T hs l D b1 b2 b3 it fn (i + 1) W' ∧ SBox W' b1 b2 b3 r) ∨ ∃ ch, e = .panicked ch ∧ ParX t w0 T hs D ch W' := by
 obtain ⟨v, xr, st, hV, ⟨hl, hD, h1, h2, h3⟩, hgo, hfew⟩ := hJ.see
 refine ⟨fn, (Hm t hs it (.string (bs x))).toArray, G2, Kg, by simpa [Dp, Hm] using run_yield (P := Tryz.prog) (args := #[.string (bs x)]) hJ.rec_ rfl, L6 hfn ?_⟩
 have hbr := run_beginRound (P := Tryz.prog) hJ.rec_ rfl
 obtain ⟨W2, hW2⟩ : ∃ W2, W.putObj l (.loop { Dp t hs D it fn .ready with state := .busy }) = W2 := ⟨_, rfl⟩
 rw [hW2] at hbr
 have hv2 : Ae v W2 := hW2 ▸ D2 hV.hides hl
 obtain ⟨hcA, hfA⟩ := Bg (hv2.at hV.rA (by simp [hole]))
 obtain ⟨hcR, hfR⟩ := Bg (hv2.at hV.rR (by simp [hole]))
 have hlt : l < W.heap.size := (Array.getElem?_eq_some_iff.1 hJ.rec_).1
 have hil : i < 262145 := by
  have h1 := (List.getElem?_eq_some_iff.1 hx).1
  have h2 := List.count_le_length (l := t) (a := (10 : UInt8))
  rw [Ce] at h1; omega
 have hw1 : wrap64 ((i : Int) + 1) = ((i + 1 : Nat) : Int) := by unfold wrap64; omega
 have kp : ∀ {k : Nat} {o : Obj}, W.heap[k]? = some o → (∀ L, o ≠ .loop L) → W2.heap[k]? = some o := fun hk ho => by
  rw [← hW2]; exact (World.putObj_heap_other (fun e => by have h := hJ.rec_; rw [← e, hk] at h; exact ho _ (Option.some.inj h))).trans hk
 have hL2 : W2.heap[l]? = some (.loop { Dp t hs D it fn .ready with state := .busy }) := by rw [← hW2]; exact World.putObj_heap_same hlt
 have hD2 : W2.heap[D]? = some (.deferred (some [])) := kp hJ.defs (fun _ h => by cases h)
 have hb2 : SBox W2 b1 b2 b3 r := ⟨kp hb.1 (fun _ h => by cases h), kp hb.2.1 (fun _ h => by cases h), kp hb.2.2 (fun _ h => by cases h)⟩
 have hV3 : ParV t w0 T hs ((i + 1 : Nat) : Int) _ _ xr st := { hV with hides := hv2, same := fun b hb => by rw [← hW2]; exact (World.putObj_heap_other (fun e => by have := Cx hb; omega)).trans (hV.same b hb) : ParV t w0 T hs i v W2 xr st }.next hhs ((i + 1 : Nat) : Int)
 have hH3 : (v.setCell ⟨hs + 2, 0, none⟩ (.int .i64 ((i + 1 : Nat) : Int))).heap[l]? = some hole ∧ (v.setCell ⟨hs + 2, 0, none⟩ (.int .i64 ((i + 1 : Nat) : Int))).heap[D]? = some hole ∧ (v.setCell ⟨hs + 2, 0, none⟩ (.int .i64 ((i + 1 : Nat) : Int))).heap[b1]? = some hole ∧
   (v.setCell ⟨hs + 2, 0, none⟩ (.int .i64 ((i + 1 : Nat) : Int))).heap[b2]? = some hole ∧ (v.setCell ⟨hs + 2, 0, none⟩ (.int .i64 ((i + 1 : Nat) : Int))).heap[b3]? = some hole := ⟨D3 hl, D3 hD, D3 h1, D3 h2, D3 h3⟩
 obtain ⟨W3, hW3⟩ : ∃ W3, W2.setCell ⟨hs + 2, 0, none⟩ (.int .i64 ((i + 1 : Nat) : Int)) = W3 := ⟨_, rfl⟩
 have hrA2 := hv2.at hV.rA (by simp [hole])
 have ks : ∀ {k : Nat} {o : Obj}, W2.heap[k]? = some o → k ≠ hs + 2 → W3.heap[k]? = some o := fun hk hn => by rw [← hW3]; exact (B3 hrA2 0 _).2.heap hn hk
 have nh : ∀ {k : Nat}, v.heap[k]? = some hole → k ≠ hs + 2 := fun hk e => by subst e; exact hV.rA.seen hk
 have hL3 := ks hL2 (nh hl)
 have hD3 := ks hD2 (nh hD)
 have hb3 : SBox W3 b1 b2 b3 r := ⟨ks hb2.1 (nh h1), ks hb2.2.1 (nh h2), ks hb2.2.2 (nh h3)⟩
 rw [hW3] at hV3
 have hgoc := Gp (j := i) (st := st) hx
 unfold G2 Hm
 gi_wp2_with ((rw [Oper.semAt_eq _ _ _ (fun c h => by cases h)]; go_simp; try go_bits))
 unfold Kg
 rcases x with _ | ⟨c0, x0⟩
 ·have he0 : (bs []).toList.isEmpty = true := by rw [Lib.toList_data, A8]; rfl
  gi_wp2_with ((rw [Oper.semAt_eq _ _ _ (fun c h => by cases h)]; go_simp; try go_bits))
  rw [show ((i : Int) + 1) = ((i + 1 : Nat) : Int) from rfl, hW3]
  rw [if_pos (show Dh _ = true from rfl), ← hgo] at hgoc
  exact Mb hl0 hV3 hH3 hgoc (by omega) hL3 hD3 hb3
 ·have he1 : (bs (c0 :: x0)).toList.isEmpty = false := by rw [Lib.toList_data, A8]; rfl
  by_cases h35 : c0 = 35
  ·subst h35
   have hg0 : ∀ h, (bs (35 :: x0))[0]'h = 35 := fun h => rfl
   gi_wp2_with ((rw [Oper.semAt_eq _ _ _ (fun c h => by cases h)]; go_simp; try go_bits))
   rw [show ((i : Int) + 1) = ((i + 1 : Nat) : Int) from rfl, hW3]
   rw [if_pos (show Dh _ = true from rfl), ← hgo] at hgoc
   exact Mb hl0 hV3 hH3 hgoc (by omega) hL3 hD3 hb3
  ·have hg0 : ∀ h, (bs (c0 :: x0))[0]'h = c0 := fun h => rfl
   have h35' : ((c0.toNat : Int) != 35) = true := by
    rw [bne_iff_ne]; intro e; exact h35 (UInt8.toNat_inj.1 (by show c0.toNat = 35; omega))
   gi_wp2_with ((rw [Oper.semAt_eq _ _ _ (fun c h => by cases h)]; go_simp; try go_bits))
   have hsk : Dh (c0 :: x0) = false := by
    show (c0 == 35) = false
    rw [beq_eq_false_iff_ne]; exact h35
   rw [show ((i : Int) + 1) = ((i + 1 : Nat) : Int) from rfl, hW3]
   refine ⟨trivial, fun h => (by cases h), CallsIn.mono (F := Fence.wide.inRound l) (show CallsIn Fence.wide (m - 1) Tryz.prog _ _ _ _ from callsIn_wide.2 (Pv hG hl0 htl hV3 hH3 hgo hfew hx hsk hL3 hD3 hb3)) ?_⟩
   rintro e W' (⟨rfl, hr⟩ | ⟨ch, rfl, hp⟩)
   ·gi_wp2_with ((rw [Oper.semAt_eq _ _ _ (fun c h => by cases h)]; go_simp; try go_bits))
    exact hr _
   ·exact hp _ rfl
end Go.Proofs.YtbmmaibbiahkkaaGreatDoor
