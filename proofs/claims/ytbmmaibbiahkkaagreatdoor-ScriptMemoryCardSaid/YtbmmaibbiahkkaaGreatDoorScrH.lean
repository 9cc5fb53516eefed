/- A script's line read. Conditions: none. -/
import Derived.Test.YtbmmaibbiahkkaaGreatDoorProg
import Derived.Test.YtbmmaibbiahkkaaGreatDoorScrG
import Derived.Test.YtbmmaibbiahkkaaGreatDoorSxSh
namespace Go.Proofs.YtbmmaibbiahkkaaGreatDoor
open Go.Sx
set_option maxRecDepth 100000
set_option linter.unusedVariables false
set_option linter.unusedSimpArgs false
def sx20 (d : Nat) (i : ByteArray) (R : Ending → World → Prop) (w : World) : Prop :=
  Aa Tryz.prog 41 [.string i, .string (ByteArray.mk (#[32]) : ByteArray)] w (RetR R fun u2 w1 => ∃ a3 l3 c3, u2 = .slice a3 l3 c3 ∧ Ac a3 (fun d5 => (0 ≤ (0 : Int) ∧ (0 : Int) < (l3 : Nat)) ∧ ∃ s6, w1.cell? d5 = some (.string s6) ∧ (0 ≤ (1 : Int) ∧ (1 : Int) ≤ (l3 : Nat)) ∧ ∃ b7, w1.cell? ⟨d, 9, none⟩ = some (.bool b7) ∧ ifB (!b7) (∃ b8, Am Tryz.prog (eqS .eql 9 (.tmp 41) (.const (.string (ByteArray.mk (#[112, 108, 97, 110]) : ByteArray))) (.string s6) (.string (ByteArray.mk (#[112, 108, 97, 110]) : ByteArray))) (.bool b8) ∧ Aa Tryz.prog 21 [.bool b8, .int .i64 210] w1 (RetR R fun u10 w9 => u10 = .tuple #[] ∧ Aa Tryz.prog 21 [.bool (((l3 - (1 : Int).toNat : Nat) : Int) == 7), .int .i64 211] w9 (RetR R fun u13 w12 => u13 = .tuple #[] ∧ An w12 ⟨d, 9, none⟩ 0 [.bool true] ∧ ∀ w15, w15 = setCells w12 ⟨d, 9, none⟩ 0 [.bool true] → ∀ w16, Grew w15 w16 → ∀ b17 w18, Ar w16 w18 b17 (.cells #[.pointer (some ⟨d, 0, none⟩), .pointer (some ⟨d, 1, none⟩), .pointer (some ⟨d, 2, none⟩), .pointer (some ⟨d, 4, none⟩), .pointer (some ⟨d, 5, none⟩), .pointer (some ⟨d, 6, none⟩), .pointer (some ⟨d, 7, none⟩)] 92) → Bb w16 w18 [] ∧ ∃ (I19 : Int → World → Prop) (m19 : Int → World → Nat), I19 0 w18 ∧ ∀ n20 w21, I19 n20 w21 → ifB (decide (n20 < ((7 : Nat) : Int))) ((0 ≤ n20 ∧ n20 < (7 : Nat)) ∧ ∃ p22, w21.cell? (Addr.add (⟨b17, 0, none⟩ : Addr) (n20.toNat * 1)) = some (.pointer p22) ∧ Ac (if c3 = (1 : Int).toNat then a3 else Option.map (fun x => Addr.add x ((1 : Int).toNat * 1)) a3) (fun d23 => (0 ≤ n20 ∧ n20 < (l3 - (1 : Int).toNat : Nat)) ∧ ∃ s24, w21.cell? (Addr.add d23 (n20.toNat * 1)) = some (.string s24) ∧ Aa Tryz.prog 42 [.string s24] w21 (RetR R fun u26 w25 => ∃ n27, u26 = .int .i64 n27 ∧ Ac p22 (fun d29 => An w25 d29 0 [.int .i64 n27] ∧ ∀ w30, w30 = setCells w25 d29 0 [.int .i64 n27] → (I19 (IntKind.i64.wrap (n20 + 1)) w30 ∧ m19 (IntKind.i64.wrap (n20 + 1)) w30 < m19 n20 w21))))) (R (.returned (.tuple #[])) w21)))) (∃ J31 : Bool → World → Prop, (∃ b32, Am Tryz.prog (eqS .eql 9 (.tmp 91) (.const (.string (ByteArray.mk (#[111, 112]) : ByteArray))) (.string s6) (.string (ByteArray.mk (#[111, 112]) : ByteArray))) (.bool b32) ∧ ifB b32 (∃ a33 l33 c33, w1.cell? ⟨d, 8, none⟩ = some (.slice a33 l33 c33) ∧ J31 (((l33 : Nat) : Int) == 0) w1) (J31 false w1)) ∧ ∀ b34 w35, J31 b34 w35 → ifB b34 (Aa Tryz.prog 21 [.bool (((l3 - (1 : Int).toNat : Nat) : Int) == 3), .int .i64 211] w35 (RetR R fun u37 w36 => u37 = .tuple #[] ∧ ∀ w39, Grew w36 w39 → ∃ a40 l40 c40, w39.cell? ⟨d, 3, none⟩ = some (.slice a40 l40 c40) ∧ Ac (if c3 = (1 : Int).toNat then a3 else Option.map (fun x => Addr.add x ((1 : Int).toNat * 1)) a3) (fun d41 => (0 ≤ (0 : Int) ∧ (0 : Int) < (l3 - (1 : Int).toNat : Nat)) ∧ ∃ s42, w39.cell? d41 = some (.string s42) ∧ Ac (if c3 = (1 : Int).toNat then a3 else Option.map (fun x => Addr.add x ((1 : Int).toNat * 1)) a3) (fun d43 => (0 ≤ (1 : Int) ∧ (1 : Int) < (l3 - (1 : Int).toNat : Nat)) ∧ ∃ s44, w39.cell?
 (Addr.add d43 1) = some (.string s44) ∧ Ac (if c3 = (1 : Int).toNat then a3 else Option.map (fun x => Addr.add x ((1 : Int).toNat * 1)) a3) (fun d45 => (0 ≤ (2 : Int) ∧ (2 : Int) < (l3 - (1 : Int).toNat : Nat)) ∧ ∃ s46, w39.cell? (Addr.add d45 2) = some (.string s46) ∧ Aa Tryz.prog 42 [.string s42] w39 (RetR R fun u48 w47 => ∃ n49, u48 = .int .i64 n49 ∧ Bb w39 w47 [(Addr.add d45 2), (Addr.add d43 1), d41, ⟨d, 3, none⟩] ∧ Aa Tryz.prog 42 [.string s44] w47 (RetR R fun u52 w51 => ∃ n53, u52 = .int .i64 n53 ∧ Bb w47 w51 [(Addr.add d45 2), (Addr.add d43 1), d41, ⟨d, 3, none⟩] ∧ Aa Tryz.prog 43 [.string s46] w51 (RetR R fun u56 w55 => ∃ x57, u56 = .float .f64 x57 ∧ Bb w51 w55 [(Addr.add d45 2), (Addr.add d43 1), d41, ⟨d, 3, none⟩] ∧ ∀ b59 w60, Ar w55 w60 b59 (.cells #[.int .i64 n49, .int .i64 n53, .float .f64 x57] 49) → Bb w55 w60 [(Addr.add d45 2), (Addr.add d43 1), d41, ⟨d, 3, none⟩] ∧ SemW Tryz.prog (Builtin.append_ #[23, 23] 23 #[.slice a40 l40 c40, .slice (some ⟨b59, 0, none⟩) 1 1]) (fun u62 w61 => ∃ a63 l63 c63, u62 = .slice a63 l63 c63 ∧ An w61 ⟨d, 3, none⟩ 0 [.slice a63 l63 c63] ∧ ∀ w64, w64 = setCells w61 ⟨d, 3, none⟩ 0 [.slice a63 l63 c63] → R (.returned (.tuple #[])) w64) w60)))))))) (∃ a65 l65 c65, w35.cell? ⟨d, 8, none⟩ = some (.slice a65 l65 c65) ∧ Aa Tryz.prog 21 [.bool (decide (((l65 : Nat) : Int) < 4096)), .int .i64 212] w35 (RetR R fun u67 w66 => u67 = .tuple #[] ∧ ∀ w69, Grew w66 w69 → ∃ a70 l70 c70, w69.cell? ⟨d, 8, none⟩ = some (.slice a70 l70 c70) ∧ Aa Tryz.prog 44 [.string s6, .slice (if c3 = (1 : Int).toNat then a3 else Option.map (fun x => Addr.add x ((1 : Int).toNat * 1)) a3) (l3 - (1 : Int).toNat) (c3 - (1 : Int).toNat)] w69 (RetR R fun u72 w71 => ∃ n73 n74 n75 n76 x77, u72 = .agg #[.int .i64 n73, .int .i64 n74, .int .i64 n75, .int .u64 n76, .float .f64 x77] ∧ Bb w69 w71 [⟨d, 8, none⟩] ∧ ∀ b79 w80, Ar w71 w80 b79 (.cells #[.int .i64 n73, .int .i64 n74, .int .i64 n75, .int .u64 n76, .float .f64 x77] 46) → Bb w71 w80 [⟨d, 8, none⟩] ∧ SemW Tryz.prog (Builtin.append_ #[26, 26] 26 #[.slice a70 l70 c70, .slice (some ⟨b79, 0, none⟩) 1 1]) (fun u82 w81 => ∃ a83 l83 c83, u82 = .slice a83 l83 c83 ∧ An w81 ⟨d, 8, none⟩ 0 [.slice a83 l83 c83] ∧ ∀ w84, w84 = setCells w81 ⟨d, 8, none⟩ 0 [.slice a83 l83 c83] → R (.returned (.tuple #[])) w84) w80))))))
theorem sx20.ok {d : Nat} {i : ByteArray} {R : Ending → World → Prop} {w : World} (h : sx20 d i R w) : Aa Tryz.prog 20 [.pointer (some ⟨d, 0, none⟩), .string i] w R :=
 okOf { pureTo := [42, 92], sem := [32, 125], draws := [(4, { order := (ol [0,1,2,3,4,5,6,7,8,9,10,11,12] .nil), bars := [9, 12] }), (10, { order := (ol [0,1,2,3,4,5,6,7,8,9,10,11,12,13,14,15,16,17,18,19,20,23,21,22] .nil), bars := [] }), (17, { order := (ol [0,1,2,3,4,5,6,7,8,10,11,12,14,15,16,9,13,17,18,19,20,21,22,23,24] .nil), bars := [20, 24] })], loops := [(11, { slots := [(77, .int .i64)], cells := [] })], cuts := [(16, { slots := [(90, .bool)], cells := [] })] } mix Tryz.func20 (by kernel_rfl) (by kernel_rfl) (by kernel_rfl) h
abbrev RA := RdAt 55 49 46
abbrev RG := RdG 55 49 46
abbrev RM := RdM 55 49 46
theorem Mt : C4 Tryz.prog 23 49 Enc.op3.sz 24 := C4.mk' (z := .agg #[.int .i64 0, .int .i64 0, .float .f64 0]) (by kernel_rfl) (by kernel_rfl) (by kernel_rfl)
theorem Mu : C4 Tryz.prog 26 46 Enc.stepE.sz 40 := C4.mk' (z := .agg #[.int .i64 0, .int .i64 0, .int .i64 0, .int .u64 0, .float .f64 0]) (by kernel_rfl) (by kernel_rfl) (by kernel_rfl)
def Qq (args : List L8) (w : World) (B q : Nat) (x : RdX) (steps : List Af) (b17 : Nat) (ps : List Value) (w0 : World) (n : Int) (w' : World) : Prop :=
 ∃ (j : Nat) (ns : List Int), n = j ∧ j ≤ 7 ∧ ns.length = 7 ∧ (∀ i a v, i < j → args[i]? = some a → ns[i]? = some v → numL a = some v) ∧ RG w' B q x ns true [] steps ∧ (∀ k, k < 7 → w'.cell? ⟨b17, k, none⟩ = ps[k]?) ∧ Upd (x.Foot q) w w' ∧ Upd (fun k => k = q) w0 w'
def P7 (q : Nat) : List Value := [.pointer (some ⟨q, 0, none⟩), .pointer (some ⟨q, 1, none⟩), .pointer (some ⟨q, 2, none⟩), .pointer (some ⟨q, 4, none⟩), .pointer (some ⟨q, 5, none⟩), .pointer (some ⟨q, 6, none⟩), .pointer (some ⟨q, 7, none⟩)]
theorem Qr {q j : Nat} (h : j < 7) : (P7 q)[j]? = some (.pointer (some ⟨q, ix7 j, none⟩)) := by
 have : j = 0 ∨ j = 1 ∨ j = 2 ∨ j = 3 ∨ j = 4 ∨ j = 5 ∨ j = 6 := by omega
 rcases this with rfl | rfl | rfl | rfl | rfl | rfl | rfl <;> rfl
theorem Pt {w0 w : World} {q : Nat} {x : RdX} {st : ScrS} {l : L8} (hG : Glob w0) (hg0 : Grew w0 w) (h : RA w w0.heap.size q x st) (hl : l.length ≤ 1000000) (ho : (Cf st.p).length ≤ 1000000) :
  Aa Tryz.prog 20 [.pointer (some ⟨q, 0, none⟩), .string (bs l)] w (OrG (Cj st l) (fun st' v w' => v = .tuple #[] ∧ RM w w0.heap.size q x st' w') (Upd (x.Foot q) w)) := by
 refine sx20.ok ?_
 unfold sx20
 refine (Oj (c := 32) (by omega)).use fun v w1 ⟨a, hv, hown, hg1⟩ => ?_
 subst hv
 obtain ⟨word, args, hsp⟩ : ∃ word args, Ag 32 l = word :: args := by
  cases hs : Ag 32 l with
  | nil => exact (M6 32 l hs).elim
  | cons x r => exact ⟨x, r, rfl⟩
 have hle : ∀ y ∈ word :: args, y.length ≤ 281474976710656 := fun y hy => by
  have := G0 32 l y (by rw [hsp]; exact hy); omega
 rw [hsp] at hown
 rw [hsp]
 have hr := hown.reads
 have hlen : (word :: args).length = args.length + 1 := rfl
 have hG1 := hG.grew (hg0.trans hg1)
 have h1 := h.grew hg1
 obtain ⟨d, y, hd, hy, hc⟩ := hr.at0 (k := 0) (by rw [hlen]; omega)
 cases hd; cases hy
 have hc0 : w1.cell? a = some (.string (bs word)) := by simpa [Enc.text, Ah, Addr.add] using hc
 obtain ⟨A, eA, hA⟩ : ∃ A, (if (word :: args).length = (1 : Int).toNat then some a else Option.map (fun x => Addr.add x ((1 : Int).toNat * 1)) (some a)) = A ∧ Reads w1 Enc.text (A, args.length, args.length) args :=
  ⟨_, rfl, hr.from (i := 1) (by rw [hlen]; omega)⟩
 obtain ⟨e3, e8, e9, el, s9, s3, s8⟩ := Im (Io st.p) x st.p.isSome
 have hb : w1.cell? ⟨q, 9, none⟩ = some (.bool st.p.isSome) := by rw [h1.row.cell, e9]
 refine ⟨_, _, _, rfl, ?_⟩
 rw [Ac]
 refine ⟨⟨by omega, by rw [hlen]; omega⟩, _, hc0, ⟨by omega, by rw [hlen]; omega⟩, _, hb, ?_⟩
 rw [eA, hlen, show args.length + 1 - (1 : Int).toNat = args.length from by simp]
 refine ⟨fun hnb => ?_, fun hbe => ?_⟩
 ·have hp : st.p = none := by simpa using hnb
  have hL : Cj st l = if word = Cp then (match E3 args with | some p => .ok { st with p := some p } | none => .error 211) else .error 210 := by
   unfold Cj; rw [hsp]; simp only [hp]; rfl
  refine ⟨_, Ha (b := Cp), A9.useF (fun _ v w9 hok ⟨hv, hw⟩ => ?_) (fun c w9 hok hw => ?_)⟩
  rotate_left
  ·subst hw
   by_cases e : word = Cp
   ·rw [decide_eq_true e] at hok; cases hok
   ·rw [decide_eq_false e] at hok; cases hok
    rw [hL, if_neg e]; exact ⟨rfl, hg1.upd⟩
  subst hv; subst hw
  have hwp : word = Cp := by
   by_cases e : word = Cp
   ·exact e
   ·rw [decide_eq_false e] at hok; cases hok
  rw [if_pos hwp] at hL
  refine ⟨rfl, A9.useF (fun _ v w12 hok7 ⟨hv, hw⟩ => ?_) (fun c w12 hok7 hw => ?_)⟩
  rotate_left
  ·subst hw
   by_cases e : args.length = 7
   ·rw [e] at hok7; cases hok7
   ·have : ((args.length : Int) == 7) = false := by rw [beq_eq_false_iff_ne]; omega
    rw [this] at hok7; cases hok7
    rw [hL, Nc e]; exact ⟨rfl, hg1.upd⟩
  subst hv; subst hw
  have h7 : args.length = 7 := by
   by_cases e : args.length = 7
   ·exact e
   ·have : ((args.length : Int) == 7) = false := by rw [beq_eq_false_iff_ne]; omega
    rw [this] at hok7; cases hok7
  obtain ⟨r1, r2, r3⟩ := h1.row.set1 (o := 9) (by rw [el]; omega) (.bool true)
  rw [s9] at r2
  refine ⟨rfl, r1, ?_⟩
  rintro w15 rfl w16 hg16 b17 w18 hal
  refine ⟨trivial, Qq args w w0.heap.size q x st.steps b17 (P7 q) w18, fun n _ => 7 - n.toNat, ?_, ?_⟩
  all_goals have hu15 := hg1.then_upd (r3.mono (S' := x.Foot q) fun k _ hk => .inl hk)
  all_goals have hg18 := hg16.trans hal.grew
  ·have e0 : Eg st.p = [0, 0, 0, 0, 0, 0, 0] := by rw [hp]; rfl
   have eo : Cf st.p = [] := by rw [hp]; rfl
   rw [e0] at r2
   have hops : Own (setCells w12 ⟨q, 9, none⟩ 0 [.bool true]) w0.heap.size 49 Enc.op3 x.o.1 x.o.2.1 x.o.2.2 [] := by
    have := h1.ops.upd r3 fun k hk e => Ax h1.ops h1.row (by decide) (e ▸ hk)
    rw [eo] at this; exact this
   have hst := h1.steps.upd r3 fun k hk e => Ax h1.steps h1.row (by decide) (e ▸ hk)
   exact ⟨0, _, rfl, by omega, rfl, fun i a v hi => (by omega), (RdG.mk r2 h1.low hops hst).grew hg18, fun k hk => cell_of_block hal.at_ ▸ rfl, hu15.then_grew hg18, Upd.refl _ _⟩
  rintro n20 w21 ⟨j, ns, rfl, hj, hns, hnum, hrd, hpc, hu, hu18⟩
  have hAb : ∀ b, Blk A b → w.heap.size ≤ b := fun b hb => by
   refine (hown.blk ?_).1
   rw [← eA] at hb
   split at hb
   ·exact hb
   ·obtain ⟨e, he, hb⟩ := hb; cases he; exact ⟨_, rfl, hb⟩
  have hql := h.row.lt
  have hA21 : Reads w21 Enc.text (A, args.length, args.length) args :=
   ((hA.upd r3 fun b hb e => by have := hAb b hb; omega).grew hg18).upd hu18 fun b hb e => by have := hAb b hb; omega
  have hg21 := hg0.then_own hu fun k hk => (h.foot hk).1
  refine ⟨fun hlt => ?_, fun hge => ?_⟩
  ·simp only [decide_eq_true_eq] at hlt
   have hj7 : j < 7 := by omega
   obtain ⟨d, y, hd, hy, hc⟩ := hA21.at0 (k := j) (by omega)
   have hc : w21.cell? (Addr.add d (((j : Nat) : Int).toNat * 1)) = some (.string (bs y)) := by simpa [Enc.text, Ah, Addr.add] using hc
   have hcell : w21.cell? (Addr.add (⟨b17, 0, none⟩ : Addr) (((j : Nat) : Int).toNat * 1)) = some (.pointer (some ⟨q, ix7 j, none⟩)) := by
    rw [Bj, Int.toNat_natCast, Nat.mul_one, Nat.zero_add, hpc j hj7, Qr hj7]
   refine ⟨⟨by omega, by omega⟩, _, hcell, ?_⟩
   rw [hd, Ac]
   refine ⟨⟨by omega, by omega⟩, _, hc, (Dz (hG.grew hg21) (hle y (List.mem_cons_of_mem _ (List.mem_of_getElem? hy)))).useF (fun z v w25 hok ⟨hv, hg25⟩ => ?_) (fun c w25 hok hg25 => ?_)⟩
   ·subst hv
    have hnl : numL y = some z := by cases hn : numL y <;> rw [hn] at hok <;> cases hok; rfl
    have hrd25 := hrd.grew hg25
    obtain ⟨e1, e2⟩ := Ld hns x true hj7 z
    obtain ⟨t1, t2, t3⟩ := hrd25.row.set1 (o := ix7 j) e2 (.int .i64 z)
    rw [e1] at t2
    refine ⟨_, rfl, ?_⟩
    rw [Ac]
    refine ⟨t1, ?_⟩
    rintro w30 rfl
    have ew := G1 j (by omega)
    rw [ew]
    have hbq : b17 ≠ q := fun e => by
     have := hal.new; have := hg16.size; have := r3.size; have := hg1.size; omega
    refine ⟨⟨j + 1, ns.set j z, rfl, by omega, by simpa using hns, fun i a v hi ha hv => ?_, ⟨t2, hrd25.low, hrd25.ops.upd t3 fun k hk e => Ax hrd25.ops hrd25.row (by decide) (e ▸ hk), hrd25.steps.upd t3 fun k hk e => Ax hrd25.steps hrd25.row (by decide) (e ▸ hk)⟩, fun k hk => ?_, (hu.then_grew hg25).trans (t3.mono fun k _ e => .inl e), (hu18.then_grew hg25).trans t3⟩, by show 7 - (((j + 1 : Nat) : Int)).toNat < 7 - ((j : Nat) : Int).toNat; omega⟩
    ·rw [List.getElem?_set] at hv
     split at hv
     ·rename_i e; subst e
      split at hv
      ·cases hv; rw [hy] at ha; cases ha; exact hnl
      ·cases hv
     ·exact hnum i a v (by omega) ha hv
    ·rw [← hpc k hk]
     have hlt17 : b17 < w21.heap.size := Nat.lt_of_lt_of_le hal.lt hu18.size
     have : (setCells w25 ⟨q, ix7 j, none⟩ 0 [Value.int .i64 z]).heap[b17]? = w21.heap[b17]? := by
      rw [t3.block b17 (Nat.lt_of_lt_of_le hlt17 hg25.size) hbq, hg25.block b17 hlt17]
     simp only [World.cell?, this]
   ·have hnl : numL y = none := by cases hn : numL y <;> rw [hn] at hok <;> cases hok
    have : c = 211 := by rw [hnl] at hok; cases hok; rfl
    subst this
    rw [hL, Nf h7 hy hnl]; exact ⟨rfl, hu.then_grew hg25⟩
  ·simp only [decide_eq_false_iff_not] at hge
   have : j = 7 := by omega
   subst this
   obtain ⟨p, hpl, hpn, hpo⟩ := L5 h7 hns fun i a v ha hv => hnum i a v (by have := (List.getElem?_eq_some_iff.1 ha).1; omega) ha hv
   rw [hL, hpl]
   refine ⟨_, rfl, rfl, x, ?_, hu, fun k hk => .inl hk⟩
   have hrd' := hrd
   rw [← hpn] at hrd'
   show RG w21 w0.heap.size q x (Eg (some p)) true p.ops st.steps
   rw [hpo]; exact hrd'
 ·obtain ⟨p, hp⟩ : ∃ p, st.p = some p := by
   cases hs : st.p with
   | none => rw [hs] at hbe; cases hbe
   | some p => exact ⟨p, rfl⟩
  have hL : Cj st l = if word = opW ∧ st.steps = [] then (match opL args with | some o => .ok { st with p := some { p with ops := p.ops ++ [o] } } | none => .error 211) else if 4096 ≤ st.steps.length then .error 212 else match Ft (word :: args) with | .error e => .error e | .ok s => .ok { st with steps := st.steps ++ [s] } := by
   unfold Cj; rw [hsp]; simp only [hp]; rfl
  have hops : Cf st.p = p.ops := by rw [hp]; rfl
  have hns : Eg st.p = Eg (some p) := by rw [hp]
  have hbg : st.p.isSome = true := by rw [hp]; rfl
  have hsl : x.s.2.1 = st.steps.length := h1.steps.len
  have c8 : w1.cell? ⟨q, 8, none⟩ = some (.slice x.s.1 x.s.2.1 x.s.2.2) := by rw [h1.row.cell, e8]
  have c3 : w1.cell? ⟨q, 3, none⟩ = some (.slice x.o.1 x.o.2.1 x.o.2.2) := by rw [h1.row.cell, e3]
  have hql1 := h1.row.lt
  refine ⟨fun b w' => w' = w1 ∧ b = decide (word = opW ∧ st.steps = []), ⟨_, Ha (b := opW), fun he => ⟨_, _, _, c8, rfl, ?_⟩, fun he => ⟨rfl, ?_⟩⟩, ?_⟩
  ·simp only [decide_eq_true_eq] at he
   rw [Bool.eq_iff_iff, beq_iff_eq, decide_eq_true_eq, hsl]
   constructor
   ·intro e; exact ⟨he, List.eq_nil_of_length_eq_zero (by omega)⟩
   ·rintro ⟨-, e⟩; rw [e]; rfl
  ·simp only [decide_eq_false_iff_not] at he
   symm; rw [decide_eq_false_iff_not]; exact fun e => he e.1
  rintro b34 w35 ⟨hw, rfl⟩
  subst hw
  refine ⟨fun hop => ?_, fun hno => ?_⟩
  ·simp only [decide_eq_true_eq] at hop
   rw [if_pos hop] at hL
   refine A9.useF (fun _ v w36 hok ⟨hv, hw⟩ => ?_) (fun c w36 hok hw => ?_)
   rotate_left
   ·subst hw
    have hne : args.length ≠ 3 := fun e => by rw [e] at hok; cases hok
    have : ((args.length : Int) == 3) = false := by rw [beq_eq_false_iff_ne]; omega
    rw [this] at hok; cases hok
    have : opL args = none := by
     unfold opL; split
     ·simp at hne
     ·rfl
    rw [hL, this]; exact ⟨rfl, hg1.upd⟩
   subst hv
   have h3 : args.length = 3 := by
    by_cases e : args.length = 3
    ·exact e
    ·have : ((args.length : Int) == 3) = false := by rw [beq_eq_false_iff_ne]; omega
     rw [this] at hok; cases hok
   refine ⟨rfl, fun w39 hg39 => ?_⟩
   rw [hw] at hg39
   have hA39 := hA.grew hg39
   have hgw39 := hg1.trans hg39
   have h39 := h.grew hgw39
   obtain ⟨a0, a1, a2, rfl⟩ : ∃ a b c, args = [a, b, c] := by
    match args, h3 with
    | [a, b, c], _ => exact ⟨_, _, _, rfl⟩
   obtain ⟨d0, y0, hd0, hy0, hc0'⟩ := hA39.at0 (k := 0) (by simp)
   obtain ⟨d1, y1, hd1, hy1, hc1'⟩ := hA39.at0 (k := 1) (by simp)
   obtain ⟨d2, y2, hd2, hy2, hc2'⟩ := hA39.at0 (k := 2) (by simp)
   rw [hd0] at hd1 hd2; cases hd1; cases hd2
   cases hy0; cases hy1; cases hy2
   have k0 : w39.cell? d0 = some (.string (bs a0)) := by simpa [Enc.text, Ah, Addr.add] using hc0'
   have k1 : w39.cell? (Addr.add d0 1) = some (.string (bs a1)) := by simpa [Enc.text, Ah, Addr.add] using hc1'
   have k2 : w39.cell? (Addr.add d0 2) = some (.string (bs a2)) := by simpa [Enc.text, Ah, Addr.add] using hc2'
   have dlt : d0.block < w39.heap.size := World.block_lt_of_cell? _ _ k0
   have hG39 := hG.grew (hg0.trans hgw39)
   have sm : ∀ {y z : World}, Grew w39 y → Grew y z → Bb y z [Addr.add d0 2, Addr.add d0 1, d0, ⟨q, 3, none⟩] := fun h1' h2' =>
    ⟨h2'.block _ (Nat.lt_of_lt_of_le dlt h1'.size), h2'.block _ (Nat.lt_of_lt_of_le dlt h1'.size), h2'.block _ (Nat.lt_of_lt_of_le dlt h1'.size), h2'.block _ (Nat.lt_of_lt_of_le h39.row.lt h1'.size), trivial⟩
   have bad : ∀ {w' : World}, opL [a0, a1, a2] = none → Grew w w' → OrG (Cj st l) (fun st' v w' => v = .tuple #[] ∧ RM w w0.heap.size q x st' w') (Upd (x.Foot q) w) (.panicked (C8 (.iface tF (.agg #[.int .i64 211])))) w' := fun he hg => by
    rw [hL, he]; exact ⟨rfl, hg.upd⟩
   have l0 := hle a0 (by simp)
   have l1 := hle a1 (by simp)
   have l2 := hle a2 (by simp)
   refine ⟨_, _, _, hg39.cell c3, ?_⟩
   rw [hd0, Ac]
   refine ⟨by simp, _, k0, ?_⟩
   rw [Ac]
   refine ⟨by simp, _, k1, ?_⟩
   rw [Ac]
   refine ⟨by simp, _, k2, (Dz hG39 l0).useF (fun z0 v w47 hok ⟨hv, hg47⟩ => ?_) (fun c w47 hok hg47 => ?_)⟩
   rotate_left
   ·cases hn : numL a0 <;> rw [hn] at hok <;> cases hok
    exact bad (by simp only [opL, hn]) (hgw39.trans hg47)
   subst hv
   have n0 : numL a0 = some z0 := by cases hn : numL a0 <;> rw [hn] at hok <;> cases hok; rfl
   refine ⟨_, rfl, sm (Grew.refl _) hg47, (Dz (hG39.grew hg47) l1).useF (fun z1 v w51 hok ⟨hv, hg51⟩ => ?_) (fun c w51 hok hg51 => ?_)⟩
   rotate_left
   ·cases hn : numL a1 <;> rw [hn] at hok <;> cases hok
    exact bad (by simp only [opL, n0, hn]) (hgw39.trans (hg47.trans hg51))
   subst hv
   have n1 : numL a1 = some z1 := by cases hn : numL a1 <;> rw [hn] at hok <;> cases hok; rfl
   refine ⟨_, rfl, sm hg47 hg51, (Lb (hG39.grew (hg47.trans hg51)) l2).useF (fun z2 v w55 hok ⟨hv, hg55⟩ => ?_) (fun c w55 hok hg55 => ?_)⟩
   rotate_left
   ·cases hn : fltL a2 <;> rw [hn] at hok <;> cases hok
    exact bad (by simp only [opL, n0, n1, hn]) (hgw39.trans (hg47.trans (hg51.trans hg55)))
   subst hv
   have n2 : fltL a2 = some z2 := by cases hn : fltL a2 <;> rw [hn] at hok <;> cases hok; rfl
   have hopl : opL [a0, a1, a2] = some ⟨z0, z1, z2⟩ := by simp only [opL, n0, n1, n2]
   rw [hopl] at hL
   have hgw55 := hgw39.trans (hg47.trans (hg51.trans hg55))
   refine ⟨_, rfl, sm (hg47.trans hg51) hg55, fun b59 w60 hal => ⟨sm (hg47.trans (hg51.trans hg55)) hal.grew, ?_⟩⟩
   have h55 := h.grew hgw55
   have hcp := h55.ops.len
   refine Bz (l2 := [(⟨z0, z1, z2⟩ : OpV)]) Mt h55.ops hal rfl rfl (Nat.le_trans hg0.size hgw55.size) (by simp only [maxLen, List.length_singleton]; omega) (by simp only [List.length_singleton]; omega) ?_
   rintro v w61 ⟨a', n', c', rfl, ho', hu', hb'⟩
   have hr61 := h55.row.upd hu' fun hk => Ax h55.ops h55.row (by decide) hk
   have hs61 := h55.steps.upd hu' fun k hk e => Cn h55.ops h55.steps (by decide) k e hk
   obtain ⟨t1, t2, t3⟩ := hr61.set1 (o := 3) (by rw [el]; omega) (.slice a' n' c')
   have s3' := s3 (a', n', c')
   rw [s3'] at t2
   refine ⟨_, _, _, rfl, t1, ?_⟩
   rintro w64 rfl
   rw [hL]
   refine ⟨_, rfl, rfl, { x with o := (a', n', c') }, ⟨by rw [hns, hbg] at t2; exact t2, h55.low, ?_, ?_⟩, ?_, ?_⟩
   ·have := ho'.upd t3 fun k hk e => Ax ho' hr61 (by decide) (e ▸ hk)
    rw [hops] at this; exact this
   ·exact hs61.upd t3 fun k hk e => Ax hs61 hr61 (by decide) (e ▸ hk)
   ·exact hgw55.then_upd ((hu'.mono fun k _ hk => .inr (.inl hk)).trans (t3.mono fun k _ e => .inl e))
   ·rintro k (hk | hk | hk)
    ·exact .inl (.inl hk)
    ·rcases hb' k hk with hk | hk
     ·exact .inl (.inr (.inl hk))
     ·exact .inr (Nat.le_trans hgw55.size hk)
    ·exact .inl (.inr (.inr hk))
  ·simp only [decide_eq_false_iff_not] at hno
   rw [if_neg hno] at hL
   refine ⟨_, _, _, c8, A9.useF (fun _ v w66 hok ⟨hv, hw⟩ => ?_) (fun c w66 hok hw => ?_)⟩
   rotate_left
   ·subst hw
    by_cases e : 4096 ≤ st.steps.length
    ·have : c = 212 := by
      rw [decide_eq_false (by rw [hsl]; omega)] at hok; cases hok; rfl
     subst this
     rw [hL, if_pos e]; exact ⟨rfl, hg1.upd⟩
    ·rw [decide_eq_true (by rw [hsl]; omega)] at hok; cases hok
   subst hv
   have hlt : ¬ 4096 ≤ st.steps.length := fun e => by
    rw [decide_eq_false (by rw [hsl]; omega)] at hok; cases hok
   rw [if_neg hlt] at hL
   refine ⟨rfl, fun w69 hg69 => ?_⟩
   rw [hw] at hg69
   have hA69 := hA.grew hg69
   have hgw69 := hg1.trans hg69
   have h69 := h.grew hgw69
   refine ⟨_, _, _, hg69.cell c8, (step_ok (hG.grew (hg0.trans hgw69)) hA69 fun y hy => hle y (List.mem_cons_of_mem _ hy)).useF (fun s v w71 hok ⟨hv, hg71⟩ => ?_) (fun c w71 hok hg71 => ?_)⟩
   rotate_left
   ·rw [hL, hok]; exact ⟨rfl, (hgw69.trans hg71).upd⟩
   subst hv
   rw [hok] at hL
   refine ⟨_, _, _, _, _, rfl, ⟨hg71.block _ h69.row.lt, trivial⟩, fun b79 w80 hal => ⟨⟨hal.grew.block _ (Nat.lt_of_lt_of_le h69.row.lt hg71.size), trivial⟩, ?_⟩⟩
   have hgw71 := hgw69.trans hg71
   have h71 := h.grew hgw71
   refine Bz (l2 := [s]) Mu h71.steps hal rfl rfl (Nat.le_trans hg0.size hgw71.size) (by simp only [maxLen, List.length_singleton]; omega) (by simp only [List.length_singleton]; omega) ?_
   rintro v w81 ⟨a', n', c', rfl, ho', hu', hb'⟩
   have hr81 := h71.row.upd hu' fun hk => Ax h71.steps h71.row (by decide) hk
   have hs81 := h71.ops.upd hu' fun k hk e => Cn h71.ops h71.steps (by decide) k hk e
   obtain ⟨t1, t2, t3⟩ := hr81.set1 (o := 8) (by rw [el]; omega) (.slice a' n' c')
   have s8' := s8 (a', n', c')
   rw [s8'] at t2
   refine ⟨_, _, _, rfl, t1, ?_⟩
   rintro w84 rfl
   rw [hL]
   refine ⟨_, rfl, rfl, { x with s := (a', n', c') }, ⟨t2, h71.low, ?_, ?_⟩, ?_, ?_⟩
   ·exact hs81.upd t3 fun k hk e => Ax hs81 hr81 (by decide) (e ▸ hk)
   ·exact ho'.upd t3 fun k hk e => Ax ho' hr81 (by decide) (e ▸ hk)
   ·exact hgw71.then_upd ((hu'.mono fun k _ hk => .inr (.inr hk)).trans (t3.mono fun k _ e => .inl e))
   ·rintro k (hk | hk | hk)
    ·exact .inl (.inl hk)
    ·exact .inl (.inr (.inl hk))
    ·rcases hb' k hk with hk | hk
     ·exact .inl (.inr (.inr hk))
     ·exact .inr (Nat.le_trans hgw71.size hk)
end Go.Proofs.YtbmmaibbiahkkaaGreatDoor
