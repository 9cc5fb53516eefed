/- The reference's reading of scripts. Conditions: none. -/
import Derived.Test.YtbmmaibbiahkkaaGreatDoorProg
import Derived.Test.YtbmmaibbiahkkaaGreatDoorScrV
namespace Go.Proofs.YtbmmaibbiahkkaaGreatDoor
open Go.Sx
set_option maxRecDepth 100000
set_option linter.unusedVariables false
set_option linter.unusedSimpArgs false
def sx12 (d : ByteArray) (R : Ending → World → Prop) (w : World) : Prop :=
  ∀ w1, Grew w w1 → ifB (decide (((ByteArray.size d : Nat) : Int) > 262144)) (R (.returned (.tuple #[.agg #[.int .i64 0, .int .i64 0, .int .i64 0, .slice none 0 0, .int .i64 0, .int .i64 0, .int .i64 0, .int .i64 0], .slice none 0 0, .int .i64 0, .int .i64 6])) w1) (Aa Tryz.prog 22 [.string d] w1 (RetR R fun u3 w2 => ∃ a4 l4 c4, u3 = .slice a4 l4 c4 ∧ ∀ w6, Grew w2 w6 → ∀ b7 w8, An w6 w8 b7 (.cells #[] 46) → ∃ (I9 : Option Addr → Nat → Nat → Bool → Int → Int → Int → Int → Option Addr → Nat → Nat → Int → Int → Int → Int → Int → Int → Int → Option Addr → Nat → Nat → Int → Int → Int → Int → World → Prop) (m9 : Option Addr → Nat → Nat → Bool → Int → Int → Int → Int → Option Addr → Nat → Nat → Int → Int → Int → Int → Int → Int → Int → Option Addr → Nat → Nat → Int → Int → Int → Int → World → Nat), I9 (some ⟨b7, 0, none⟩) 0 0 false 0 0 0 0 none 0 0 0 0 0 0 0 0 0 none 0 0 0 0 0 0 w8 ∧ ∀ a10 l10 c10 b11 n12 n13 n14 n15 a16 l16 c16 n17 n18 n19 n20 n21 n22 n23 a24 l24 c24 n25 n26 n27 n28 w29, I9 a10 l10 c10 b11 n12 n13 n14 n15 a16 l16 c16 n17 n18 n19 n20 n21 n22 n23 a24 l24 c24 n25 n26 n27 n28 w29 → ifB (decide (n12 < ((l4 : Nat) : Int))) (Ab a4 (fun d30 => (0 ≤ n12 ∧ n12 < (l4 : Nat)) ∧ ∃ s31, w29.cell? (Addr.add d30 (n12.toNat * 1)) = some (.string s31) ∧ ∃ b32, Ai Tryz.prog (eqS .eql 9 (.tmp 36) (.const (.string (ByteArray.mk (#[]) : ByteArray))) (.string s31) (.string (ByteArray.mk (#[]) : ByteArray))) (.bool b32) ∧ ifB b32 ((I9 a10 l10 c10 b11 (IntKind.i64.wrap (n12 + 1)) n13 n14 n15 a16 l16 c16 n17 n18 n19 n20 n21 n22 n23 a24 l24 c24 n25 n26 n27 n28 w29 ∧ m9 a10 l10 c10 b11 (IntKind.i64.wrap (n12 + 1)) n13 n14 n15 a16 l16 c16 n17 n18 n19 n20 n21 n22 n23 a24 l24 c24 n25 n26 n27 n28 w29 < m9 a10 l10 c10 b11 n12 n13 n14 n15 a16 l16 c16 n17 n18 n19 n20 n21 n22 n23 a24 l24 c24 n25 n26 n27 n28 w29)) (Ab a4 (fun d33 => (0 ≤ n12 ∧ n12 < (l4 : Nat)) ∧ ∃ s34, w29.cell? (Addr.add d33 (n12.toNat * 1)) = some (.string s34) ∧ ∃ (b35 : UInt8), (0 ≤ (0 : Int) ∧ (s34).data[(0 : Int).toNat]? = some b35) ∧ ifB ((b35.toNat : Int) == 35) ((I9 a10 l10 c10 b11 (IntKind.i64.wrap (n12 + 1)) n13 n14 n15 a16 l16 c16 n17 n18 n19 n20 n21 n22 n23 a24 l24 c24 n25 n26 n27 n28 w29 ∧ m9 a10 l10 c10 b11 (IntKind.i64.wrap (n12 + 1)) n13 n14 n15 a16 l16 c16 n17 n18 n19 n20 n21 n22 n23 a24 l24 c24 n25 n26 n27 n28 w29 < m9 a10 l10 c10 b11 n12 n13 n14 n15 a16 l16 c16 n17 n18 n19 n20 n21 n22 n23 a24 l24 c24 n25 n26 n27 n28 w29)) (Ab a4 (fun d36 => (0 ≤ n12 ∧ n12 < (l4 : Nat)) ∧ ∃ s37, w29.cell? (Addr.add d36 (n12.toNat * 1)) = some (.string s37) ∧ Aa Tryz.prog 23 [.string s37] w29 (RetR R fun u39 w38 => ∃ a40 l40 c40, u39 = .slice a40 l40 c40 ∧ Ab a40 (fun d42 => (0 ≤ (0 : Int) ∧ (0 : Int) < (l40 : Nat)) ∧ ∃ s43, w38.cell? d42 = some (.string s43) ∧ Aa Tryz.prog 24 [.string s43] w38 (RetR R fun u45 w44 => ∃ s46 n47, u45 = .tuple #[.string s46, .int .i64 n47] ∧ ifB (!b11) (Ab a40 (fun d49 => (0 ≤ (0 : Int) ∧ (0 : Int) < (l40 : Nat)) ∧ ∃ s50,
 w44.cell? d49 = some (.string s50) ∧ ∃ b51, Ai Tryz.prog (eqS .neq 9 (.tmp 73) (.const (.string (ByteArray.mk (#[112, 108, 97, 110]) : ByteArray))) (.string s50) (.string (ByteArray.mk (#[112, 108, 97, 110]) : ByteArray))) (.bool b51) ∧ ifB b51 (R (.returned (.tuple #[.agg #[.int .i64 0, .int .i64 0, .int .i64 0, .slice none 0 0, .int .i64 0, .int .i64 0, .int .i64 0, .int .i64 0], .slice none 0 0, .int .i64 (IntKind.i64.wrap (n12 + 1)), .int .i64 210])) w44) (Aa Tryz.prog 25 [.slice a40 l40 c40] w44 (RetR R fun u53 w52 => ∃ n54 n55 n56 a57 l57 c57 n58 n59 n60 n61 b62, u53 = .tuple #[.agg #[.int .i64 n54, .int .i64 n55, .int .i64 n56, .slice a57 l57 c57, .int .i64 n58, .int .i64 n59, .int .i64 n60, .int .i64 n61], .bool b62] ∧ ifB (!b62) (R (.returned (.tuple #[.agg #[.int .i64 0, .int .i64 0, .int .i64 0, .slice none 0 0, .int .i64 0, .int .i64 0, .int .i64 0, .int .i64 0], .slice none 0 0, .int .i64 (IntKind.i64.wrap (n12 + 1)), .int .i64 211])) w52) ((I9 a10 l10 c10 true (IntKind.i64.wrap (n12 + 1)) n13 n14 n15 a16 l16 c16 n17 n18 n19 n20 n54 n55 n56 a57 l57 c57 n58 n59 n60 n61 w52 ∧ m9 a10 l10 c10 true (IntKind.i64.wrap (n12 + 1)) n13 n14 n15 a16 l16 c16 n17 n18 n19 n20 n54 n55 n56 a57 l57 c57 n58 n59 n60 n61 w52 < m9 a10 l10 c10 b11 n12 n13 n14 n15 a16 l16 c16 n17 n18 n19 n20 n21 n22 n23 a24 l24 c24 n25 n26 n27 n28 w29)))))) (∃ J64 : Bool → World → Prop, (Ab a40 (fun d65 => (0 ≤ (0 : Int) ∧ (0 : Int) < (l40 : Nat)) ∧ ∃ s66, w44.cell? d65 = some (.string s66) ∧ ∃ b67, Ai Tryz.prog (eqS .eql 9 (.tmp 86) (.const (.string (ByteArray.mk (#[111, 112]) : ByteArray))) (.string s66) (.string (ByteArray.mk (#[111, 112]) : ByteArray))) (.bool b67) ∧ ifB b67 (J64 (((l10 : Nat) : Int) == 0) w44) (J64 false w44))) ∧ ∀ b68 w69, J64 b68 w69 → ifB b68 (Aa Tryz.prog 26 [.slice a40 l40 c40] w69 (RetR R fun u71 w70 => ∃ n72 n73 x74 b75, u71 = .tuple #[.agg #[.int .i64 n72, .int .i64 n73, .float .f64 x74], .bool b75] ∧ ∀ w77, Grew w70 w77 → ∀ b78 w79, An w77 w79 b78 (.cells #[.int .i64 n72, .int .i64 n73, .float .f64 x74] 49) → SemW Tryz.prog (Builtin.append_ #[23, 23] 23 #[.slice a24 l24 c24, .slice (some ⟨b78, 0, none⟩) 1 1]) (fun u81 w80 => ∃ a82 l82 c82, u81 = .slice a82 l82 c82 ∧ ifB (!b75) (R (.returned (.tuple #[.agg #[.int .i64 0, .int .i64 0, .int .i64 0, .slice none 0 0, .int .i64 0, .int .i64 0, .int .i64 0, .int .i64 0], .slice none 0 0, .int .i64 (IntKind.i64.wrap (n12 + 1)), .int .i64 211])) w80) ((I9 a10 l10 c10 b11 (IntKind.i64.wrap (n12 + 1)) n13 n14 n15 a16 l16 c16 n17 n18 n19 n20 n21 n22 n23 a82 l82 c82 n25 n26 n27 n28 w80 ∧ m9 a10 l10 c10 b11 (IntKind.i64.wrap (n12 + 1)) n13 n14 n15 a16 l16 c16 n17 n18 n19 n20 n21 n22 n23 a82 l82 c82 n25 n26 n27 n28 w80 < m9 a10 l10 c10 b11 n12 n13 n14 n15 a16 l16 c16 n17 n18 n19 n20 n21 n22 n23 a24 l24 c24 n25 n26 n27 n28 w29))) w79)) (ifB (((l10 : Nat) : Int) == 4096) (R (.returned (.tuple #[.agg #[.int .i64 0, .int .i64 0, .int .i64 0, .slice none 0 0, .int .i64 0, .int .i64 0, .int
 .i64 0, .int .i64 0], .slice none 0 0, .int .i64 (IntKind.i64.wrap (n12 + 1)), .int .i64 212])) w69) (ifB (n47 == 0) (R (.returned (.tuple #[.agg #[.int .i64 0, .int .i64 0, .int .i64 0, .slice none 0 0, .int .i64 0, .int .i64 0, .int .i64 0, .int .i64 0], .slice none 0 0, .int .i64 (IntKind.i64.wrap (n12 + 1)), .int .i64 210])) w69) (Aa Tryz.prog 27 [.slice a40 l40 c40] w69 (RetR R fun u84 w83 => ∃ n85 n86 n87 n88 x89 b90, u84 = .tuple #[.agg #[.int .i64 n85, .int .i64 n86, .int .i64 n87, .int .u64 n88, .float .f64 x89], .bool b90] ∧ ∀ w92, Grew w83 w92 → ∀ b93 w94, An w92 w94 b93 (.cells #[.int .i64 n85, .int .i64 n86, .int .i64 n87, .int .u64 n88, .float .f64 x89] 46) → SemW Tryz.prog (Builtin.append_ #[26, 26] 26 #[.slice a10 l10 c10, .slice (some ⟨b93, 0, none⟩) 1 1]) (fun u96 w95 => ∃ a97 l97 c97, u96 = .slice a97 l97 c97 ∧ ifB (!b90) (R (.returned (.tuple #[.agg #[.int .i64 0, .int .i64 0, .int .i64 0, .slice none 0 0, .int .i64 0, .int .i64 0, .int .i64 0, .int .i64 0], .slice none 0 0, .int .i64 (IntKind.i64.wrap (n12 + 1)), .int .i64 211])) w95) ((I9 a97 l97 c97 b11 (IntKind.i64.wrap (n12 + 1)) n13 n14 n15 a16 l16 c16 n17 n18 n19 n20 n21 n22 n23 a24 l24 c24 n25 n26 n27 n28 w95 ∧ m9 a97 l97 c97 b11 (IntKind.i64.wrap (n12 + 1)) n13 n14 n15 a16 l16 c16 n17 n18 n19 n20 n21 n22 n23 a24 l24 c24 n25 n26 n27 n28 w95 < m9 a10 l10 c10 b11 n12 n13 n14 n15 a16 l16 c16 n17 n18 n19 n20 n21 n22 n23 a24 l24 c24 n25 n26 n27 n28 w29))) w94)))))))))))))) (ifB (!b11) (R (.returned (.tuple #[.agg #[.int .i64 0, .int .i64 0, .int .i64 0, .slice none 0 0, .int .i64 0, .int .i64 0, .int .i64 0, .int .i64 0], .slice none 0 0, .int .i64 ((l4 : Nat) : Int), .int .i64 210])) w29) (R (.returned (.tuple #[.agg #[.int .i64 n21, .int .i64 n22, .int .i64 n23, .slice a24 l24 c24, .int .i64 n25, .int .i64 n26, .int .i64 n27, .int .i64 n28], .slice a10 l10 c10, .int .i64 0, .int .i64 0])) w29))))
theorem sx12.ok {d : ByteArray} {R : Ending → World → Prop} {w : World} (h : sx12 d R w) : Aa Tryz.prog 12 [.string d] w R :=
 okOf { locals := [2, 7, 15, 17], pureTo := [37, 74, 87], sem := [67, 103], loops := [(8, { slots := [(8, .slice), (9, .bool), (10, .int .i64)], cells := [(2, 25, [.int .i64, .int .i64, .int .i64, .slice, .int .i64, .int .i64, .int .i64, .int .i64]), (7, 25, [.int .i64, .int .i64, .int .i64, .slice, .int .i64, .int .i64, .int .i64, .int .i64])] })], cuts := [(23, { slots := [(83, .bool)], cells := [] })] } mix Tryz.func12 (by kernel_rfl) (by kernel_rfl) (by kernel_rfl) h
def Hc (B : Nat) : Except (Int × Nat) (ScrP × List Ah) → Value → World → Prop
 | .error (e, n), v, _ => v = .tuple #[Lj ⟨0, 0, 0, 0, 0, 0, 0, []⟩, .slice none 0 0, .int .i64 (n : Int), .int .i64 e]
 | .ok (p, steps), v, w' => ∃ o s : Sl3, v = .tuple #[.agg #[.int .i64 p.n0, .int .i64 p.n1, .int .i64 p.n2, .slice o.1 o.2.1 o.2.2, .int .i64 p.n3, .int .i64 p.n4, .int .i64 p.n5, .int .i64 p.n6], .slice s.1 s.2.1 s.2.2, .int .i64 0, .int .i64 0] ∧
   Own w' B 49 Enc.op3 o.1 o.2.1 o.2.2 p.ops ∧ Own w' B 46 Enc.stepE s.1 s.2.1 s.2.2 steps
theorem Pw : B1 Tryz.prog 23 49 Enc.op3.sz 24 := B1.mk' (z := .agg #[.int .i64 0, .int .i64 0, .float .f64 0]) (by kernel_rfl) (by kernel_rfl) (by kernel_rfl)
theorem Px : B1 Tryz.prog 26 46 Enc.stepE.sz 40 := B1.mk' (z := .agg #[.int .i64 0, .int .i64 0, .int .i64 0, .int .u64 0, .float .f64 0]) (by kernel_rfl) (by kernel_rfl) (by kernel_rfl)
structure RfI (L : List L8) (w : World) (a4 : Option Addr) (c4 : Nat) (j : Nat) (st : ScrS) (o s : Sl3) (w' : World) : Prop where
 go : As 0 ⟨none, []⟩ L = As j st (L.drop j)
 le : j ≤ L.length
 ops : Own w' w.heap.size 49 Enc.op3 o.1 o.2.1 o.2.2 (Br st.p)
 steps : Own w' w.heap.size 46 Enc.stepE s.1 s.2.1 s.2.2 st.steps
 lines : Own w' w.heap.size 9 Enc.text a4 L.length c4 L
 grew : Grew w w'
 few : (Br st.p).length ≤ j
 most : st.steps.length ≤ 4096
theorem Ef {j : Nat} {st : ScrS} {l : L8} {L : List L8} (h : L[j]? = some l) : As j st (L.drop j) = if C8 l then As (j + 1) st (L.drop (j + 1)) else match B5 st l with | .error e => .error (e, j + 1) | .ok st' => As (j + 1) st' (L.drop (j + 1)) := by
 obtain ⟨hl, e⟩ := List.getElem?_eq_some_iff.1 h
 rw [List.drop_eq_getElem_cons hl, e]; rfl
theorem Mo {t : L8} {w : World} : Aa Tryz.prog 12 [.string (bs t)] w (Rets fun v w' => Hc w.heap.size (Bf t) v w' ∧ Grew w w') := by
 refine sx12.ok ?_
 unfold sx12
 intro w1 hg1
 rw [Ao]
 refine ⟨fun hbig => ?_, fun hsm => ?_⟩
 ·simp only [decide_eq_true_eq] at hbig
  have : Bf t = .error (6, 0) := by unfold Bf; rw [if_pos (by omega)]
  rw [this]; exact ⟨_, rfl, rfl, hg1⟩
 simp only [decide_eq_false_iff_not] at hsm
 have htl : t.length ≤ 262144 := by omega
 refine (Nu (by omega)).use fun v w2 ⟨a4, n4, c4, hv, hoL, hg2⟩ => ?_
 subst hv
 have hn4 : n4 = (Ad 10 t).length := hoL.len
 subst hn4
 have hP : Bf t = match As 0 ⟨none, []⟩ (Ad 10 t) with | .error e => .error e | .ok st => match st.p with | none => .error (210, (Ad 10 t).length) | some p => .ok (p, st.steps) := by
  unfold Bf; rw [if_neg (by omega)]; cases As 0 ⟨none, []⟩ (Ad 10 t) <;> rfl
 have hLn : (Ad 10 t).length ≤ 262145 := by rw [Bu]; have := List.count_le_length (l := t) (a := (10 : UInt8)); omega
 have hLe : ∀ l ∈ Ad 10 t, l.length ≤ 262144 := fun l hl => Nat.le_trans (Dy 10 t l hl) htl
 generalize Ad 10 t = L at *
 refine ⟨_, _, _, rfl, fun w6 hg6 b7 w8 hal => ?_⟩
 have hg8 := hg1.trans (hg2.trans (hg6.trans hal.grew))
 refine ⟨fun a10 l10 c10 b11 n12 _ _ _ _ _ _ _ _ _ _ n21 n22 n23 a24 l24 c24 n25 n26 n27 n28 w' => ∃ (j : Nat) (st : ScrS), n12 = j ∧ b11 = st.p.isSome ∧ [n21, n22, n23, n25, n26, n27, n28] = Cg st.p ∧ RfI L w a4 c4 j st (a24, l24, c24) (a10, l10, c10) w', fun _ _ _ _ n12 _ _ _ _ _ _ _ _ _ _ _ _ _ _ _ _ _ _ _ _ _ => L.length - n12.toNat,
  ⟨0, ⟨none, []⟩, rfl, rfl, rfl, ⟨rfl, Nat.zero_le _, Own.nil _ _ _ _, (Own.alloc (l := []) hal (Nat.le_refl _) rfl (by simp [maxLen])).base (hg1.trans (hg2.trans hg6)).size, ((hoL.base hg1.size).grew hg6).grew hal.grew, hg8, Nat.zero_le _, Nat.zero_le _⟩⟩, ?_⟩
 rintro a10 l10 c10 b11 n12 _ _ _ _ _ _ _ _ _ _ n21 n22 n23 a24 l24 c24 n25 n26 n27 n28 w29 ⟨j, st, rfl, rfl, hns, hI⟩
 have hgo := hI.go
 refine ⟨fun hlt => ?_, fun hge => ?_⟩
 ·simp only [decide_eq_true_eq] at hlt
  have hjl : j < L.length := by omega
  have ew := Bj (j := j) (by omega)
  rw [ew]
  have hm : L.length - (((j + 1 : Nat) : Int)).toNat < L.length - ((j : Nat) : Int).toNat := by omega
  obtain ⟨d, l, hd, hl, hc⟩ := hI.lines.reads.at0 (k := j) hjl
  subst hd
  have hlm := hLe l (List.mem_of_getElem? hl)
  have hcell : w29.cell? (Addr.add d (((j : Nat) : Int).toNat * 1)) = some (.string (bs l)) := by simpa [Enc.text, Ag, Addr.add] using hc
  rw [Ef hl] at hgo
  have skip : C8 l = true → RfI L w (some d) c4 (j + 1) st (a24, l24, c24) (a10, l10, c10) w29 := fun h => by
   rw [if_pos h] at hgo
   exact ⟨hgo, hjl, hI.ops, hI.steps, hI.lines, hI.grew, by have := hI.few; omega, hI.most⟩
  have err : ∀ e : Int, C8 l = false → B5 st l = .error e → ∀ w', Grew w w' → Rets (fun v w' => Hc w.heap.size (Bf t) v w' ∧ Grew w w') (.returned (.tuple #[.agg #[.int .i64 0, .int .i64 0, .int .i64 0, .slice none 0 0, .int .i64 0, .int .i64 0, .int .i64 0, .int .i64 0], .slice none 0 0, .int .i64 ((j + 1 : Nat) : Int), .int .i64 e])) w' := fun e h1 h2 w' hg => by
   rw [if_neg (by rw [h1]; simp), h2] at hgo
   rw [hP, hgo]; exact ⟨_, rfl, rfl, hg⟩
  simp only [Ab]
  refine ⟨⟨by omega, by omega⟩, _, hcell, _, B3 (b := []), fun h0 => ?_, fun h0 => ⟨⟨by omega, by omega⟩, _, hcell, ?_⟩⟩
  ·have : l = [] := by simpa using h0
   exact ⟨⟨j + 1, st, rfl, rfl, hns, skip (by rw [this]; rfl)⟩, hm⟩
  obtain ⟨c0, r0, hl0⟩ : ∃ c r, l = c :: r := by
   cases hh : l with
   | nil => rw [hh] at h0; simp at h0
   | cons c r => exact ⟨c, r, rfl⟩
  refine ⟨c0, ⟨by omega, by rw [Do, hl0]; rfl⟩, fun h35 => ?_, fun h35 => ⟨⟨by omega, by omega⟩, _, hcell, ?_⟩⟩
  ·have : c0 = 35 := UInt8.toNat_inj.1 (by simp only [beq_iff_eq] at h35; show c0.toNat = 35; omega)
   exact ⟨⟨j + 1, st, rfl, rfl, hns, skip (by rw [hl0, this]; rfl)⟩, hm⟩
  have hsk : C8 l = false := by
   rw [hl0]; show (c0 == 35) = false
   rw [beq_eq_false_iff_ne]; intro e; rw [e] at h35; revert h35; decide
  refine (Nt (by omega)).use fun v w38 ⟨a40, n40, c40, hv, hoP, hg38⟩ => ?_
  subst hv
  obtain ⟨word, args, hsp⟩ : ∃ word args, Ad 32 l = word :: args := by
   cases hs : Ad 32 l with
   | nil => exact (Iy 32 l hs).elim
   | cons x r => exact ⟨x, r, rfl⟩
  have hal1 : args.length ≤ 262145 := by
   have h1 := Bu 32 l
   rw [hsp] at h1
   have h2 := List.count_le_length (l := l) (a := (32 : UInt8))
   simp only [List.length_cons] at h1; omega
  have hle : ∀ y ∈ args, y.length ≤ 1000000000 := fun y hy => by
   have := Dy 32 l y (by rw [hsp]; simp [hy]); omega
  rw [hsp] at hoP
  have hr := hoP.reads
  obtain ⟨d2, y, hd2, hy, hc2⟩ := hr.at0 (k := 0) (by rw [hoP.len]; simp)
  cases hy
  subst hd2
  have hcw : w38.cell? d2 = some (.string (bs word)) := by simpa [Enc.text, Ag, Addr.add] using hc2
  have h0n : (0 : Int) < (n40 : Nat) := by rw [hoP.len]; simp only [List.length_cons]; omega
  refine ⟨_, _, _, rfl, ?_⟩
  simp only [Ab]
  refine ⟨⟨by omega, h0n⟩, _, hcw, (L6 (s := word)).use fun v w44 ⟨hv, hw44⟩ => ?_⟩
  subst hv
  rw [hw44]
  have hgw := hI.grew.trans hg38
  have hkind : ∃ (s46 : ByteArray) (n47 : Int), askR (Bi word) = .tuple #[.string s46, .int .i64 n47] ∧ ((n47 == 0) = true ↔ Bi word = none) := by
   cases hwo : Bi word with
   | none => exact ⟨_, _, rfl, by simp⟩
   | some x =>
    obtain ⟨k, asks⟩ := x
    obtain ⟨-, h1, -⟩ := Ee (G3 hwo)
    exact ⟨_, _, rfl, by simp; omega⟩
  obtain ⟨s46, n47, hask, hk0⟩ := hkind
  refine ⟨_, _, hask, fun hnb => ⟨⟨by omega, h0n⟩, _, hcw, _, O5 (b := Cl), fun hne => ?_, fun heq => ?_⟩, fun hbe => ?_⟩
  ·have hp : st.p = none := by simpa using hnb
   refine err 210 hsk ?_ _ hgw
   unfold B5; rw [hsp]; simp only [hp]
   rw [if_neg (by simpa using hne)]
  ·have hp : st.p = none := by simpa using hnb
   have hwp : word = Cl := by simpa using heq
   have hL : B5 st l = match Cm args with | some p => .ok { st with p := some p } | none => .error 211 := by
    unfold B5; rw [hsp]; simp only [hp]
    rw [if_pos hwp]; cases Cm args <;> rfl
   refine (Nv hr hle).use fun v w52 ⟨hv, hg52⟩ => ?_
   subst hv
   cases hpl : Cm args with
   | none =>
    rw [hpl] at hL
    exact ⟨_, _, _, _, _, _, _, _, _, _, _, rfl, fun _ => err 211 hsk hL _ (hgw.trans hg52), fun h => (by cases h)⟩
   | some p =>
    rw [hpl] at hL
    have hpo : p.ops = [] := by
     obtain ⟨z, hz, -, hzo⟩ : ∃ p', Cm args = some p' ∧ True ∧ p'.ops = [] := by
      refine ⟨p, hpl, trivial, ?_⟩
      unfold Cm at hpl
      split at hpl
      ·split at hpl
       ·cases hpl; rfl
       ·cases hpl
      ·cases hpl
     rw [hpl] at hz; cases hz; exact hzo
    refine ⟨_, _, _, _, _, _, _, _, _, _, _, rfl, fun h => (by cases h), fun _ => ⟨⟨j + 1, { st with p := some p }, rfl, rfl, rfl, ?_⟩, hm⟩⟩
    rw [if_neg (by rw [hsk]; simp), hL] at hgo
    refine ⟨hgo, hjl, ?_, (hI.steps.grew hg38).grew hg52, (hI.lines.grew hg38).grew hg52, hgw.trans hg52, by show p.ops.length ≤ _; rw [hpo]; exact Nat.zero_le _, hI.most⟩
    show Own w52 w.heap.size 49 Enc.op3 none 0 0 p.ops
    rw [hpo]; exact Own.nil _ _ _ _
  obtain ⟨p, hp⟩ : ∃ p, st.p = some p := by
   cases hs : st.p with
   | none => rw [hs] at hbe; cases hbe
   | some p => exact ⟨p, rfl⟩
  have hL : B5 st l = if word = opW ∧ st.steps = [] then (match opL args with | some o => .ok { st with p := some { p with ops := p.ops ++ [o] } } | none => .error 211) else if 4096 ≤ st.steps.length then .error 212 else match Di (word :: args) with | .error e => .error e | .ok s => .ok { st with steps := st.steps ++ [s] } := by
   unfold B5; rw [hsp]; simp only [hp]; rfl
  have hops : Br st.p = p.ops := by rw [hp]; rfl
  have hbg : st.p.isSome = true := by rw [hp]; rfl
  have hsl : l10 = st.steps.length := hI.steps.len
  have hnp : Cg (some p) = Cg st.p := by rw [hp]
  refine ⟨fun b w' => w' = w38 ∧ b = decide (word = opW ∧ st.steps = []), ⟨⟨by omega, h0n⟩, _, hcw, _, B3 (b := opW), fun he => ⟨rfl, ?_⟩, fun he => ⟨rfl, ?_⟩⟩, ?_⟩
  ·simp only [decide_eq_true_eq] at he
   rw [Bool.eq_iff_iff, beq_iff_eq, decide_eq_true_eq, hsl]
   constructor
   ·intro e; exact ⟨he, List.eq_nil_of_length_eq_zero (by omega)⟩
   ·rintro ⟨-, e⟩; rw [e]; rfl
  ·simp only [decide_eq_false_iff_not] at he
   symm; rw [decide_eq_false_iff_not]; exact fun e => he e.1
  rintro b68 w69 ⟨hw69, rfl⟩
  rw [hw69]
  refine ⟨fun hop => ?_, fun hno => ⟨fun h4096 => err 212 hsk ?_ _ hgw, fun h4096 => ⟨fun hz => err 210 hsk ?_ _ hgw, fun hz => ?_⟩⟩⟩
  ·simp only [decide_eq_true_eq] at hop
   rw [if_pos hop] at hL
   refine (Pl hr hle).use fun v w70 ⟨⟨o, hv, ho⟩, hg70⟩ => ?_
   subst hv
   refine ⟨_, _, _, _, rfl, fun w77 hg77 b78 w79 hal9 => ?_⟩
   have hgs := hg38.trans (hg70.trans hg77)
   have hgw77 := hI.grew.trans hgs
   have hfew := hI.few
   refine Bh (l2 := [o]) Pw (hI.ops.grew hgs) hal9 rfl rfl hgw77.size (by simp only [maxLen, List.length_singleton]; omega) (by simp only [List.length_singleton]; omega) ?_
   rintro v w80 ⟨a', n', c', rfl, ho', hu', hb'⟩
   have hg80 := hgw77.then_own hu' fun b hb => (hI.ops.blk hb).1
   refine ⟨_, _, _, rfl, fun hbad => err 211 hsk ?_ _ hg80, fun hok => ⟨⟨j + 1, { st with p := some { p with ops := p.ops ++ [o] } }, rfl, hbg, by rw [hns, ← hnp]; rfl, ?_⟩, hm⟩⟩
   ·have : opL args = none := by cases h : opL args <;> rw [h] at hbad <;> simp at hbad ⊢
    rw [hL, this]
   ·obtain ⟨o', ho2⟩ : ∃ o', opL args = some o' := by cases h : opL args <;> rw [h] at hok <;> simp at hok ⊢
    have := ho o' ho2
    subst this
    rw [ho2] at hL
    rw [if_neg (by rw [hsk]; simp), hL] at hgo
    refine ⟨hgo, hjl, by rw [hops] at ho'; exact ho', (hI.steps.grew hgs).upd hu' fun b hb hb2 => Gt (hI.ops.grew hgs) (hI.steps.grew hgs) (by decide) b hb2 hb, (hI.lines.grew hgs).upd hu' fun b hb hb2 => Gt (hI.ops.grew hgs) (hI.lines.grew hgs) (by decide) b hb2 hb, hg80, ?_, hI.most⟩
    rw [hops] at hfew
    show (p.ops ++ [o']).length ≤ j + 1
    simp only [List.length_append, List.length_singleton]; omega
  ·simp only [decide_eq_false_iff_not] at hno
   rw [hL, if_neg hno, if_pos]
   simp only [beq_iff_eq] at h4096; omega
  ·simp only [decide_eq_false_iff_not] at hno
   have h4 : ¬ 4096 ≤ st.steps.length := by
    have := hI.most
    rw [beq_eq_false_iff_ne] at h4096; omega
   rw [hL, if_neg hno, if_neg h4]
   simp only [Di, hk0.1 hz]
  ·simp only [decide_eq_false_iff_not] at hno
   have h4 : ¬ 4096 ≤ st.steps.length := by
    have := hI.most
    rw [beq_eq_false_iff_ne] at h4096; omega
   rw [if_neg hno, if_neg h4] at hL
   obtain ⟨⟨k, asks⟩, hwo⟩ : ∃ x, Bi word = some x := by
    cases h : Bi word with
    | none => rw [hk0.2 h] at hz; cases hz
    | some x => exact ⟨x, rfl⟩
   have hst : Di (word :: args) = match Aw asks args (step0 k) with | none => .error 211 | some s => .ok s := by
    simp only [Di, hwo]; cases Aw asks args (step0 k) <;> rfl
   refine (Nw hr hle hwo (by omega)).use fun v w83 ⟨⟨s, hv, hs⟩, hg83⟩ => ?_
   subst hv
   refine ⟨_, _, _, _, _, _, rfl, fun w92 hg92 b93 w94 hal9 => ?_⟩
   have hgs := hg38.trans (hg83.trans hg92)
   have hgw92 := hI.grew.trans hgs
   refine Bh (l2 := [s]) Px (hI.steps.grew hgs) hal9 rfl rfl hgw92.size (by simp only [maxLen, List.length_singleton]; omega) (by simp only [List.length_singleton]; omega) ?_
   rintro v w95 ⟨a', n', c', rfl, ho', hu', hb'⟩
   have hg95 := hgw92.then_own hu' fun b hb => (hI.steps.blk hb).1
   refine ⟨_, _, _, rfl, fun hbad => err 211 hsk ?_ _ hg95, fun hok => ⟨⟨j + 1, { st with steps := st.steps ++ [s] }, rfl, rfl, hns, ?_⟩, hm⟩⟩
   ·have : Aw asks args (step0 k) = none := by cases h : Aw asks args (step0 k) <;> rw [h] at hbad <;> simp at hbad ⊢
    rw [hL, hst, this]
   ·obtain ⟨s', hs2⟩ : ∃ s', Aw asks args (step0 k) = some s' := by cases h : Aw asks args (step0 k) <;> rw [h] at hok <;> simp at hok ⊢
    have := hs s' hs2
    subst this
    rw [hst, hs2] at hL
    rw [if_neg (by rw [hsk]; simp), hL] at hgo
    refine ⟨hgo, hjl, (hI.ops.grew hgs).upd hu' fun b hb hb2 => Gt (hI.steps.grew hgs) (hI.ops.grew hgs) (by decide) b hb2 hb, ho', (hI.lines.grew hgs).upd hu' fun b hb hb2 => Gt (hI.steps.grew hgs) (hI.lines.grew hgs) (by decide) b hb2 hb, hg95, by have := hI.few; show (Br st.p).length ≤ j + 1; omega, ?_⟩
    show (st.steps ++ [s']).length ≤ 4096
    simp only [List.length_append, List.length_singleton]; omega
 ·simp only [decide_eq_false_iff_not] at hge
  have : j = L.length := by have := hI.le; omega
  subst this
  rw [List.drop_eq_nil_of_le (Nat.le_refl _)] at hgo
  rw [hgo] at hP
  simp only [As] at hP
  refine ⟨fun hnb => ?_, fun hbe => ?_⟩
  ·have hp : st.p = none := by simpa using hnb
   rw [hp] at hP
   rw [hP]; exact ⟨_, rfl, rfl, hI.grew⟩
  ·obtain ⟨p, hp⟩ : ∃ p, st.p = some p := by
    cases hs : st.p with
    | none => rw [hs] at hbe; cases hbe
    | some p => exact ⟨p, rfl⟩
   have h1 := hI.ops
   rw [hp] at hP hns h1
   rw [hP]
   cases hns
   exact ⟨_, rfl, ⟨(a24, l24, c24), (a10, l10, c10), rfl, h1, hI.steps⟩, hI.grew⟩
end Go.Proofs.YtbmmaibbiahkkaaGreatDoor
