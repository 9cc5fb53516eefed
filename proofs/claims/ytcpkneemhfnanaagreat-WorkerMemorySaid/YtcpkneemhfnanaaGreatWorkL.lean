import Derived.Test.YtcpkneemhfnanaaGreatProg
import Derived.Test.YtcpkneemhfnanaaGreatWorkB
/- What a worker tells of its attempts. Conditions: none. -/
namespace Go.Proofs.YtcpkneemhfnanaaGreat
open Go.Sx
set_option maxRecDepth 100000
set_option linter.unusedVariables false
set_option linter.unusedSimpArgs false
/- (*reprise/worker.Worker).Held -/
def sx21 (w0 : Nat) (R : Ending → World → Prop) (w : World) : Prop :=
  ∃ (m1 : Option Nat), w.cell? ⟨w0, 9, none⟩ = some (.map m1) ∧ CallsW Tryz.prog 59 [.map m1] w (RetR R fun u3 w2 => ∃ (v4 : Value), u3 = v4 ∧ CallsW Tryz.prog 58 [v4] w2 (RetR R fun u7 w6 => ∃ (a8 : Option Addr) (l8 c8 :
    Nat), u7 = .slice a8 l8 c8 ∧ ∃ (I10 : Option Addr → Nat → Nat → Int → World → Prop) (m10 : Option Addr → Nat → Nat → Int → World → Nat), I10 none 0 0 0 w6 ∧ ∀ (a11 : Option Addr) (l11 c11 : Nat) (n12 : Int) (w13 :
    World), I10 a11 l11 c11 n12 w13 → (((decide (n12 < ((l8 : Nat) : Int))) = true → withSome a8 (fun d14 => (0 ≤ n12 ∧ n12 < (l8 : Nat)) ∧ ∃ (n15 : Int), w13.cell? (Addr.add d14 (n12.toNat * 1)) = some (.int .i64 n15) ∧
    ∃ (m16 : Option Nat), w13.cell? ⟨w0, 9, none⟩ = some (.map m16) ∧ SemW Tryz.prog (Instr.lookup 102 (.map m16) (.int .i64 n15) false) (fun u18 w17 => ∃ (p19 : Option Addr), u18 = .pointer p19 ∧ ∀ w20, Grew w17 w20 →
    withSome p19 (fun d21 => ∃ (n22 : Int), w20.cell? d21 = some (.int .i64 n22) ∧ withSome p19 (fun d23 => ∃ (a24 : Option Addr) (l24 c24 : Nat), w20.cell? (Addr.add d23 1) = some (.slice a24 l24 c24) ∧ withSome p19 (fun
    d25 => ∃ (b26 : Bool), w20.cell? (Addr.add d25 3) = some (.bool b26) ∧ withSome p19 (fun d27 => ∃ (m28 : Option Nat), w20.cell? (Addr.add d27 4) = some (.map m28) ∧ CallsW Tryz.prog 60 [.slice a24 l24 c24] w20 (RetR R
    fun u30 w29 => ∃ (a31 : Option Addr) (l31 c31 : Nat), u30 = .slice a31 l31 c31 ∧ SameB w20 w29 [(Addr.add d27 4), (Addr.add d25 3), (Addr.add d23 1), d21] ∧ SemW Tryz.prog (Builtin.len_ #[138] 3 #[.map m28]) (fun u34
    w33 => ∃ (n35 : Int), u34 = .int .i64 n35 ∧ SameB w29 w33 [(Addr.add d27 4), (Addr.add d25 3), (Addr.add d23 1), d21] ∧ ∀ (b36 : Nat) (w37 : World), Alloc w33 w37 b36 (.cells #[.int .i64 n15, .int .i64 n22, .slice a31
    l31 c31, .bool b26, .int .i64 n35] 74) → SemW Tryz.prog (Builtin.append_ #[59, 59] 59 #[.slice a11 l11 c11, .slice (some ⟨b36, 0, none⟩) 1 1]) (fun u39 w38 => ∃ (a40 : Option Addr) (l40 c40 : Nat), u39 = .slice a40 l40
    c40 ∧ (I10 a40 l40 c40 (IntKind.i64.wrap (n12 + 1)) w38 ∧ m10 a40 l40 c40 (IntKind.i64.wrap (n12 + 1)) w38 < m10 a11 l11 c11 n12 w13)) w37) w29)))))) w13)) ∧ ((decide (n12 < ((l8 : Nat) : Int))) = false → R (.returned
    (.slice a11 l11 c11)) w13))))
theorem sx21.ok {w0 : Nat} {R : Ending → World → Prop} {w : World} (h : sx21 w0 R w) : CallsW Tryz.prog 21 [.pointer (some ⟨w0, 0, none⟩)] w R :=
  callsW_of mix Tryz.func21 (by kernel_rfl) (by kernel_rfl) (Eq.mpr (by kernel_rfl : denFn Tryz.prog { known := [8], sem := [25, 45, 48], draws := [(8, { order := (.cons 0 (.cons 1 (.cons 2 (.cons 3 (.cons 4 (.cons 5 (.cons 6 (.cons 7 (.cons 8 (.cons 9 (.cons 11 (.cons 12 (.cons 13 (.cons 14 (.cons 15 (.cons 16 (.cons 17 (.cons 18 (.cons 10 (.cons 19 (.cons 20 (.cons 21 (.cons 22 (.cons 23 .nil)))))))))))))))))))))))), bars := [21, 22] })], loops := [(5, { slots := [(3, .slice), (16, .int .i64)], cells := [] })] } Tryz.f21 [.pointer (some ⟨w0, 0, none⟩)] R w = sx21 w0 R w) h)

theorem elHeld : ElemOk Tryz.prog 59 74 Enc.held.sz 56 := ElemOk.mk' (z := .agg #[.int .i64 0, .int .i64 0, .slice none 0 0, .bool false, .int .i64 0]) (by kernel_rfl) (by kernel_rfl) (by kernel_rfl)
abbrev HO := HeldsOwn 74 3
def HeldR (w : World) (ts : List HeldV) (u : Value) (w' : World) : Prop := ∃ a n c hs, u = .slice a n c ∧ HO w' w.heap.size a n c hs ∧ hs.map (·.c) = ts ∧ Grew w w'
set_option maxHeartbeats 1000000 in
theorem WHeld_ok {w : World} {B : Nat} {X : WorkX} {V : WorkV} (h : WA w B X V) (hl : V.held.length ≤ 1048576) :
    CallsW Tryz.prog 21 [.pointer (some ⟨X.p, 0, none⟩)] w (Rets (HeldR w V.tell)) := by
  refine sx21.ok ?_
  unfold sx21
  have hkeys : X.l.map (·.1) = V.held.map (·.1) := by rw [← h.held, List.map_map]; rfl
  have hxl : X.l.length = V.held.length := by rw [← h.held, List.length_map]
  refine ⟨_, wMap h, Keys_W_ok.use fun u w2 ⟨g, hv, hal⟩ => ?_⟩
  subst hv
  have h2 := h.grew hal.grew
  have hc1 : w2.cell? ⟨g, 0, none⟩ = some (.map (some X.h)) := by rw [cell_row hal.at_]; rfl
  refine ⟨_, rfl, (Sorted_W_ok hc1 h2.map (by omega)).use fun u w6 ⟨a8, l8, c8, hv, ho8, hg6⟩ => ?_⟩
  subst hv
  rw [hkeys] at ho8
  have hg6' := hal.grew.trans hg6
  have hl8 : l8 = V.held.length := by rw [ho8.len, (sortL_perm _).length_eq, List.length_map]
  subst hl8
  refine ⟨_, _, _, rfl, fun a n c i w' => ∃ (k : Nat) (hs : List HeldX), i = k ∧ k ≤ V.held.length ∧ HO w' w6.heap.size a n c hs ∧ hs.map (·.c) = V.tell.take k ∧ Grew w6 w', fun _ _ _ i _ => V.held.length - i.toNat, ⟨0, [], rfl, Nat.zero_le _, ⟨Own.nil _ _ _ _, fun x hx => (by simp at hx)⟩, by simp, Grew.refl _⟩, ?_⟩
  rintro a11 l11 c11 n12 w13 ⟨k, hs, rfl, hk, hO, hhs, hg13⟩
  have hhl : hs.length = k := by have := congrArg List.length hhs; simp [WorkV.tell_len] at this; omega
  refine ⟨fun hlt => ?_, fun hge => ?_⟩
  · simp only [decide_eq_true_eq] at hlt
    have hw : IntKind.i64.wrap ((k : Int) + 1) = ((k + 1 : Nat) : Int) := by rw [IntKind.wrap_i64]; omega
    have hgw := hg6'.trans hg13
    have h13 := h.grew hgw
    obtain ⟨d, key, rfl, hkey, hkc⟩ := (ho8.grew hg13).reads.at0 (k := k) (by omega)
    have hmem : key ∈ V.held.map (·.1) := (sortL_perm _).mem_iff.1 (List.mem_of_getElem? hkey)
    obtain ⟨q, hq, hqk⟩ := List.mem_map.1 (hkeys ▸ hmem : key ∈ X.l.map (·.1))
    obtain ⟨x, hx⟩ : ∃ x, getM X.l key = some x := by
      cases hg : getM X.l key with
      | some x => exact ⟨x, rfl⟩
      | none =>
        exfalso
        unfold getM at hg
        rw [Option.map_eq_none_iff, List.find?_eq_none] at hg
        exact hg q hq (by simpa using hqk)
    have hget : getM V.held key = some x.c := by rw [h.get, hx]; rfl
    have htell := WorkV.tell_get hkey
    rw [hget] at htell
    rw [withSome]
    refine ⟨⟨by omega, by omega⟩, _, i64cell hkc, _, wMap h13, map_lookup (F := attF) uHeld uInt zAtt h13.map ?_⟩
    rw [hx]
    refine ⟨_, rfl, fun w20 hg20 => ?_⟩
    have h20 := h13.grew hg20
    obtain ⟨hA, hok, hkb⟩ := h20.att hx
    have c0 : w20.cell? ⟨x.b, 0, none⟩ = some (.int .i64 x.c.number) := by rw [hA.row.cell]; rfl
    have c1 : w20.cell? (Addr.add (⟨x.b, 0, none⟩ : Addr) 1) = some (.slice x.e.1 x.e.2.1 x.e.2.2) := by rw [add_mk, hA.row.cell]; rfl
    have c3 : w20.cell? (Addr.add (⟨x.b, 0, none⟩ : Addr) 3) = some (.bool x.c.begun) := by rw [add_mk, hA.row.cell]; rfl
    have c4 : w20.cell? (Addr.add (⟨x.b, 0, none⟩ : Addr) 4) = some (.map (some x.am)) := by rw [add_mk, hA.row.cell]; rfl
    rw [withSome]
    refine ⟨_, c0, ?_⟩
    rw [withSome]
    refine ⟨_, _, _, c1, ?_⟩
    rw [withSome]
    refine ⟨_, c3, ?_⟩
    rw [withSome]
    refine ⟨_, c4, (CloneInt_ok hA.ends.reads (by have := hok.ends.1; omega)).use fun u w29 ⟨a31, l31, c31, hv, ho31, hg29⟩ => ?_⟩
    subst hv
    have bb := hg29.block _ hA.row.lt
    have hA29 := hA.grew hg29
    refine ⟨_, _, _, rfl, ⟨bb, bb, bb, bb, trivial⟩, map_len uAm hA29.amap ⟨_, rfl, ⟨rfl, rfl, rfl, rfl, trivial⟩, fun b36 w37 hal37 => ?_⟩⟩
    let z : HeldX := ⟨heldOf key x.c, (a31, l31, c31)⟩
    have hgz := hg20.trans hg29
    have hO29 := hO.grew hgz
    have hB := (hg13.trans hgz).size
    refine append_new (l2 := [z]) elHeld hO29.own hal37 (by simp [Enc.held, z, heldOf]) rfl hB (by simp only [maxLen, List.length_singleton]; omega) (by simp only [List.length_singleton]; omega) ?_
    rintro v39 w38 ⟨a40, l40, c40, rfl, ho40, hu40, hb40⟩
    have hz : Own w29 w6.heap.size 3 (Enc.int .i64) a31 l31 c31 x.c.ends := ho31.base (hg13.trans hg20).size
    have keep : ∀ {a n c} {l : List Int}, Own w29 w6.heap.size 3 (Enc.int .i64) a n c l → Own w38 w6.heap.size 3 (Enc.int .i64) a n c l := fun ho => ho.upd hu40 fun b hb hb' => own_ne ho hO29.own (by decide) b hb hb'
    refine ⟨_, _, _, rfl, ⟨k + 1, hs ++ [z], hw, by omega, ⟨ho40, fun y hy => ?_⟩, ?_, (hg13.trans hgz).then_own hu40 fun b hb => (hO29.own.blk hb).1⟩, by simp only [hw]; omega⟩
    · rcases List.mem_append.1 hy with hy | hy
      · exact keep (hO29.each y hy)
      · simp at hy; subst hy; exact keep hz
    · rw [List.map_append, hhs, take_snoc htell]; rfl
  · simp only [decide_eq_false_iff_not] at hge
    have hkn : k = V.held.length := by omega
    subst hkn
    rw [List.take_of_length_le (by rw [WorkV.tell_len]; omega)] at hhs
    exact ⟨_, rfl, _, _, _, hs, rfl, hO.base hg6'.size, hhs, hg6'.trans hg13⟩
end Go.Proofs.YtcpkneemhfnanaaGreat
/- What the law's own functions hand back: comparisons, awake. Conditions: none. -/
namespace Go.Proofs.YtcpkneemhfnanaaGreat
open Go.Sx
set_option maxRecDepth 100000
set_option linter.unusedVariables false
set_option linter.unusedSimpArgs false
/- reprise/repriselaw17.ints -/
def sx27 (a : Option Addr) (a_n a_c : Nat) (b : Option Addr) (b_n b_c : Nat) (R : Ending → World → Prop) (w : World) : Prop :=
  (((((a_n : Nat) : Int) != ((b_n : Nat) : Int)) = true → R (.returned (.bool false)) w) ∧ ((((a_n : Nat) : Int) != ((b_n : Nat) : Int)) = false → ∃ (I1 : Int → World → Prop) (m1 : Int → World → Nat), I1 0 w ∧ ∀ (n2 : Int)
    (w3 : World), I1 n2 w3 → (((decide (n2 < ((a_n : Nat) : Int))) = true → withSome a (fun d4 => (0 ≤ n2 ∧ n2 < (a_n : Nat)) ∧ ∃ (n5 : Int), w3.cell? (Addr.add d4 (n2.toNat * 1)) = some (.int .i64 n5) ∧ withSome b (fun
    d6 => (0 ≤ n2 ∧ n2 < (b_n : Nat)) ∧ ∃ (n7 : Int), w3.cell? (Addr.add d6 (n2.toNat * 1)) = some (.int .i64 n7) ∧ ∀ w8, Grew w3 w8 → (((n5 != n7) = true → R (.returned (.bool false)) w8) ∧ ((n5 != n7) = false → (I1
    (IntKind.i64.wrap (n2 + 1)) w8 ∧ m1 (IntKind.i64.wrap (n2 + 1)) w8 < m1 n2 w3)))))) ∧ ((decide (n2 < ((a_n : Nat) : Int))) = false → R (.returned (.bool true)) w3))))
theorem sx27.ok {a : Option Addr} {a_n a_c : Nat} {b : Option Addr} {b_n b_c : Nat} {R : Ending → World → Prop} {w : World} (h : sx27 a a_n a_c b b_n b_c R w) : CallsW Tryz.prog 27 [.slice a a_n a_c, .slice b b_n b_c] w R :=
  callsW_of mix Tryz.func27 (by kernel_rfl) (by kernel_rfl) (Eq.mpr (by kernel_rfl : denFn Tryz.prog { loops := [(4, { slots := [(5, .int .i64)], cells := [] })] } Tryz.f27 [.slice a a_n a_c, .slice b b_n b_c] R w = sx27 a a_n a_c b b_n b_c R w) h)

/- reprise/repriselaw17.keys -/
def sx29 (a : Option Addr) (a_n a_c : Nat) (b : Option Addr) (b_n b_c : Nat) (R : Ending → World → Prop) (w : World) : Prop :=
  (((((a_n : Nat) : Int) != ((b_n : Nat) : Int)) = true → R (.returned (.bool false)) w) ∧ ((((a_n : Nat) : Int) != ((b_n : Nat) : Int)) = false → ∃ (I1 : Int → World → Prop) (m1 : Int → World → Nat), I1 0 w ∧ ∀ (n2 : Int)
    (w3 : World), I1 n2 w3 → (((decide (n2 < ((a_n : Nat) : Int))) = true → withSome a (fun d4 => (0 ≤ n2 ∧ n2 < (a_n : Nat)) ∧ ∃ (n5 : Int), w3.cell? (Addr.add d4 (n2.toNat * 1)) = some (.int .u64 n5) ∧ withSome b (fun
    d6 => (0 ≤ n2 ∧ n2 < (b_n : Nat)) ∧ ∃ (n7 : Int), w3.cell? (Addr.add d6 (n2.toNat * 1)) = some (.int .u64 n7) ∧ ∀ w8, Grew w3 w8 → (((n5 != n7) = true → R (.returned (.bool false)) w8) ∧ ((n5 != n7) = false → (I1
    (IntKind.i64.wrap (n2 + 1)) w8 ∧ m1 (IntKind.i64.wrap (n2 + 1)) w8 < m1 n2 w3)))))) ∧ ((decide (n2 < ((a_n : Nat) : Int))) = false → R (.returned (.bool true)) w3))))
theorem sx29.ok {a : Option Addr} {a_n a_c : Nat} {b : Option Addr} {b_n b_c : Nat} {R : Ending → World → Prop} {w : World} (h : sx29 a a_n a_c b b_n b_c R w) : CallsW Tryz.prog 29 [.slice a a_n a_c, .slice b b_n b_c] w R :=
  callsW_of mix Tryz.func29 (by kernel_rfl) (by kernel_rfl) (Eq.mpr (by kernel_rfl : denFn Tryz.prog { loops := [(4, { slots := [(5, .int .i64)], cells := [] })] } Tryz.f29 [.slice a a_n a_c, .slice b b_n b_c] R w = sx29 a a_n a_c b b_n b_c R w) h)

/- reprise/repriselaw17.pairs -/
def sx28 (a : Option Addr) (a_n a_c : Nat) (b : Option Addr) (b_n b_c : Nat) (R : Ending → World → Prop) (w : World) : Prop :=
  (((((a_n : Nat) : Int) != ((b_n : Nat) : Int)) = true → R (.returned (.bool false)) w) ∧ ((((a_n : Nat) : Int) != ((b_n : Nat) : Int)) = false → ∃ (I1 : Int → World → Prop) (m1 : Int → World → Nat), I1 0 w ∧ ∀ (n2 : Int)
    (w3 : World), I1 n2 w3 → (((decide (n2 < ((a_n : Nat) : Int))) = true → withSome a (fun d4 => (0 ≤ n2 ∧ n2 < (a_n : Nat)) ∧ ∃ (n5 : Int) (b6 : Bool) (n7 : Int), CellsAt w3 (Addr.add d4 (n2.toNat * 3)) 0 [.int .u64 n5,
    .bool b6, .int .u64 n7] ∧ withSome b (fun d8 => (0 ≤ n2 ∧ n2 < (b_n : Nat)) ∧ ∃ (n9 : Int) (b10 : Bool) (n11 : Int), CellsAt w3 (Addr.add d8 (n2.toNat * 3)) 0 [.int .u64 n9, .bool b10, .int .u64 n11] ∧ ∃ (b12 : Bool),
    PureTo Tryz.prog (eqS .neq 83 (.tmp 20) (.tmp 24) (.agg #[.int .u64 n5, .bool b6, .int .u64 n7]) (.agg #[.int .u64 n9, .bool b10, .int .u64 n11])) (.bool b12) ∧ ∀ w13, Grew w3 w13 → ((b12 = true → R (.returned (.bool
    false)) w13) ∧ (b12 = false → (I1 (IntKind.i64.wrap (n2 + 1)) w13 ∧ m1 (IntKind.i64.wrap (n2 + 1)) w13 < m1 n2 w3)))))) ∧ ((decide (n2 < ((a_n : Nat) : Int))) = false → R (.returned (.bool true)) w3))))
theorem sx28.ok {a : Option Addr} {a_n a_c : Nat} {b : Option Addr} {b_n b_c : Nat} {R : Ending → World → Prop} {w : World} (h : sx28 a a_n a_c b b_n b_c R w) : CallsW Tryz.prog 28 [.slice a a_n a_c, .slice b b_n b_c] w R :=
  callsW_of mix Tryz.func28 (by kernel_rfl) (by kernel_rfl) (Eq.mpr (by kernel_rfl : denFn Tryz.prog { pureTo := [25], loops := [(4, { slots := [(5, .int .i64)], cells := [] })] } Tryz.f28 [.slice a a_n a_c, .slice b b_n b_c] R w = sx28 a a_n a_c b b_n b_c R w) h)

/- reprise/repriselaw17.msgs -/
def sx15 (d : Option Addr) (d_n d_c : Nat) (i : Option Addr) (i_n i_c : Nat) (R : Ending → World → Prop) (w : World) : Prop :=
  (((((d_n : Nat) : Int) != ((i_n : Nat) : Int)) = true → R (.returned (.bool false)) w) ∧ ((((d_n : Nat) : Int) != ((i_n : Nat) : Int)) = false → ∃ (I1 : Int → World → Prop) (m1 : Int → World → Nat), I1 0 w ∧ ∀ (n2 : Int)
    (w3 : World), I1 n2 w3 → (((decide (n2 < ((d_n : Nat) : Int))) = true → withSome d (fun d4 => (0 ≤ n2 ∧ n2 < (d_n : Nat)) ∧ ∃ (n5 : Int) (n6 : Int) (n7 : Int) (n8 : Int) (n9 : Int) (n10 : Int) (a11 : Option Addr) (l11
    c11 : Nat) (a12 : Option Addr) (l12 c12 : Nat) (a13 : Option Addr) (l13 c13 : Nat), CellsAt w3 (Addr.add d4 (n2.toNat * 9)) 0 [.int .i64 n5, .int .i64 n6, .int .i64 n7, .int .i64 n8, .int .i64 n9, .int .i64 n10,
    .slice a11 l11 c11, .slice a12 l12 c12, .slice a13 l13 c13] ∧ ∀ w14, Grew w3 w14 → withSome i (fun d15 => (0 ≤ n2 ∧ n2 < (i_n : Nat)) ∧ ∃ (n16 : Int) (n17 : Int) (n18 : Int) (n19 : Int) (n20 : Int) (n21 : Int) (a22 :
    Option Addr) (l22 c22 : Nat) (a23 : Option Addr) (l23 c23 : Nat) (a24 : Option Addr) (l24 c24 : Nat), CellsAt w14 (Addr.add d15 (n2.toNat * 9)) 0 [.int .i64 n16, .int .i64 n17, .int .i64 n18, .int .i64 n19, .int .i64
    n20, .int .i64 n21, .slice a22 l22 c22, .slice a23 l23 c23, .slice a24 l24 c24] ∧ ∀ w25, Grew w14 w25 → (((n5 != n16) = true → R (.returned (.bool false)) w25) ∧ ((n5 != n16) = false → (((n6 != n17) = true → R
    (.returned (.bool false)) w25) ∧ ((n6 != n17) = false → (((n7 != n18) = true → R (.returned (.bool false)) w25) ∧ ((n7 != n18) = false → (((n8 != n19) = true → R (.returned (.bool false)) w25) ∧ ((n8 != n19) = false →
    (((n9 != n20) = true → R (.returned (.bool false)) w25) ∧ ((n9 != n20) = false → (((n10 != n21) = true → R (.returned (.bool false)) w25) ∧ ((n10 != n21) = false → CallsW Tryz.prog 27 [.slice a11 l11 c11, .slice a22
    l22 c22] w25 (RetR R fun u27 w26 => ∃ (b28 : Bool), u27 = .bool b28 ∧ (((!b28) = true → R (.returned (.bool false)) w26) ∧ ((!b28) = false → CallsW Tryz.prog 29 [.slice a12 l12 c12, .slice a23 l23 c23] w26 (RetR R fun
    u31 w30 => ∃ (b32 : Bool), u31 = .bool b32 ∧ (((!b32) = true → R (.returned (.bool false)) w30) ∧ ((!b32) = false → CallsW Tryz.prog 28 [.slice a13 l13 c13, .slice a24 l24 c24] w30 (RetR R fun u35 w34 => ∃ (b36 :
    Bool), u35 = .bool b36 ∧ (((!b36) = true → R (.returned (.bool false)) w34) ∧ ((!b36) = false → (I1 (IntKind.i64.wrap (n2 + 1)) w34 ∧ m1 (IntKind.i64.wrap (n2 + 1)) w34 < m1 n2 w3))))))))))))))))))))))))) ∧ ((decide
    (n2 < ((d_n : Nat) : Int))) = false → R (.returned (.bool true)) w3))))
theorem sx15.ok {d : Option Addr} {d_n d_c : Nat} {i : Option Addr} {i_n i_c : Nat} {R : Ending → World → Prop} {w : World} (h : sx15 d d_n d_c i i_n i_c R w) : CallsW Tryz.prog 15 [.slice d d_n d_c, .slice i i_n i_c] w R :=
  callsW_of mix Tryz.func15 (by kernel_rfl) (by kernel_rfl) (Eq.mpr (by kernel_rfl : denFn Tryz.prog { locals := [6, 7], loops := [(4, { slots := [(5, .int .i64)], cells := [] })] } Tryz.f15 [.slice d d_n d_c, .slice i i_n i_c] R w = sx15 d d_n d_c i i_n i_c R w) h)

/- reprise/repriselaw17.held -/
def sx20 (d : Option Addr) (d_n d_c : Nat) (i : Option Addr) (i_n i_c : Nat) (R : Ending → World → Prop) (w : World) : Prop :=
  (((((d_n : Nat) : Int) != ((i_n : Nat) : Int)) = true → R (.returned (.bool false)) w) ∧ ((((d_n : Nat) : Int) != ((i_n : Nat) : Int)) = false → ∃ (I1 : Int → World → Prop) (m1 : Int → World → Nat), I1 0 w ∧ ∀ (n2 : Int)
    (w3 : World), I1 n2 w3 → (((decide (n2 < ((d_n : Nat) : Int))) = true → ∀ w4, Grew w3 w4 → withSome d (fun d5 => (0 ≤ n2 ∧ n2 < (d_n : Nat)) ∧ ∃ (n6 : Int), w4.cell? (Addr.add d5 (n2.toNat * 5)) = some (.int .i64 n6)
    ∧ withSome i (fun d7 => (0 ≤ n2 ∧ n2 < (i_n : Nat)) ∧ ∃ (n8 : Int), w4.cell? (Addr.add d7 (n2.toNat * 5)) = some (.int .i64 n8) ∧ (((n6 != n8) = true → R (.returned (.bool false)) w4) ∧ ((n6 != n8) = false → withSome
    d (fun d9 => (0 ≤ n2 ∧ n2 < (d_n : Nat)) ∧ ∃ (n10 : Int), w4.cell? (Addr.add (Addr.add d9 (n2.toNat * 5)) 1) = some (.int .i64 n10) ∧ withSome i (fun d11 => (0 ≤ n2 ∧ n2 < (i_n : Nat)) ∧ ∃ (n12 : Int), w4.cell?
    (Addr.add (Addr.add d11 (n2.toNat * 5)) 1) = some (.int .i64 n12) ∧ (((n10 != n12) = true → R (.returned (.bool false)) w4) ∧ ((n10 != n12) = false → withSome d (fun d13 => (0 ≤ n2 ∧ n2 < (d_n : Nat)) ∧ ∃ (b14 :
    Bool), w4.cell? (Addr.add (Addr.add d13 (n2.toNat * 5)) 3) = some (.bool b14) ∧ withSome i (fun d15 => (0 ≤ n2 ∧ n2 < (i_n : Nat)) ∧ ∃ (b16 : Bool), w4.cell? (Addr.add (Addr.add d15 (n2.toNat * 5)) 3) = some (.bool
    b16) ∧ (((!(b14 == b16)) = true → R (.returned (.bool false)) w4) ∧ ((!(b14 == b16)) = false → withSome d (fun d17 => (0 ≤ n2 ∧ n2 < (d_n : Nat)) ∧ ∃ (n18 : Int), w4.cell? (Addr.add (Addr.add d17 (n2.toNat * 5)) 4) =
    some (.int .i64 n18) ∧ withSome i (fun d19 => (0 ≤ n2 ∧ n2 < (i_n : Nat)) ∧ ∃ (n20 : Int), w4.cell? (Addr.add (Addr.add d19 (n2.toNat * 5)) 4) = some (.int .i64 n20) ∧ (((n18 != n20) = true → R (.returned (.bool
    false)) w4) ∧ ((n18 != n20) = false → withSome d (fun d21 => (0 ≤ n2 ∧ n2 < (d_n : Nat)) ∧ ∃ (a22 : Option Addr) (l22 c22 : Nat), w4.cell? (Addr.add (Addr.add d21 (n2.toNat * 5)) 2) = some (.slice a22 l22 c22) ∧
    withSome i (fun d23 => (0 ≤ n2 ∧ n2 < (i_n : Nat)) ∧ ∃ (a24 : Option Addr) (l24 c24 : Nat), w4.cell? (Addr.add (Addr.add d23 (n2.toNat * 5)) 2) = some (.slice a24 l24 c24) ∧ CallsW Tryz.prog 27 [.slice a22 l22 c22,
    .slice a24 l24 c24] w4 (RetR R fun u26 w25 => ∃ (b27 : Bool), u26 = .bool b27 ∧ SameB w4 w25 [(Addr.add (Addr.add d23 (n2.toNat * 5)) 2), (Addr.add (Addr.add d21 (n2.toNat * 5)) 2), (Addr.add (Addr.add d19 (n2.toNat *
    5)) 4), (Addr.add (Addr.add d17 (n2.toNat * 5)) 4), (Addr.add (Addr.add d15 (n2.toNat * 5)) 3), (Addr.add (Addr.add d13 (n2.toNat * 5)) 3), (Addr.add (Addr.add d11 (n2.toNat * 5)) 1), (Addr.add (Addr.add d9 (n2.toNat
    * 5)) 1), (Addr.add d7 (n2.toNat * 5)), (Addr.add d5 (n2.toNat * 5))] ∧ (((!b27) = true → R (.returned (.bool false)) w25) ∧ ((!b27) = false → (I1 (IntKind.i64.wrap (n2 + 1)) w25 ∧ m1 (IntKind.i64.wrap (n2 + 1)) w25 <
    m1 n2 w3))))))))))))))))))))))) ∧ ((decide (n2 < ((d_n : Nat) : Int))) = false → R (.returned (.bool true)) w3))))
theorem sx20.ok {d : Option Addr} {d_n d_c : Nat} {i : Option Addr} {i_n i_c : Nat} {R : Ending → World → Prop} {w : World} (h : sx20 d d_n d_c i i_n i_c R w) : CallsW Tryz.prog 20 [.slice d d_n d_c, .slice i i_n i_c] w R :=
  callsW_of mix Tryz.func20 (by kernel_rfl) (by kernel_rfl) (Eq.mpr (by kernel_rfl : denFn Tryz.prog { draws := [(6, { order := (.cons 0 (.cons 1 (.cons 2 (.cons 3 (.cons 4 (.cons 5 (.cons 6 (.cons 7 (.cons 8 (.cons 9 (.cons 10 (.cons 11 (.cons 12 (.cons 13 (.cons 14 (.cons 15 (.cons 16 (.cons 17 (.cons 18 (.cons 19 (.cons 20 (.cons 21 (.cons 22 (.cons 23 (.cons 24 (.cons 25 (.cons 26 (.cons 27 (.cons 28 (.cons 29 (.cons 30 (.cons 31 (.cons 32 (.cons 33 (.cons 34 (.cons 35 (.cons 36 (.cons 37 (.cons 38 (.cons 39 (.cons 40 (.cons 41 (.cons 42 (.cons 43 (.cons 44 (.cons 45 (.cons 46 (.cons 47 (.cons 48 (.cons 49 (.cons 50 (.cons 51 (.cons 52 (.cons 53 (.cons 54 (.cons 55 (.cons 56 (.cons 57 (.cons 58 (.cons 59 (.cons 60 (.cons 61 (.cons 62 (.cons 63 .nil)))))))))))))))))))))))))))))))))))))))))))))))))))))))))))))))), bars := [] })], loops := [(4, { slots := [(5, .int .i64)], cells := [] })] } Tryz.f20 [.slice d d_n d_c, .slice i i_n i_c] R w = sx20 d d_n d_c i i_n i_c R w) h)

/- reprise/repriselaw17.small -/
def sx37  (R : Ending → World → Prop) (w : World) : Prop :=
  ∀ w1, Grew w w1 → R (.returned (.agg #[.int .i64 1, .int .i64 2, .int .i64 1, .slice none 0 0, .int .i64 1, .int .i64 2, .int .i64 1, .int .i64 8])) w1
theorem sx37.ok  {R : Ending → World → Prop} {w : World} (h : sx37  R w) : CallsW Tryz.prog 37 [] w R :=
  callsW_of mix Tryz.func37 (by kernel_rfl) (by kernel_rfl) (Eq.mpr (by kernel_rfl : denFn Tryz.prog { locals := [0] } Tryz.f37 [] R w = sx37  R w) h)

/- reprise/repriselaw17.awake -/
def sx8  (R : Ending → World → Prop) (w : World) : Prop :=
  CallsW Tryz.prog 11 [.int .i64 1, .slice none 0 0] w (RetR R fun u2 w1 => ∃ (p3 : Option Addr) (n4 : Int), u2 = .tuple #[.pointer p3, .int .i64 n4] ∧ CallsW Tryz.prog 37 [] w1 (RetR R fun u7 w6 => ∃ (n8 : Int) (n9 : Int)
    (n10 : Int) (a11 : Option Addr) (l11 c11 : Nat) (n12 : Int) (n13 : Int) (n14 : Int) (n15 : Int), u7 = .agg #[.int .i64 n8, .int .i64 n9, .int .i64 n10, .slice a11 l11 c11, .int .i64 n12, .int .i64 n13, .int .i64 n14,
    .int .i64 n15] ∧ CallsW Tryz.prog 9 [.agg #[.int .i64 n8, .int .i64 n9, .int .i64 n10, .slice a11 l11 c11, .int .i64 n12, .int .i64 n13, .int .i64 n14, .int .i64 n15], .int .i64 1] w6 (RetR R fun u18 w17 => ∃ (p19 :
    Option Addr) (n20 : Int), u18 = .tuple #[.pointer p19, .int .i64 n20] ∧ (((Option.isNone p3) = true → R (.returned (.bool false)) w17) ∧ ((Option.isNone p3) = false → (((Option.isNone p19) = true → R (.returned (.bool
    false)) w17) ∧ ((Option.isNone p19) = false → (((n4 != 0) = true → R (.returned (.bool false)) w17) ∧ ((n4 != 0) = false → (((n20 != 0) = true → R (.returned (.bool false)) w17) ∧ ((n20 != 0) = false → CallsW Tryz.prog
    16 [.pointer p3, .int .i64 0, .agg #[.int .u64 1, .float .f64 4617315517961601024]] w17 (RetR R fun u23 w22 => ∃ (n24 : Int), u23 = .int .i64 n24 ∧ CallsW Tryz.prog 16 [.pointer p3, .int .i64 0, .agg #[.int .u64 2,
    .float .f64 4617315517961601024]] w22 (RetR R fun u27 w26 => ∃ (n28 : Int), u27 = .int .i64 n28 ∧ CallsW Tryz.prog 16 [.pointer p3, .int .i64 0, .agg #[.int .u64 1, .float .f64 4618441417868443648]] w26 (RetR R fun u31
    w30 => ∃ (n32 : Int), u31 = .int .i64 n32 ∧ ∀ (b34 : Nat) (w35 : World), Alloc w30 w35 b34 (.cells #[.int .i64 0] 3) → CallsW Tryz.prog 13 [.pointer p19, .pointer p3, .agg #[.int .i64 1, .int .i64 0, .int .i64 1, .int
    .i64 1, .int .i64 4, .int .i64 0, .slice (some ⟨b34, 0, none⟩) 1 1, .slice none 0 0, .slice none 0 0]] w35 (RetR R fun u37 w36 => ∃ (a38 : Option Addr) (l38 c38 : Nat) (n39 : Int), u37 = .tuple #[.slice a38 l38 c38,
    .int .i64 n39] ∧ ∀ (b41 : Nat) (w42 : World), Alloc w36 w42 b41 (.cells #[.int .i64 2] 3) → CallsW Tryz.prog 13 [.pointer p19, .pointer p3, .agg #[.int .i64 3, .int .i64 0, .int .i64 1, .int .i64 1, .int .i64 4, .int
    .i64 0, .slice (some ⟨b41, 0, none⟩) 1 1, .slice none 0 0, .slice none 0 0]] w42 (RetR R fun u44 w43 => ∃ (a45 : Option Addr) (l45 c45 : Nat) (n46 : Int), u44 = .tuple #[.slice a45 l45 c45, .int .i64 n46] ∧ CallsW
    Tryz.prog 13 [.pointer p19, .pointer p3, .agg #[.int .i64 5, .int .i64 3, .int .i64 1, .int .i64 1, .int .i64 4, .int .i64 0, .slice none 0 0, .slice none 0 0, .slice none 0 0]] w43 (RetR R fun u49 w48 => ∃ (a50 :
    Option Addr) (l50 c50 : Nat) (n51 : Int), u49 = .tuple #[.slice a50 l50 c50, .int .i64 n51] ∧ (((n39 == 0) = true → (((n46 == 0) = true → (((n51 == 0) = true → ∀ (b53 : Nat) (w54 : World), Alloc w48 w54 b53 (.cells
    #[.int .i64 2] 3) → ∀ (b55 : Nat) (w56 : World), Alloc w54 w56 b55 (.cells #[.int .i64 2, .int .i64 1, .int .i64 0, .int .i64 1, .int .i64 4, .int .i64 0, .slice (some ⟨b53, 0, none⟩) 1 1, .slice none 0 0, .slice none
    0 0] 48) → CallsW Tryz.prog 15 [.slice a38 l38 c38, .slice (some ⟨b55, 0, none⟩) 1 1] w56 (RetR R fun u58 w57 => ∃ (b59 : Bool), u58 = .bool b59 ∧ ((b59 = true → ∀ (b61 : Nat) (w62 : World), Alloc w57 w62 b61 (.cells
    #[.int .u64 2] 40) → ∀ (b63 : Nat) (w64 : World), Alloc w62 w64 b63 (.cells #[.int .u64 1] 40) → ∀ (b65 : Nat) (w66 : World), Alloc w64 w66 b65 (.cells #[.int .i64 4, .int .i64 1, .int .i64 2, .int .i64 1, .int .i64
    4, .int .i64 0, .slice none 0 0, .slice (some ⟨b61, 0, none⟩) 1 1, .slice none 0 0, .int .i64 4, .int .i64 1, .int .i64 3, .int .i64 1, .int .i64 4, .int .i64 0, .slice none 0 0, .slice (some ⟨b63, 0, none⟩) 1 1,
    .slice none 0 0] 48) → CallsW Tryz.prog 15 [.slice a45 l45 c45, .slice (some ⟨b65, 0, none⟩) 2 2] w66 (RetR R fun u68 w67 => ∃ (b69 : Bool), u68 = .bool b69 ∧ ((b69 = true → ∀ (b71 : Nat) (w72 : World), Alloc w67 w72
    b71 (.cells #[.int .u64 1, .bool true, .int .u64 1] 83) → ∀ (b73 : Nat) (w74 : World), Alloc w72 w74 b73 (.cells #[.int .i64 6, .int .i64 1, .int .i64 3, .int .i64 1, .int .i64 4, .int .i64 0, .slice none 0 0, .slice
    none 0 0, .slice (some ⟨b71, 0, none⟩) 1 1] 48) → CallsW Tryz.prog 15 [.slice a50 l50 c50, .slice (some ⟨b73, 0, none⟩) 1 1] w74 (RetR R fun u76 w75 => ∃ (b77 : Bool), u76 = .bool b77 ∧ ((b77 = true → CallsW Tryz.prog
    21 [.pointer p19] w75 (RetR R fun u80 w79 => ∃ (a81 : Option Addr) (l81 c81 : Nat), u80 = .slice a81 l81 c81 ∧ ∀ (b83 : Nat) (w84 : World), Alloc w79 w84 b83 (.cells #[.int .i64 2] 3) → ∀ (b85 : Nat) (w86 : World),
    Alloc w84 w86 b85 (.cells #[.int .i64 1, .int .i64 4, .slice (some ⟨b83, 0, none⟩) 1 1, .bool true, .int .i64 0] 74) → CallsW Tryz.prog 20 [.slice a81 l81 c81, .slice (some ⟨b85, 0, none⟩) 1 1] w86 (RetR R fun u88 w87
    => ∃ (b89 : Bool), u88 = .bool b89 ∧ R (.returned (.bool b89)) w87))) ∧ (b77 = false → R (.returned (.bool false)) w75)))) ∧ (b69 = false → R (.returned (.bool false)) w67)))) ∧ (b59 = false → R (.returned (.bool
    false)) w57)))) ∧ ((n51 == 0) = false → R (.returned (.bool false)) w48))) ∧ ((n46 == 0) = false → R (.returned (.bool false)) w48))) ∧ ((n39 == 0) = false → R (.returned (.bool false)) w48)))))))))))))))))))
theorem sx8.ok  {R : Ending → World → Prop} {w : World} (h : sx8  R w) : CallsW Tryz.prog 8 [] w R :=
  callsW_of mix Tryz.func8 (by kernel_rfl) (by kernel_rfl) (Eq.mpr (by kernel_rfl : denFn Tryz.prog {} Tryz.f8 [] R w = sx8  R w) h)

theorem u64cell {w : World} {d : Addr} {k : Nat} {x : Int} (h : CellsAt w (d.add (k * (Enc.int .u64).sz)) 0 ((Enc.int .u64).f x)) : w.cell? (Addr.add d (((k : Nat) : Int).toNat * 1)) = some (.int .u64 x) := by
  have := cellsAt_get h 0 _ rfl
  simpa [Enc.int, Addr.add_zero'] using this
theorem ints_ok {a b : Option Addr} {n c m d : Nat} {l r : List Int} {w : World} (hr : Reads w (Enc.int .i64) (a, n, c) l) (hi : Reads w (Enc.int .i64) (b, m, d) r) (hl : l.length ≤ 9223372036854775806) :
    CallsW Tryz.prog 27 [.slice a n c, .slice b m d] w (Rets fun u w' => u = .bool (decide (l = r)) ∧ Grew w w') := by
  refine sx27.ok ?_
  unfold sx27
  have hn : n = l.length := hr.2.1
  subst hn
  have hm : m = r.length := hi.2.1
  subst hm
  refine ⟨fun hne => ⟨_, rfl, ?_, Grew.refl _⟩, fun heq => ?_⟩
  · have : ¬ l = r := fun e => by rw [e] at hne; simp at hne
    rw [decide_eq_false this]
  have hlen : l.length = r.length := by simp at heq; omega
  refine ⟨fun i w' => ∃ k : Nat, i = k ∧ k ≤ l.length ∧ l.take k = r.take k ∧ Grew w w', fun i _ => l.length - i.toNat, ⟨0, rfl, Nat.zero_le _, rfl, Grew.refl _⟩, ?_⟩
  rintro n2 w3 ⟨k, rfl, hk, hall, hg3⟩
  refine ⟨fun hlt => ?_, fun hge => ?_⟩
  · simp only [decide_eq_true_eq] at hlt
    obtain ⟨d1, e, rfl, he, hc⟩ := (hr.grew hg3).at0 (k := k) (by omega)
    obtain ⟨d2, f, rfl, hf, hc2⟩ := (hi.grew hg3).at0 (k := k) (by omega)
    have hw : IntKind.i64.wrap ((k : Int) + 1) = ((k + 1 : Nat) : Int) := by rw [IntKind.wrap_i64]; omega
    refine ⟨⟨by omega, by omega⟩, _, i64cell hc, ⟨by omega, by omega⟩, _, i64cell hc2, fun w8 hg8 => ⟨fun hne => ⟨_, rfl, ?_, hg3.trans hg8⟩, fun h1 => ⟨⟨k + 1, hw, by omega, ?_, hg3.trans hg8⟩, by simp only [hw]; omega⟩⟩⟩
    · have : ¬ l = r := fun e' => by rw [e', hf] at he; cases he; simp at hne
      rw [decide_eq_false this]
    · have : e = f := by simpa using h1
      rw [take_snoc he, take_snoc hf, hall, this]
  · simp only [decide_eq_false_iff_not] at hge
    refine ⟨_, rfl, ?_, hg3⟩
    rw [List.take_of_length_le (by omega), List.take_of_length_le (by omega)] at hall
    rw [decide_eq_true hall]
theorem keys_okW {a b : Option Addr} {n c m d : Nat} {l r : List Int} {w : World} (hr : Reads w (Enc.int .u64) (a, n, c) l) (hi : Reads w (Enc.int .u64) (b, m, d) r) (hl : l.length ≤ 9223372036854775806) :
    CallsW Tryz.prog 29 [.slice a n c, .slice b m d] w (Rets fun u w' => u = .bool (decide (l = r)) ∧ Grew w w') := by
  refine sx29.ok ?_
  unfold sx29
  have hn : n = l.length := hr.2.1
  subst hn
  have hm : m = r.length := hi.2.1
  subst hm
  refine ⟨fun hne => ⟨_, rfl, ?_, Grew.refl _⟩, fun heq => ?_⟩
  · have : ¬ l = r := fun e => by rw [e] at hne; simp at hne
    rw [decide_eq_false this]
  have hlen : l.length = r.length := by simp at heq; omega
  refine ⟨fun i w' => ∃ k : Nat, i = k ∧ k ≤ l.length ∧ l.take k = r.take k ∧ Grew w w', fun i _ => l.length - i.toNat, ⟨0, rfl, Nat.zero_le _, rfl, Grew.refl _⟩, ?_⟩
  rintro n2 w3 ⟨k, rfl, hk, hall, hg3⟩
  refine ⟨fun hlt => ?_, fun hge => ?_⟩
  · simp only [decide_eq_true_eq] at hlt
    obtain ⟨d1, e, rfl, he, hc⟩ := (hr.grew hg3).at0 (k := k) (by omega)
    obtain ⟨d2, f, rfl, hf, hc2⟩ := (hi.grew hg3).at0 (k := k) (by omega)
    have hw : IntKind.i64.wrap ((k : Int) + 1) = ((k + 1 : Nat) : Int) := by rw [IntKind.wrap_i64]; omega
    refine ⟨⟨by omega, by omega⟩, _, u64cell hc, ⟨by omega, by omega⟩, _, u64cell hc2, fun w8 hg8 => ⟨fun hne => ⟨_, rfl, ?_, hg3.trans hg8⟩, fun h1 => ⟨⟨k + 1, hw, by omega, ?_, hg3.trans hg8⟩, by simp only [hw]; omega⟩⟩⟩
    · have : ¬ l = r := fun e' => by rw [e', hf] at he; cases he; simp at hne
      rw [decide_eq_false this]
    · have : e = f := by simpa using h1
      rw [take_snoc he, take_snoc hf, hall, this]
  · simp only [decide_eq_false_iff_not] at hge
    refine ⟨_, rfl, ?_, hg3⟩
    rw [List.take_of_length_le (by omega), List.take_of_length_le (by omega)] at hall
    rw [decide_eq_true hall]
def pairEqbW (x y : PairV) : Bool := (x.key == y.key) && ((x.has == y.has && (x.bits == y.bits && true)) && true)
theorem pairEqbW_iff (x y : PairV) : pairEqbW x y = decide (x = y) := by
  rw [Bool.eq_iff_iff, decide_eq_true_eq]
  unfold pairEqbW
  cases x; cases y
  simp
theorem pair_neqW {x y : PairV} {p q : Operand} : PureTo Tryz.prog (eqS .neq 83 p q (.agg #[.int .u64 x.key, .bool x.has, .int .u64 x.bits]) (.agg #[.int .u64 y.key, .bool y.has, .int .u64 y.bits])) (.bool (!decide (x = y))) := by
  rw [← pairEqbW_iff]
  exact eqS_neq (b := pairEqbW x y) (by kernel_rfl) (by kernel_rfl)
theorem pairs_okW {a b : Option Addr} {n c m d : Nat} {l r : List PairV} {w : World} (ha : Reads w Enc.pair (a, n, c) l) (hb : Reads w Enc.pair (b, m, d) r) (hl : l.length ≤ 9223372036854775806) :
    CallsW Tryz.prog 28 [.slice a n c, .slice b m d] w (Rets fun v w' => v = .bool (decide (l = r)) ∧ Grew w w') := by
  refine sx28.ok ?_
  unfold sx28
  have hn : n = l.length := ha.2.1
  have hm : m = r.length := hb.2.1
  subst hn; subst hm
  refine ⟨fun h => ⟨_, rfl, ?_, Grew.refl _⟩, fun h => ?_⟩
  · congr 1; symm; rw [decide_eq_false_iff_not]; rintro rfl; simp at h
  have hlr : l.length = r.length := by simp at h; omega
  refine ⟨fun i w' => ∃ k : Nat, i = k ∧ k ≤ l.length ∧ l.take k = r.take k ∧ Grew w w', fun i _ => l.length - i.toNat, ⟨0, rfl, Nat.zero_le _, rfl, Grew.refl _⟩, ?_⟩
  rintro i w3 ⟨k, rfl, hk, ht, hg3⟩
  refine ⟨fun hlt => ?_, fun hge => ?_⟩
  · simp only [decide_eq_true_eq] at hlt
    obtain ⟨da, x, rfl, hx, hxc⟩ := (ha.grew hg3).at0 (k := k) (by omega)
    obtain ⟨db, y, rfl, hy, hyc⟩ := (hb.grew hg3).at0 (k := k) (by omega)
    have hw : IntKind.i64.wrap ((k : Int) + 1) = ((k + 1 : Nat) : Int) := by rw [IntKind.wrap_i64]; omega
    rw [hw]
    refine ⟨⟨by omega, by omega⟩, _, _, _, (pair_cells hxc).1, ⟨by omega, by omega⟩, _, _, _, (pair_cells hyc).1, _, pair_neqW, fun w13 hg13 => ⟨fun hne => ⟨_, rfl, ?_, hg3.trans hg13⟩, fun heq => ⟨⟨k + 1, rfl, by omega, ?_, hg3.trans hg13⟩, by show l.length - (((k + 1 : Nat) : Int)).toNat < l.length - ((k : Int)).toNat; omega⟩⟩⟩
    · congr 1; symm; rw [decide_eq_false_iff_not]; rintro rfl
      rw [hx] at hy; cases hy; simp at hne
    · have : x = y := by simpa using heq
      rw [take_snoc hx, take_snoc hy, ht, this]
  · simp only [decide_eq_false_iff_not] at hge
    rw [List.take_of_length_le (by omega), List.take_of_length_le (by omega)] at ht
    exact ⟨_, rfl, by rw [ht]; simp, hg3⟩
def MRead (w : World) (a : Option Addr) (n c : Nat) (xs : List Msg) : Prop := Reads w Enc.msg (a, n, c) xs ∧ ∀ x ∈ xs, x.At w ∧ x.c.ends.length ≤ 1048576 ∧ x.c.keys.length ≤ 1048576 ∧ x.c.pairs.length ≤ 1048576
theorem MRead.grew {w w' : World} {a : Option Addr} {n c : Nat} {xs : List Msg} (h : MRead w a n c xs) (hg : Grew w w') : MRead w' a n c xs := ⟨h.1.grew hg, fun x hx => ⟨(h.2 x hx).1.grew hg, (h.2 x hx).2⟩⟩
theorem msgs_ok {a b : Option Addr} {n c m d : Nat} {xs ys : List Msg} {w : World} (hx : MRead w a n c xs) (hy : MRead w b m d ys) (he : xs.map (·.c) = ys.map (·.c)) (hl : xs.length ≤ 1048576) :
    CallsW Tryz.prog 15 [.slice a n c, .slice b m d] w (Rets fun u w' => u = .bool true ∧ Grew w w') := by
  refine sx15.ok ?_
  unfold sx15
  have hn : n = xs.length := hx.1.2.1
  subst hn
  have hm : m = ys.length := hy.1.2.1
  subst hm
  have hlen : xs.length = ys.length := by have := congrArg List.length he; simpa using this
  refine ⟨fun hne => ?_, fun _ => ?_⟩
  · rw [hlen] at hne; simp at hne
  refine ⟨fun i w' => ∃ k : Nat, i = k ∧ k ≤ xs.length ∧ Grew w w', fun i _ => xs.length - i.toNat, ⟨0, rfl, Nat.zero_le _, Grew.refl _⟩, ?_⟩
  rintro n2 w3 ⟨k, rfl, hk, hg3⟩
  refine ⟨fun hlt => ?_, fun _ => ⟨_, rfl, rfl, hg3⟩⟩
  simp only [decide_eq_true_eq] at hlt
  have hw : IntKind.i64.wrap ((k : Int) + 1) = ((k + 1 : Nat) : Int) := by rw [IntKind.wrap_i64]; omega
  obtain ⟨d1, x, rfl, hxk, hxc⟩ := (hx.grew hg3).1.at0 (k := k) (by omega)
  have hxa := (hx.grew hg3).2 x (List.mem_of_getElem? hxk)
  refine ⟨⟨by omega, by omega⟩, _, _, _, _, _, _, _, _, _, _, _, _, _, _, _, hxc, fun w14 hg14 => ?_⟩
  obtain ⟨d2, y, rfl, hyk, hyc⟩ := (hy.grew (hg3.trans hg14)).1.at0 (k := k) (by omega)
  have hya := (hy.grew (hg3.trans hg14)).2 y (List.mem_of_getElem? hyk)
  have hc : x.c = y.c := by
    have h1 : (xs.map (·.c))[k]? = some x.c := by rw [List.getElem?_map, hxk]; rfl
    have h2 : (ys.map (·.c))[k]? = some y.c := by rw [List.getElem?_map, hyk]; rfl
    rw [he, h2] at h1; exact (Option.some.inj h1).symm
  have hxa14 := hxa.1.grew hg14
  refine ⟨⟨by omega, by omega⟩, _, _, _, _, _, _, _, _, _, _, _, _, _, _, _, hyc, fun w25 hg25 => ?_⟩
  have X := hxa14.grew hg25
  have Y := hya.1.grew hg25
  rw [hc]
  refine ⟨fun h => (by simp at h), fun _ => ⟨fun h => (by simp at h), fun _ => ⟨fun h => (by simp at h), fun _ => ⟨fun h => (by simp at h), fun _ => ⟨fun h => (by simp at h), fun _ => ⟨fun h => (by simp at h), fun _ => ?_⟩⟩⟩⟩⟩⟩
  refine (ints_ok X.e Y.e (by omega)).use fun u w26 ⟨hv, hg26⟩ => ?_
  subst hv
  refine ⟨_, rfl, fun h => (by rw [hc] at h; simp at h), fun _ => (keys_okW (X.k.grew hg26) (Y.k.grew hg26) (by omega)).use fun u w30 ⟨hv, hg30⟩ => ?_⟩
  subst hv
  refine ⟨_, rfl, fun h => (by rw [hc] at h; simp at h), fun _ => (pairs_okW ((X.p.grew hg26).grew hg30) ((Y.p.grew hg26).grew hg30) (by omega)).use fun u w34 ⟨hv, hg34⟩ => ?_⟩
  subst hv
  exact ⟨_, rfl, fun h => (by rw [hc] at h; simp at h), fun _ => ⟨⟨k + 1, hw, by omega, hg3.trans (hg14.trans (hg25.trans (hg26.trans (hg30.trans hg34))))⟩, by simp only [hw]; omega⟩⟩
def HRead (w : World) (a : Option Addr) (n c : Nat) (xs : List HeldX) : Prop := Reads w Enc.held (a, n, c) xs ∧ ∀ x ∈ xs, Reads w (Enc.int .i64) x.e x.c.ends ∧ x.c.ends.length ≤ 1048576
theorem HRead.grew {w w' : World} {a : Option Addr} {n c : Nat} {xs : List HeldX} (h : HRead w a n c xs) (hg : Grew w w') : HRead w' a n c xs := ⟨h.1.grew hg, fun x hx => ⟨(h.2 x hx).1.grew hg, (h.2 x hx).2⟩⟩
theorem held_cells {w : World} {d : Addr} {k : Nat} {x : HeldX} (h : CellsAt w (d.add (k * Enc.held.sz)) 0 (Enc.held.f x)) :
    w.cell? (Addr.add d (((k : Nat) : Int).toNat * 5)) = some (.int .i64 x.c.batch) ∧ w.cell? (Addr.add (Addr.add d (((k : Nat) : Int).toNat * 5)) 1) = some (.int .i64 x.c.att) ∧ w.cell? (Addr.add (Addr.add d (((k : Nat) : Int).toNat * 5)) 2) = some (.slice x.e.1 x.e.2.1 x.e.2.2) ∧
    w.cell? (Addr.add (Addr.add d (((k : Nat) : Int).toNat * 5)) 3) = some (.bool x.c.begun) ∧ w.cell? (Addr.add (Addr.add d (((k : Nat) : Int).toNat * 5)) 4) = some (.int .i64 x.c.applied) := by
  have h0 := cellsAt_get h 0 _ rfl
  have h1 := cellsAt_get h 1 _ rfl
  have h2 := cellsAt_get h 2 _ rfl
  have h3 := cellsAt_get h 3 _ rfl
  have h4 := cellsAt_get h 4 _ rfl
  exact ⟨by simpa [Enc.held, Addr.add_zero'] using h0, by simpa [Enc.held] using h1, by simpa [Enc.held] using h2, by simpa [Enc.held] using h3, by simpa [Enc.held] using h4⟩
set_option maxHeartbeats 1000000 in
theorem held_ok {a b : Option Addr} {n c m d : Nat} {xs ys : List HeldX} {w : World} (hx : HRead w a n c xs) (hy : HRead w b m d ys) (he : xs.map (·.c) = ys.map (·.c)) (hl : xs.length ≤ 1048576) :
    CallsW Tryz.prog 20 [.slice a n c, .slice b m d] w (Rets fun u w' => u = .bool true ∧ Grew w w') := by
  refine sx20.ok ?_
  unfold sx20
  have hn : n = xs.length := hx.1.2.1
  subst hn
  have hm : m = ys.length := hy.1.2.1
  subst hm
  have hlen : xs.length = ys.length := by have := congrArg List.length he; simpa using this
  refine ⟨fun hne => ?_, fun _ => ?_⟩
  · rw [hlen] at hne; simp at hne
  refine ⟨fun i w' => ∃ k : Nat, i = k ∧ k ≤ xs.length ∧ Grew w w', fun i _ => xs.length - i.toNat, ⟨0, rfl, Nat.zero_le _, Grew.refl _⟩, ?_⟩
  rintro n2 w3 ⟨k, rfl, hk, hg3⟩
  refine ⟨fun hlt w4 hg4 => ?_, fun _ => ⟨_, rfl, rfl, hg3⟩⟩
  simp only [decide_eq_true_eq] at hlt
  have hw : IntKind.i64.wrap ((k : Int) + 1) = ((k + 1 : Nat) : Int) := by rw [IntKind.wrap_i64]; omega
  have hg := hg3.trans hg4
  obtain ⟨d1, x, rfl, hxk, hxc⟩ := (hx.grew hg).1.at0 (k := k) (by omega)
  obtain ⟨d2, y, rfl, hyk, hyc⟩ := (hy.grew hg).1.at0 (k := k) (by omega)
  have hxa := (hx.grew hg).2 x (List.mem_of_getElem? hxk)
  have hya := (hy.grew hg).2 y (List.mem_of_getElem? hyk)
  have hc : x.c = y.c := by
    have h1 : (xs.map (·.c))[k]? = some x.c := by rw [List.getElem?_map, hxk]; rfl
    have h2 : (ys.map (·.c))[k]? = some y.c := by rw [List.getElem?_map, hyk]; rfl
    rw [he, h2] at h1; exact (Option.some.inj h1).symm
  obtain ⟨x0, x1, x2, x3, x4⟩ := held_cells hxc
  obtain ⟨y0, y1, y2, y3, y4⟩ := held_cells hyc
  rw [hc] at x0 x1 x3 x4
  have bd : (0 : Int) ≤ (k : Int) ∧ (k : Int) < (xs.length : Nat) := ⟨by omega, by omega⟩
  have be : (0 : Int) ≤ (k : Int) ∧ (k : Int) < (ys.length : Nat) := ⟨by omega, by omega⟩
  refine ⟨bd, _, x0, be, _, y0, fun h => (by simp at h), fun _ => ⟨bd, _, x1, be, _, y1, fun h => (by simp at h), fun _ => ⟨bd, _, x3, be, _, y3, fun h => (by simp at h), fun _ => ⟨bd, _, x4, be, _, y4, fun h => (by simp at h), fun _ => ⟨bd, _, _, _, x2, be, _, _, _, y2, ?_⟩⟩⟩⟩⟩
  refine (ints_ok hxa.1 hya.1 (by omega)).use fun u w25 ⟨hv, hg25⟩ => ?_
  subst hv
  have b1 := hg25.block _ (World.block_lt_of_cell? w4 _ x0)
  have b2 := hg25.block _ (World.block_lt_of_cell? w4 _ y0)
  simp only [add_block] at b1 b2
  refine ⟨_, rfl, by simp [SameB, add_block, b1, b2], fun h => (by rw [hc] at h; simp at h), fun _ => ⟨⟨k + 1, hw, by omega, hg.trans hg25⟩, by simp only [hw]; omega⟩⟩
end Go.Proofs.YtcpkneemhfnanaaGreat
