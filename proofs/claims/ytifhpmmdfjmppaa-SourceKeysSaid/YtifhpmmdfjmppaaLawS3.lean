/- SourceKeys: what it computes, and its row. Conditions: none. -/
import Derived.Test.YtifhpmmdfjmppaaProg
import Derived.Test.YtifhpmmdfjmppaaKindsS
import Derived.Test.YtifhpmmdfjmppaaRows
namespace Go.Proofs.Ytifhpmmdfjmppaa
open Go.Sx
set_option maxRecDepth 100000
set_option linter.unusedVariables false
set_option linter.unusedSimpArgs false
/- reprise/repriselaw06.SourceKeys -/
def sx4 (d : Option Addr) (d_n d_c : Nat) (i : Option Addr) (i_n i_c : Nat) (R : Ending → World → Prop) (w : World) : Prop :=
  CallsW Try.prog 7 [] w (RetR R fun u2 w1 => ∃ (b3 : Bool), u2 = .bool b3 ∧ (((!b3) = true → R (.returned (.bool false)) w1) ∧ ((!b3) = false → CallsW Try.prog 17 [.slice d d_n d_c, .slice i i_n i_c] w1 (RetR R fun u6 w5
    => ∃ (p7 : Option Addr), u6 = .pointer p7 ∧ (((Option.isNone p7) = true → CallsW Try.prog 9 [.slice d d_n d_c] w5 (RetR R fun u10 w9 => ∃ (n11 : Int), u10 = .int .i64 n11 ∧ R (.returned (.bool (n11 != 0))) w9)) ∧
    ((Option.isNone p7) = false → CallsW Try.prog 11 [.pointer p7] w5 (RetR R fun u14 w13 => ∃ (a15 : Option Addr) (l15 c15 : Nat), u14 = .slice a15 l15 c15 ∧ SemW Try.prog (Instr.makeSlice 49 (.int .i64 ((l15 : Nat) :
    Int)) (.int .i64 ((l15 : Nat) : Int))) (fun u18 w17 => ∃ (a19 : Option Addr) (l19 c19 : Nat), u18 = .slice a19 l19 c19 ∧ ∃ (I20 : Int → World → Prop) (m20 : Int → World → Nat), I20 1 w17 ∧ ∀ (n21 : Int) (w22 : World),
    I20 n21 w22 → (((decide (n21 < ((l15 : Nat) : Int))) = true → withSome a15 (fun d23 => (0 ≤ n21 ∧ n21 < (l15 : Nat)) ∧ ∃ (n24 : Int), w22.cell? (Addr.add d23 (n21.toNat * 1)) = some (.int .u64 n24) ∧ withSome a15 (fun
    d25 => (0 ≤ (IntKind.i64.wrap (n21 - 1)) ∧ (IntKind.i64.wrap (n21 - 1)) < (l15 : Nat)) ∧ ∃ (n26 : Int), w22.cell? (Addr.add d25 ((IntKind.i64.wrap (n21 - 1)).toNat * 1)) = some (.int .u64 n26) ∧ ∀ w27, Grew w22 w27 →
    (((decide (n24 ≤ n26)) = true → R (.returned (.bool false)) w27) ∧ ((decide (n24 ≤ n26)) = false → (I20 (IntKind.i64.wrap (n21 + 1)) w27 ∧ m20 (IntKind.i64.wrap (n21 + 1)) w27 < m20 n21 w22)))))) ∧ ((decide (n21 <
    ((l15 : Nat) : Int))) = false → ∃ (I28 : Int → World → Prop) (m28 : Int → World → Nat), I28 0 w22 ∧ ∀ (n29 : Int) (w30 : World), I28 n29 w30 → (((decide (n29 < 2)) = true → CallsW Try.prog 15 [.pointer p7, .int .i64
    n29] w30 (RetR R fun u32 w31 => ∃ (a33 : Option Addr) (l33 c33 : Nat), u32 = .slice a33 l33 c33 ∧ ∃ (I35 : Int → World → Prop) (m35 : Int → World → Nat), I35 0 w31 ∧ ∀ (n36 : Int) (w37 : World), I35 n36 w37 →
    (((decide (n36 < ((l33 : Nat) : Int))) = true → withSome a33 (fun d38 => (0 ≤ n36 ∧ n36 < (l33 : Nat)) ∧ ∃ (n39 : Int) (x40 : Nat), CellsAt w37 (Addr.add d38 (n36.toNat * 2)) 0 [.int .u64 n39, .float .f64 x40] ∧
    CallsW Try.prog 12 [.slice d d_n d_c, .agg #[.int .u64 n39, .float .f64 x40]] w37 (RetR R fun u42 w41 => ∃ (n43 : Int) (b44 : Bool), u42 = .tuple #[.int .u64 n43, .bool b44] ∧ ∃ (I46 : Int → World → Prop) (m46 : Int →
    World → Nat), I46 0 w41 ∧ ∀ (n47 : Int) (w48 : World), I46 n47 w48 → (((decide (n47 < ((l15 : Nat) : Int))) = true → withSome a15 (fun d49 => (0 ≤ n47 ∧ n47 < (l15 : Nat)) ∧ ∃ (n50 : Int), w48.cell? (Addr.add d49
    (n47.toNat * 1)) = some (.int .u64 n50) ∧ (((decide (n50 < n43)) = true → (I46 (IntKind.i64.wrap (n47 + 1)) w48 ∧ m46 (IntKind.i64.wrap (n47 + 1)) w48 < m46 n47 w48)) ∧ ((decide (n50 < n43)) = false → ((b44 = true →
    (((n47 == ((l15 : Nat) : Int)) = true → R (.returned (.bool false)) w48) ∧ ((n47 == ((l15 : Nat) : Int)) = false → withSome a15 (fun d51 => (0 ≤ n47 ∧ n47 < (l15 : Nat)) ∧ ∃ (n52 : Int), w48.cell? (Addr.add d51
    (n47.toNat * 1)) = some (.int .u64 n52) ∧ (((n52 != n43) = true → R (.returned (.bool false)) w48) ∧ ((n52 != n43) = false → ((b44 = true → withSome a19 (fun d53 => (0 ≤ n47 ∧ n47 < (l19 : Nat)) ∧ RoomAt w48 (Addr.add
    d53 (n47.toNat * 1)) 0 [.bool true] ∧ ∀ w54, w54 = setCells w48 (Addr.add d53 (n47.toNat * 1)) 0 [.bool true] → (I35 (IntKind.i64.wrap (n36 + 1)) w54 ∧ m35 (IntKind.i64.wrap (n36 + 1)) w54 < m35 n36 w37))) ∧ (b44 =
    false → (I35 (IntKind.i64.wrap (n36 + 1)) w48 ∧ m35 (IntKind.i64.wrap (n36 + 1)) w48 < m35 n36 w37))))))))) ∧ (b44 = false → ((b44 = true → withSome a19 (fun d55 => (0 ≤ n47 ∧ n47 < (l19 : Nat)) ∧ RoomAt w48 (Addr.add
    d55 (n47.toNat * 1)) 0 [.bool true] ∧ ∀ w56, w56 = setCells w48 (Addr.add d55 (n47.toNat * 1)) 0 [.bool true] → (I35 (IntKind.i64.wrap (n36 + 1)) w56 ∧ m35 (IntKind.i64.wrap (n36 + 1)) w56 < m35 n36 w37))) ∧ (b44 =
    false → (I35 (IntKind.i64.wrap (n36 + 1)) w48 ∧ m35 (IntKind.i64.wrap (n36 + 1)) w48 < m35 n36 w37))))))))) ∧ ((decide (n47 < ((l15 : Nat) : Int))) = false → ((b44 = true → (((n47 == ((l15 : Nat) : Int)) = true → R
    (.returned (.bool false)) w48) ∧ ((n47 == ((l15 : Nat) : Int)) = false → withSome a15 (fun d57 => (0 ≤ n47 ∧ n47 < (l15 : Nat)) ∧ ∃ (n58 : Int), w48.cell? (Addr.add d57 (n47.toNat * 1)) = some (.int .u64 n58) ∧ (((n58
    != n43) = true → R (.returned (.bool false)) w48) ∧ ((n58 != n43) = false → ((b44 = true → withSome a19 (fun d59 => (0 ≤ n47 ∧ n47 < (l19 : Nat)) ∧ RoomAt w48 (Addr.add d59 (n47.toNat * 1)) 0 [.bool true] ∧ ∀ w60, w60
    = setCells w48 (Addr.add d59 (n47.toNat * 1)) 0 [.bool true] → (I35 (IntKind.i64.wrap (n36 + 1)) w60 ∧ m35 (IntKind.i64.wrap (n36 + 1)) w60 < m35 n36 w37))) ∧ (b44 = false → (I35 (IntKind.i64.wrap (n36 + 1)) w48 ∧ m35
    (IntKind.i64.wrap (n36 + 1)) w48 < m35 n36 w37))))))))) ∧ (b44 = false → ((b44 = true → withSome a19 (fun d61 => (0 ≤ n47 ∧ n47 < (l19 : Nat)) ∧ RoomAt w48 (Addr.add d61 (n47.toNat * 1)) 0 [.bool true] ∧ ∀ w62, w62 =
    setCells w48 (Addr.add d61 (n47.toNat * 1)) 0 [.bool true] → (I35 (IntKind.i64.wrap (n36 + 1)) w62 ∧ m35 (IntKind.i64.wrap (n36 + 1)) w62 < m35 n36 w37))) ∧ (b44 = false → (I35 (IntKind.i64.wrap (n36 + 1)) w48 ∧ m35
    (IntKind.i64.wrap (n36 + 1)) w48 < m35 n36 w37)))))))))) ∧ ((decide (n36 < ((l33 : Nat) : Int))) = false → (I28 (IntKind.i64.wrap (n29 + 1)) w37 ∧ m28 (IntKind.i64.wrap (n29 + 1)) w37 < m28 n29 w30))))) ∧ ((decide
    (n29 < 2)) = false → ∃ (I63 : Int → World → Prop) (m63 : Int → World → Nat), I63 0 w30 ∧ ∀ (n64 : Int) (w65 : World), I63 n64 w65 → (((decide (n64 < ((l19 : Nat) : Int))) = true → withSome a19 (fun d66 => (0 ≤ n64 ∧
    n64 < (l19 : Nat)) ∧ ∃ (b67 : Bool), w65.cell? (Addr.add d66 (n64.toNat * 1)) = some (.bool b67) ∧ (((!b67) = true → R (.returned (.bool false)) w65) ∧ ((!b67) = false → (I63 (IntKind.i64.wrap (n64 + 1)) w65 ∧ m63
    (IntKind.i64.wrap (n64 + 1)) w65 < m63 n64 w65))))) ∧ ((decide (n64 < ((l19 : Nat) : Int))) = false → R (.returned (.bool true)) w65))))))) w13)))))))
theorem sx4.ok {d : Option Addr} {d_n d_c : Nat} {i : Option Addr} {i_n i_c : Nat} {R : Ending → World → Prop} {w : World} (h : sx4 d d_n d_c i i_n i_c R w) : CallsW Try.prog 4 [.slice d d_n d_c, .slice i i_n i_c] w R :=
  callsW_of mix Try.func4 (by kernel_rfl) (by kernel_rfl) (Eq.mpr (by kernel_rfl : denFn Try.prog { sem := [30], loops := [(9, { slots := [(8, .int .i64)], cells := [] }), (22, { slots := [(14, .int .i64)], cells := [] }), (29, { slots := [(15, .int .i64)], cells := [] }), (1018, { slots := [(11, .int .i64)], cells := [] }), (2014, { slots := [(9, .int .i64)], cells := [] })] } Try.f4 [.slice d d_n d_c, .slice i i_n i_c] R w = sx4 d d_n d_c i i_n i_c R w) h)


theorem elBool : ∀ n : Nat, n ≤ 64 → True := fun _ _ => trivial

/-- where a key stands among rising ones -/
theorem place_of {ks : List Int} {key : Int} (hs : ks.Pairwise (· < ·)) (hin : key ∈ ks) {at_ : Nat} (hlo : ∀ (j : Nat) z, j < at_ → ks[j]? = some z → z < key) (hhi : ∀ z, ks[at_]? = some z → ¬ z < key) : ks[at_]? = some key := by
  obtain ⟨j, hj⟩ := List.getElem?_of_mem hin
  have h1 := List.pairwise_iff_getElem.1 hs
  have hjl := (List.getElem?_eq_some_iff.1 hj).1
  rcases Nat.lt_trichotomy j at_ with h | h | h
  · have := hlo j key h hj; omega
  · rw [← h]; exact hj
  · have hal : at_ < ks.length := by omega
    have h2 := hhi ks[at_] (List.getElem?_eq_getElem hal)
    have h3 := h1 at_ j hal hjl h
    rw [List.getElem?_eq_getElem hjl] at hj
    rw [Option.some.inj hj] at h3
    omega

set_option maxHeartbeats 2000000 in
theorem SourceKeys_ok {a b : Option Addr} {n c m d : Nat} {l : List OpV} {its : List ItemV} {w : World} (hr : Reads w Enc.op3 (a, n, c) l) (hl : ∀ o ∈ l, o.Fits) (hn : l.length ≤ maxLen) (hb : l.length * 24 ≤ 140737488351232)
    (hi : Reads w Enc.item (b, m, d) its) (hf : ∀ x ∈ its, x.Fits) (hni : its.length ≤ maxLen) (hbi : its.length * 24 ≤ 140737488351232) :
    CallsW Try.prog 4 [.slice a n c, .slice b m d] w (Rets fun v w' => v = .bool true ∧ Grew w w') := by
  refine sx4.ok ?_
  unfold sx4
  refine awakeS_ok.use fun v w1 ⟨hv, hg1⟩ => ?_
  subst hv
  refine ⟨_, rfl, fun h => (by cases h), fun _ => ?_⟩
  refine (filled_ok (hr.grew hg1) hl (hi.grew hg1) hf).use fun v w5 ⟨hg5, hv⟩ => ?_
  have hg5' := hg1.trans hg5
  rcases hv with ⟨hc, hv⟩ | ⟨hc, x, hv, hS⟩
  · subst hv
    refine ⟨_, rfl, fun _ => (Check_ok (hr.grew hg5')).use fun v w9 ⟨hv, hg9⟩ => ?_, fun h => (by cases h)⟩
    subst hv
    rw [hc]
    exact ⟨_, rfl, _, rfl, rfl, hg5'.trans hg9⟩
  subst hv
  obtain ⟨-, hK, hvl, hv2⟩ := fill_inv l hl hc (its.take 4096) (fun x hx => hf x (List.mem_of_mem_take hx)) _ (new_fits (n := 2) hl hc (by omega) (by omega)) (keysOk_new _ _) ⟨rfl, by simp [srcNew]⟩
  have hK : (fillV l (its.take 4096)).KeysOk := hK
  have hvl : (fillV l (its.take 4096)).list = l := hvl
  have hv2 : (fillV l (its.take 4096)).parts.length = 2 := hv2
  generalize fillV l (its.take 4096) = v at hS hK hvl hv2
  unfold SrcV.KeysOk at hK
  rw [hvl] at hK
  refine ⟨_, rfl, fun h => (by cases h), fun _ => ?_⟩
  refine (SKeys_ok hS).use fun u w13 ⟨a15, l15, c15, hv, ho13, hg13⟩ => ?_
  subst hv
  obtain ⟨ks, hks⟩ : ∃ ks, ks = sortL v.keys := ⟨_, rfl⟩
  have hkl : ks.length = v.keys.length := by rw [hks, sortL_len]
  have hk64 := hS.fits.keys.2.1
  have hst : ks.Pairwise (· < ·) := by rw [hks]; exact sortL_strict hS.fits.keys.1
  have hmem : ∀ k, k ∈ ks ↔ ∃ q ∈ v.parts, ∃ r ∈ q.1, keyOfB l r = (k, true) := fun k => by rw [hks, sortL_mem]; exact hK k
  rw [← hks] at ho13
  have hl15 : l15 = ks.length := ho13.len
  subst hl15
  have hS13 := hS.grew hg13
  have hg13' := hg5'.trans hg13
  refine ⟨_, _, _, rfl, make_own (e := 4) (E := Enc.boolE) (x := false) (z := .bool false) (bytes := 1) (by kernel_rfl) (by kernel_rfl) rfl (by omega) (by simp [maxLen]; omega) fun u w17 ⟨a19, l19, c19, hv, ho17, hg17⟩ => ?_⟩
  subst hv
  have hl19 : l19 = ks.length := by rw [ho17.len]; simp
  subst hl19
  have hg17' := hg13'.trans hg17
  have hS17 := hS13.grew hg17
  have hk17 := ho13.grew hg17
  -- the met row is not the source's, nor the keys'
  have hmB : ∀ b, Blk a19 b → w13.heap.size ≤ b := fun b hb => (ho17.blk hb).1
  have hmS : ∀ b, Blk a19 b → ¬ x.Foot b := fun b hb hf => by have := hmB b hb; have := (hS13.foot hf).2; omega
  have hmK : ∀ b, Blk a15 b → ¬ Blk a19 b := fun b hb hb' => by have := hmB b hb'; have := (ho13.blk hb).2; omega
  have up : ∀ {y z : World}, Upd (Blk a19) y z → Grew w y → Grew w z := fun hu hg => hg.then_own hu fun b hb => by have := hmB b hb; have := hg13'.size; omega
  refine ⟨_, _, _, rfl, fun i w' => ∃ k : Nat, i = k ∧ 1 ≤ k ∧ Grew w17 w', fun i _ => ks.length - i.toNat, ⟨1, rfl, Nat.le_refl _, Grew.refl _⟩, ?_⟩
  rintro i w22 ⟨k, rfl, hk1, hg22⟩
  refine ⟨fun hlt => ?_, fun _ => ?_⟩
  · simp only [decide_eq_true_eq] at hlt
    have hw : IntKind.i64.wrap ((k : Int) + 1) = ((k + 1 : Nat) : Int) := by rw [IntKind.wrap_i64]; omega
    have hw2 : IntKind.i64.wrap ((k : Int) - 1) = ((k - 1 : Nat) : Int) := by rw [IntKind.wrap_i64]; omega
    obtain ⟨da, z, hda, hz, hzc⟩ := (hk17.grew hg22).reads.at0 (k := k) (by omega)
    obtain ⟨da', z', hda', hz', hzc'⟩ := (hk17.grew hg22).reads.at0 (k := k - 1) (by omega)
    rw [hda] at hda'; cases hda'
    rw [hda, hw, hw2]
    refine ⟨⟨by omega, by omega⟩, z, by simpa [Enc.int, CellsAt, Addr.add_zero'] using hzc, ⟨by omega, by omega⟩, z', by simpa [Enc.int, CellsAt, Addr.add_zero'] using hzc', fun w27 hg27 => ⟨fun hle => ?_, fun _ => ⟨⟨k + 1, rfl, by omega, hg22.trans hg27⟩, by show ks.length - (((k + 1 : Nat) : Int)).toNat < ks.length - ((k : Int)).toNat; omega⟩⟩⟩
    exfalso
    simp only [decide_eq_true_eq] at hle
    have h1 := List.pairwise_iff_getElem.1 hst (k - 1) k (by omega) (by omega) (by omega)
    rw [List.getElem?_eq_getElem (by omega)] at hz hz'
    rw [Option.some.inj hz, Option.some.inj hz'] at h1
    omega
  -- over the partitions
  have hS22 := hS17.grew hg22
  have hk22 := hk17.grew hg22
  have ho22 := ho17.grew hg22
  have hg22' := hg17'.trans hg22
  refine ⟨fun i w' => ∃ (p : Nat) (ms : List Bool), i = p ∧ p ≤ 2 ∧ Own w' w13.heap.size 4 Enc.boolE a19 ks.length c19 ms ∧ SrA w' w1.heap.size x v ∧ Own w' w5.heap.size 31 (Enc.int .u64) a15 ks.length c15 ks ∧ Grew w w' ∧
      (∀ (j : Nat) key, ks[j]? = some key → (∃ (p' : Nat) (q : List RecV × Bool) (r : RecV), p' < p ∧ v.parts[p']? = some q ∧ r ∈ q.1 ∧ keyOfB l r = (key, true)) → ms[j]? = some true), fun i _ => 2 - i.toNat, ⟨0, _, rfl, by omega, ho22, hS22, hk22, hg22', fun j key _ ⟨p', q, r, h, _⟩ => by omega⟩, ?_⟩
  rintro i w30 ⟨p, ms, rfl, hp, ho30, hS30, hk30, hg30, hmet⟩
  refine ⟨fun hlt => ?_, fun hge => ?_⟩
  · simp only [decide_eq_true_eq] at hlt
    have hwp : IntKind.i64.wrap ((p : Int) + 1) = ((p + 1 : Nat) : Int) := by rw [IntKind.wrap_i64]; omega
    obtain ⟨q, hq⟩ := getP_of (v := v) (p := (p : Int)) (by omega) (by omega)
    have hpq : v.parts[p]? = some q := by have := (getP_some hq).2.2; simpa using this
    have hql := hS30.fits.logs q (List.mem_of_getElem? hpq)
    have hlog : v.log p = q.1 := by unfold SrcV.log; rw [hq]
    refine (Log_ok hS30).use fun u w31 ⟨a33, l33, c33, hv, ho31, hg31⟩ => ?_
    subst hv
    rw [hlog] at ho31
    have hl33 : l33 = q.1.length := ho31.len
    subst hl33
    have hrB : ∀ b, Blk a33 b → w30.heap.size ≤ b := fun b hb => (ho31.blk hb).1
    have hrm : ∀ b, Blk a33 b → ¬ Blk a19 b := fun b hb hb' => by have := hrB b hb; have := (ho30.blk hb').2; omega
    refine ⟨_, _, _, rfl, fun i w' => ∃ (t : Nat) (ms' : List Bool), i = t ∧ t ≤ q.1.length ∧ Own w' w13.heap.size 4 Enc.boolE a19 ks.length c19 ms' ∧ SrA w' w1.heap.size x v ∧ Own w' w5.heap.size 31 (Enc.int .u64) a15 ks.length c15 ks ∧ Reads w' Enc.rcd (a33, q.1.length, c33) q.1 ∧ Grew w w' ∧
      (∀ (j : Nat) key, ks[j]? = some key → ((∃ (p' : Nat) (q : List RecV × Bool) (r : RecV), p' < p ∧ v.parts[p']? = some q ∧ r ∈ q.1 ∧ keyOfB l r = (key, true)) ∨ ∃ r ∈ q.1.take t, keyOfB l r = (key, true)) → ms'[j]? = some true), fun i _ => q.1.length - i.toNat, ⟨0, ms, rfl, Nat.zero_le _, ho30.grew hg31, hS30.grew hg31, hk30.grew hg31, ho31.reads, hg30.trans hg31, fun j key hj h => hmet j key hj (h.resolve_right (by simp))⟩, ?_⟩
    rintro i w37 ⟨t, ms', rfl, ht, ho37, hS37, hk37, hr37, hg37, hmet'⟩
    refine ⟨fun hlt2 => ?_, fun hge2 => ?_⟩
    · simp only [decide_eq_true_eq] at hlt2
      have hwt : IntKind.i64.wrap ((t : Int) + 1) = ((t + 1 : Nat) : Int) := by rw [IntKind.wrap_i64]; omega
      obtain ⟨dr, r, rfl, hrr, hrc⟩ := hr37.at0 (k := t) (by omega)
      have hrm' := List.mem_of_getElem? hrr
      rw [hwt]
      have hmt : q.1.length - (((t + 1 : Nat) : Int)).toNat < q.1.length - ((t : Int)).toNat := by omega
      refine ⟨⟨by omega, by omega⟩, r.key, r.val, hrc, (OKey_ok (hr.grew hg37) hl (hql.2 r hrm')).use fun u w41 ⟨hv, hg41⟩ => ?_⟩
      subst hv
      have ho41 := ho37.grew hg41
      have hS41 := hS37.grew hg41
      have hk41 := hk37.grew hg41
      have hr41 := hr37.grew hg41
      have hg41' := hg37.trans hg41
      -- the record behind the others
      have nxt : ∀ {at_ : Nat} {w48 : World}, w48 = w41 → (∀ (j : Nat) z, j < at_ → ks[j]? = some z → z < (keyOfB l r).1) → (∀ z, ks[at_]? = some z → ¬ z < (keyOfB l r).1) → (keyOfB l r).2 = true → ks[at_]? = some (keyOfB l r).1 := by
        intro at_ w48 _ hlo hhi hkept
        exact place_of hst ((hmem _).2 ⟨q, List.mem_of_getElem? hpq, r, hrm', by rw [← hkept]⟩) hlo hhi
      have done : ∀ {at_ : Nat}, ks[at_]? = some (keyOfB l r).1 → (keyOfB l r).2 = true → withSome a19 (fun d53 => (0 ≤ ((at_ : Nat) : Int) ∧ ((at_ : Nat) : Int) < (ks.length : Nat)) ∧ RoomAt w41 (Addr.add d53 (((at_ : Nat) : Int).toNat * 1)) 0 [.bool true] ∧ ∀ w54, w54 = setCells w41 (Addr.add d53 (((at_ : Nat) : Int).toNat * 1)) 0 [.bool true] →
          ((∃ (t_1 : Nat) (ms' : List Bool), ((t + 1 : Nat) : Int) = t_1 ∧ t_1 ≤ q.1.length ∧ Own w54 w13.heap.size 4 Enc.boolE a19 ks.length c19 ms' ∧ SrA w54 w1.heap.size x v ∧ Own w54 w5.heap.size 31 (Enc.int .u64) a15 ks.length c15 ks ∧ Reads w54 Enc.rcd (some dr, q.1.length, c33) q.1 ∧ Grew w w54 ∧
            (∀ (j : Nat) key, ks[j]? = some key → ((∃ (p' : Nat) (q : List RecV × Bool) (r : RecV), p' < p ∧ v.parts[p']? = some q ∧ r ∈ q.1 ∧ keyOfB l r = (key, true)) ∨ ∃ r ∈ q.1.take t_1, keyOfB l r = (key, true)) → ms'[j]? = some true)) ∧ q.1.length - (((t + 1 : Nat) : Int)).toNat < q.1.length - ((t : Int)).toNat)) := by
        intro at_ hat hkept
        have hatl := (List.getElem?_eq_some_iff.1 hat).1
        have hml : ms'.length = ks.length := ho41.len.symm
        obtain ⟨d53, hd, hR, hO, hU⟩ := ho41.set (i := at_) (by omega) true
        rw [hd]
        refine ⟨⟨by omega, by omega⟩, hR, ?_⟩
        rintro w54 rfl
        refine ⟨⟨t + 1, ms'.set at_ true, rfl, by omega, by rw [← hd]; exact hO, hS41.upd hU (fun b hb hb' => hmS b hb' hb), hk41.upd hU hmK, hr41.upd hU hrm, up hU hg41', fun j key hj h => ?_⟩, hmt⟩
        rw [List.getElem?_set]
        by_cases hja : at_ = j
        · rw [if_pos hja, if_pos (by omega)]
        · rw [if_neg hja]
          refine hmet' j key hj ?_
          rcases h with h | ⟨r', hr', hkr'⟩
          · exact .inl h
          · rw [take_snoc hrr] at hr'
            rcases List.mem_append.1 hr' with hr' | hr'
            · exact .inr ⟨r', hr', hkr'⟩
            · simp at hr'; subst hr'
              exfalso
              rw [hkr'] at hat
              have h1 := List.pairwise_iff_getElem.1 hst
              have hjl := (List.getElem?_eq_some_iff.1 hj).1
              rw [List.getElem?_eq_getElem hjl] at hj
              rw [List.getElem?_eq_getElem hatl] at hat
              have e1 := Option.some.inj hj; have e2 := Option.some.inj hat
              rcases Nat.lt_trichotomy at_ j with h | h | h
              · have := h1 at_ j hatl hjl h; simp only at e2; omega
              · exact hja h
              · have := h1 j at_ hjl hatl h; simp only at e2; omega
      have skip : (keyOfB l r).2 = false → ((∃ (t_1 : Nat) (ms' : List Bool), ((t + 1 : Nat) : Int) = t_1 ∧ t_1 ≤ q.1.length ∧ Own w41 w13.heap.size 4 Enc.boolE a19 ks.length c19 ms' ∧ SrA w41 w1.heap.size x v ∧ Own w41 w5.heap.size 31 (Enc.int .u64) a15 ks.length c15 ks ∧ Reads w41 Enc.rcd (some dr, q.1.length, c33) q.1 ∧ Grew w w41 ∧
            (∀ (j : Nat) key, ks[j]? = some key → ((∃ (p' : Nat) (q : List RecV × Bool) (r : RecV), p' < p ∧ v.parts[p']? = some q ∧ r ∈ q.1 ∧ keyOfB l r = (key, true)) ∨ ∃ r ∈ q.1.take t_1, keyOfB l r = (key, true)) → ms'[j]? = some true)) ∧ q.1.length - (((t + 1 : Nat) : Int)).toNat < q.1.length - ((t : Int)).toNat) := by
        intro hnk
        refine ⟨⟨t + 1, ms', rfl, by omega, ho41, hS41, hk41, hr41, hg41', fun j key hj h => hmet' j key hj ?_⟩, hmt⟩
        rcases h with h | ⟨r', hr', hkr'⟩
        · exact .inl h
        · rw [take_snoc hrr] at hr'
          rcases List.mem_append.1 hr' with hr' | hr'
          · exact .inr ⟨r', hr', hkr'⟩
          · simp at hr'; subst hr'
            rw [hkr'] at hnk; cases hnk
      refine ⟨_, _, rfl, fun i w' => ∃ at_ : Nat, i = at_ ∧ at_ ≤ ks.length ∧ w' = w41 ∧ (∀ (j : Nat) z, j < at_ → ks[j]? = some z → z < (keyOfB l r).1), fun i _ => ks.length - i.toNat, ⟨0, rfl, Nat.zero_le _, rfl, fun j z h => by omega⟩, ?_⟩
      rintro i w48 ⟨at_, rfl, hat, rfl, hlo⟩
      have hwa : IntKind.i64.wrap ((at_ : Int) + 1) = ((at_ + 1 : Nat) : Int) := by rw [IntKind.wrap_i64]; omega
      refine ⟨fun hlt3 => ?_, fun hge3 => ?_⟩
      · simp only [decide_eq_true_eq] at hlt3
        obtain ⟨da, z, rfl, hz, hzc⟩ := hk41.reads.at0 (k := at_) (by omega)
        have hzc' : w48.cell? (Addr.add da (((at_ : Nat) : Int).toNat * 1)) = some (.int .u64 z) := by simpa [Enc.int, CellsAt, Addr.add_zero'] using hzc
        rw [hwa]
        refine ⟨⟨by omega, by omega⟩, z, hzc', fun hlt4 => ⟨⟨at_ + 1, rfl, by omega, rfl, fun j z' hj hz' => ?_⟩, by show ks.length - (((at_ + 1 : Nat) : Int)).toNat < ks.length - ((at_ : Int)).toNat; omega⟩, fun hge4 => ?_⟩
        · simp only [decide_eq_true_eq] at hlt4
          by_cases hja : j < at_
          · exact hlo j z' hja hz'
          · obtain rfl : j = at_ := by omega
            rw [hz] at hz'; cases hz'; exact hlt4
        · simp only [decide_eq_false_iff_not] at hge4
          refine ⟨fun hkept => ⟨fun h => ?_, fun _ => ⟨⟨by omega, by omega⟩, z, hzc', fun h => ?_, fun _ => ⟨fun _ => done (nxt rfl hlo (fun z' hz' => by rw [hz] at hz'; cases hz'; exact hge4) hkept) hkept, fun h => (by rw [hkept] at h; cases h)⟩⟩⟩, fun hnk => ⟨fun h => (by rw [hnk] at h; cases h), fun _ => skip hnk⟩⟩
          · simp only [beq_iff_eq] at h; omega
          · exfalso
            have := nxt rfl hlo (fun z' hz' => by rw [hz] at hz'; cases hz'; exact hge4) hkept
            rw [hz] at this; cases this
            simp at h
      · simp only [decide_eq_false_iff_not] at hge3
        have hend : ks[at_]? = none := List.getElem?_eq_none (by omega)
        refine ⟨fun hkept => ?_, fun hnk => ⟨fun h => (by rw [hnk] at h; cases h), fun _ => skip hnk⟩⟩
        exfalso
        have := nxt rfl hlo (fun z' hz' => by rw [hend] at hz'; cases hz') hkept
        rw [hend] at this; cases this
    · simp only [decide_eq_false_iff_not] at hge2
      rw [hwp]
      refine ⟨⟨p + 1, ms', rfl, by omega, ho37, hS37, hk37, hg37, fun j key hj h => hmet' j key hj ?_⟩, by show 2 - (((p + 1 : Nat) : Int)).toNat < 2 - ((p : Int)).toNat; omega⟩
      obtain ⟨p', q', r, hp', hq', hrm, hkr⟩ := h
      by_cases hpp : p' < p
      · exact .inl ⟨p', q', r, hpp, hq', hrm, hkr⟩
      · obtain rfl : p' = p := by omega
        rw [hpq] at hq'; cases hq'
        exact .inr ⟨r, by rw [List.take_of_length_le (by omega)]; exact hrm, hkr⟩
  · simp only [decide_eq_false_iff_not] at hge
    have hp2 : p = 2 := by omega
    subst hp2
    have hml : ms.length = ks.length := ho30.len.symm
    refine ⟨fun i w' => ∃ j : Nat, i = j ∧ j ≤ ks.length ∧ w' = w30, fun i _ => ks.length - i.toNat, ⟨0, rfl, Nat.zero_le _, rfl⟩, ?_⟩
    rintro i w65 ⟨j, rfl, hj, rfl⟩
    refine ⟨fun hlt => ?_, fun _ => ⟨_, rfl, rfl, hg30⟩⟩
    simp only [decide_eq_true_eq] at hlt
    have hwj : IntKind.i64.wrap ((j : Int) + 1) = ((j + 1 : Nat) : Int) := by rw [IntKind.wrap_i64]; omega
    obtain ⟨da, z, hda, hz, hzc⟩ := ho30.reads.at0 (k := j) (by omega)
    have hz1 : z = true := by
      have hkj : ks[j]? = some ks[j] := List.getElem?_eq_getElem (by omega)
      obtain ⟨q, hq, r, hr, hkr⟩ := (hmem ks[j]).1 (List.mem_of_getElem? hkj)
      obtain ⟨p', hp'⟩ := List.getElem?_of_mem hq
      have hp2 := (List.getElem?_eq_some_iff.1 hp').1
      have := hmet j _ hkj ⟨p', q, r, by omega, hp', hr, hkr⟩
      rw [hz] at this; exact Option.some.inj this
    subst hz1
    rw [hda, hwj]
    exact ⟨⟨by omega, by omega⟩, true, by simpa [Enc.boolE, CellsAt, Addr.add_zero'] using hzc, fun h => (by cases h), fun _ => ⟨⟨j + 1, rfl, by omega, rfl⟩, by show ks.length - (((j + 1 : Nat) : Int)).toNat < ks.length - ((j : Int)).toNat; omega⟩⟩

open Go.ChangeShapes Go.WideShapes Go.ChangeAt Go.RowKit
set_option maxRecDepth 100000 in
theorem sourceKeys_lifted (os : Os) (started : os.Started) (H : Type) (enc : TypeId × Value → H) :
    ReturnsInHanded {} Try.checked os 4 .any (Rows.sourceKeysSpec.pre6 enc Try.prog Try.f4 Rows.sourceKeysRow.domain false) (Rows.sourceKeysSpec.post enc Try.prog Try.f4 false true false false) := by
  refine returnsInHanded_of_change_sized (C := Try.checked) (by kernel_rfl) started (by kernel_rfl) Try.func4
    (ChangeSpec.witness6 (enc := enc) (C := Try.checked) false ⟨#[], #[.slice none 0 0, .slice none 0 0], []⟩ 8 (by kernel_rfl) (by kernel_rfl) (by kernel_rfl) (by kernel_rfl)) ?_
  intro W base args ds gs before hval0 hW hcnd hsz0 _
  have hval : ∀ (j : Nat) t v, Try.f4.params[j]? = some t → args[j]? = some v → Value.okWide Try.prog W .any base t v := hval0
  have hW' := hW
  obtain ⟨p, q, hA0, hV, rfl, hfz, hnd⟩ := hW
  have hA : DataW.TrodAll enc Try.prog W 0 (fun _ => true) true Try.f4.params.toList args.toList ds p := hA0
  have hsz : (DataW.weightsEach Try.prog (Try.f4.params.toList ++ _) (ds ++ gs)).all (· ≤ reachBytes) = true := hsz0
  rw [show Try.f4.params = #[22, 23] from by kernel_rfl] at hA hval hsz
  have hA1 := hA
  obtain ⟨v0, vs0, d0, ds0, p0, q0, hargs, rfl, rfl, h0, r0⟩ := trodAll_cons hA
  obtain ⟨v1, vs1, d1, ds1, p1, q1, rfl, rfl, rfl, h1, r1⟩ := trodAll_cons r0
  obtain ⟨rfl, rfl, rfl⟩ := trodAll_nil r1
  obtain rfl : args = #[v0, v1] := by cases args; simp_all
  obtain ⟨a0, n0, c0, l0, rfl, hr0, hcl0, hn0, hb0⟩ := open_sub (P := Try.prog) (t := 22) (e := 51) (arg_sub (e := 51) (j := 0) hsz rfl rfl (by kernel_rfl) (hval 0 22 v0 rfl rfl) h0) (by kernel_rfl) op3_kinds (by kernel_rfl) (B := 24) (by kernel_rfl) (E := Enc.op3) rfl op3_of
  obtain ⟨a1, n1, c1, l1, rfl, hr1, hcl1, hn1, hb1⟩ := open_sub (P := Try.prog) (t := 23) (e := 36) (arg_sub (e := 36) (j := 1) hsz rfl rfl (by kernel_rfl) (hval 1 23 v1 rfl rfl) h1) (by kernel_rfl) item_kinds (by kernel_rfl) (B := 24) (by kernel_rfl) (E := Enc.item) rfl item_of
  clear hA0 hA1 hval0 hsz0
  refine (CallsW.calls ⟨_, Try.func4, by kernel_rfl, by kernel_rfl⟩ (SourceKeys_ok hr0 hcl0 hn0 hb0 hr1 hcl1 hn1 hb1)).mono fun e W' ⟨w', hh, hk, v, he, hv, hg⟩ => ?_
  subst he; subst hv
  exact ⟨_, rfl, post_true (tb := 4) (by kernel_rfl) rfl (by kernel_rfl) (by kernel_rfl) ⟨rfl, rfl, rfl⟩ (by decide +kernel) hW' (below_of hg hh hk)⟩

theorem sourceKeys_holds : Rows.SourceKeysSaid :=
  OpenClaim.holds_of_wide 4 Try.f4 rfl rfl rfl rfl rfl rfl rfl ⟨rfl, rfl, rfl, rfl, rfl⟩ rfl rfl rfl rfl rfl (by kernel_rfl) Try.func4 (by kernel_rfl)
    (of_decide_eq_true (by kernel_rfl)) (by unfold Func.isWrapper; first | (rw [if_pos (by decide +kernel)]; kernel_rfl) | (rw [if_neg (by decide +kernel)]; exact ⟨rfl, rfl⟩))
    (fun os started H enc _ => sourceKeys_lifted os started H enc)
end Go.Proofs.Ytifhpmmdfjmppaa
