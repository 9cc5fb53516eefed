/- The law's awake holds. Conditions: none. -/
import Derived.Test.YtlkfkcgnlnbdeaaProg
import Derived.Test.YtlkfkcgnlnbdeaaNetF
namespace Go.Proofs.Ytlkfkcgnlnbdeaa
open Go.Sx
set_option maxRecDepth 100000
set_option linter.unusedVariables false
set_option linter.unusedSimpArgs false

theorem FlAt.own {w : World} {B B2 : Nat} {a : Option Addr} {n c : Nat} {L : List (Int × Msg)} (ho : Own w B 55 Enc.flight a n c L) (hm : MsOk w B2 L) : FlAt w a n c L := ⟨ho.reads, fun x hx => (hm.own x hx).at⟩

theorem awakeN_ok {w : World} : CallsW Try.prog 7 [] w (Rets fun v w' => v = .bool true ∧ Grew w w') := by
  refine sx7.ok ?_
  unfold sx7
  refine New_ok.use fun v w1 ⟨hg1, hv⟩ => ?_
  rcases hv with ⟨hv, -⟩ | ⟨-, p, mb, hv, hN1⟩
  · omega
  subst hv
  refine ⟨_, _, rfl, fun b w' => b = false ∧ w' = w1, ⟨fun h => (by cases h), fun _ => ⟨rfl, rfl⟩⟩, ?_⟩
  rintro b7 w8 ⟨rfl, rfl⟩
  have up : ∀ {x y : World}, Upd (fun b => b = p ∨ b = mb) x y → Grew w x → Grew w y := fun hu hg => hg.then_own hu fun b hb => by
    rcases hb with rfl | rfl
    · exact hN1.pB
    · exact hN1.mB
  refine ⟨fun h => (by cases h), fun _ => ?_⟩
  refine laid_ok.use fun v w9 ⟨hv, hg9⟩ => ?_
  subst hv
  have hN9 := hN1.grew hg9
  have hg9' := hg1.trans hg9
  refine ⟨_, _, _, _, _, _, _, _, _, _, _, _, _, _, _, rfl, ?_⟩
  refine (Send_ok (x := laidM 1) hN9 laidM_at (laid_fits (by omega)) (by simp [laidM]) (by simp [laidM]) (by simp [laidM]) (by omega) hg9'.size).use fun v w21 hp => ?_
  rcases hp with ⟨hs, -⟩ | ⟨-, ⟨hge, -⟩ | ⟨-, hv, y1, hy1, -, hN21, hu21⟩⟩
  · rw [laid_sound (by omega)] at hs; cases hs
  · simp at hge
  subst hv
  have hg21 := up hu21 hg9'
  refine ⟨_, _, rfl, ?_⟩
  refine laid_ok.use fun v w26 ⟨hv, hg26⟩ => ?_
  subst hv
  have hN26 := hN21.grew hg26
  have hg26' := hg21.trans hg26
  refine ⟨_, _, _, _, _, _, _, _, _, _, _, _, _, _, _, rfl, ?_⟩
  refine (Send_ok (x := laidM 2) hN26 laidM_at (laid_fits (by omega)) (by simp [laidM]) (by simp [laidM]) (by simp [laidM]) (by omega) hg26'.size).use fun v w38 hp => ?_
  rcases hp with ⟨hs, -⟩ | ⟨-, ⟨hge, -⟩ | ⟨-, hv, y2, hy2, -, hN38, hu38⟩⟩
  · rw [laid_sound (by omega)] at hs; cases hs
  · simp at hge
  subst hv
  have hg38 := up hu38 hg26'
  refine ⟨_, _, rfl, ?_⟩
  refine laid_ok.use fun v w43 ⟨hv, hg43⟩ => ?_
  subst hv
  have hN43 := hN38.grew hg43
  have hg43' := hg38.trans hg43
  refine ⟨_, _, _, _, _, _, _, _, _, _, _, _, _, _, _, rfl, ?_⟩
  refine (Send_ok (x := laidM 3) hN43 laidM_at (laid_fits (by omega)) (by simp [laidM]) (by simp [laidM]) (by simp [laidM]) (by omega) hg43'.size).use fun v w55 hp => ?_
  rcases hp with ⟨hs, -⟩ | ⟨-, ⟨-, hv, hg55⟩ | ⟨hlt, -⟩⟩
  · rw [laid_sound (by omega)] at hs; cases hs
  rotate_left
  · simp at hlt
  subst hv
  have hg55' := hg43'.trans hg55
  have hN55 : NetAt w55 w.heap.size p mb 2 2 [(0, y1), (1, y2)] := hN43.grew hg55
  refine ⟨_, _, rfl, ?_⟩
  refine (Deliver_ok (k := 0) hN55).use fun v w60 ⟨x, e, hv, hG⟩ => ?_
  obtain ⟨rfl, rfl, hN60, hx, hxs, hxn, hu60⟩ : x = y1 ∧ e = 0 ∧ NetAt w60 w.heap.size p mb 2 2 [(1, y2)] ∧ MO w60 w.heap.size y1 ∧ (soundMsg y1.c = true ∧ y1.c.Fits) ∧ (∀ b, y1.Blk b → Feet [(0, y1), (1, y2)] b ∧ ¬ NFoot p mb [(1, y2)] b) ∧ Upd (fun b => b = mb) w55 w60 := hG
  subst hv
  have hg60 : Grew w w60 := hg55'.then_own hu60 fun b hb => by rw [hb]; exact hN1.mB
  refine ⟨_, _, _, _, _, _, _, _, _, _, _, _, _, _, _, _, rfl, fun w73 hg73 => ?_⟩
  have hN73 := hN60.grew hg73
  have hg73' := hg60.trans hg73
  refine (Copy_ok (k := 1) hN73 (by omega) hg73'.size).use fun v w74 hp => ?_
  have hp : Put w73 w.heap.size p mb 2 2 [(1, y2)] y2.c v w74 := hp
  rcases hp with ⟨hge, -⟩ | ⟨-, hv, y3, hy3, -, hN74, hu74⟩
  · simp at hge
  subst hv
  have hN74 : NetAt w74 w.heap.size p mb 2 3 [(1, y2), (2, y3)] := hN74
  have hg74 := up hu74 hg73'
  refine ⟨_, _, rfl, fun w79 hg79 => ?_⟩
  have hx79 : MO w79 w.heap.size x := ((hx.grew hg73).upd hu74 fun b hb h => (hxn b hb).2 (by rcases h with rfl | rfl; exact .inl rfl; exact .inr (.inl rfl))).grew hg79
  have hg79' := hg74.trans hg79
  have hN79 := hN74.grew hg79
  refine ⟨fun _ => ⟨fun _ => ⟨fun _ => ⟨fun _ => ⟨fun _ => ⟨fun _ => ?_, fun h => (by simp at h)⟩, fun h => (by simp at h)⟩, fun h => (by simp at h)⟩, fun h => (by simp at h)⟩, fun h => (by simp at h)⟩, fun h => (by simp at h)⟩
  have nb : ∀ {x y : World}, SameB x y [] := by intro x y; simp [SameB]
  refine laid_ok.use' fun v w80 ⟨hv, hg80⟩ => ?_
  subst hv
  refine ⟨_, _, _, _, _, _, _, _, _, _, _, _, _, _, _, rfl, nb, ?_⟩
  have hx80 := hx79.grew hg80
  have hg80' := hg79'.trans hg80
  have hN80 := hN79.grew hg80
  refine (same_ok (x := x) (y := laidM 1) hx80.at laidM_at hy1 hxs.2 (by rw [hy1]; simp [laidM]) (by rw [hy1]; simp [laidM]) (by rw [hy1]; simp [laidM])).use' fun v w92 ⟨hv, hg92⟩ => ?_
  subst hv
  refine ⟨_, rfl, nb, fun _ => ⟨fun _ => ⟨fun _ => ?_, fun h => (by simp at h)⟩, fun h => (by simp at h)⟩, fun h => (by cases h)⟩
  refine (Next_ok (hN80.grew hg92)).use' fun v w96 ⟨hv, hw⟩ => ?_
  subst hv; subst hw
  have hN96 := hN80.grew hg92
  have hg96 := hg80'.trans hg92
  refine ⟨_, rfl, nb, fun _ => ?_, fun h => (by simp at h)⟩
  refine (NFlights_ok hN96).use' fun v w100 ⟨a102, l102, c102, Ls, hv, hLo, hLc, hLm, hg100⟩ => ?_
  subst hv
  refine ⟨_, _, _, rfl, nb, ?_⟩
  refine laid_ok.use' fun v w104 ⟨hv, hg104⟩ => ?_
  subst hv
  refine ⟨_, _, _, _, _, _, _, _, _, _, _, _, _, _, _, rfl, nb, ?_⟩
  refine laid_ok.use' fun v w116 ⟨hv, hg116⟩ => ?_
  subst hv
  refine ⟨_, _, _, _, _, _, _, _, _, _, _, _, _, _, _, rfl, nb, fun b128 w129 hal129 => ⟨nb, ?_⟩⟩
  have hg129 := hg104.trans (hg116.trans hal129.grew)
  have hF1 := (FlAt.own hLo hLm).grew hg129
  have hO := Own.alloc (E := Enc.flight) (l := [(1, laidM 2), (2, laidM 2)]) hal129 (Nat.le_refl _) rfl (by simp [maxLen])
  have hF2 : FlAt w129 (some ⟨b128, 0, none⟩) 2 2 [(1, laidM 2), (2, laidM 2)] := ⟨hO.reads, fun y hy => by simp at hy; rcases hy with rfl | rfl <;> exact laidM_at⟩
  have hcc : conts Ls = conts [(1, laidM 2), (2, laidM 2)] := by rw [hLc]; simp [conts, hy2, hy3]
  have hll : Ls.length = 2 := by have := congrArg List.length hcc; simpa [conts] using this
  refine (flights_ok hF1 hF2 hcc hLm.ok (by omega)).use' fun v w130 ⟨hv, hg130⟩ => ?_
  subst hv
  have hN130 := hN96.grew (hg100.trans (hg129.trans hg130))
  have hg130' := hg96.trans (hg100.trans (hg129.trans hg130))
  refine ⟨_, rfl, nb, fun _ => ?_, fun h => (by cases h)⟩
  refine (Drop_ok (k := 1) hN130).use' fun v w134 ⟨z, e, hv, hG⟩ => ?_
  obtain ⟨rfl, rfl, hN134, -, -, -, hu134⟩ : z = y2 ∧ e = 0 ∧ NetAt w134 w.heap.size p mb 2 3 [(2, y3)] ∧ MO w134 w.heap.size y2 ∧ (soundMsg y2.c = true ∧ y2.c.Fits) ∧ (∀ b, y2.Blk b → Feet [(1, y2), (2, y3)] b ∧ ¬ NFoot p mb [(2, y3)] b) ∧ Upd (fun b => b = mb) w130 w134 := hG
  subst hv
  have hg134 : Grew w w134 := hg130'.then_own hu134 fun b hb => by rw [hb]; exact hN1.mB
  refine ⟨_, rfl, nb, fun _ => ?_, fun h => (by simp at h)⟩
  refine (Drop_ok (k := 9) hN134).use' fun v w138 ⟨z', e, hv, hG⟩ => ?_
  obtain ⟨rfl, rfl, hg138⟩ : z' = msg0 ∧ e = 161 ∧ Grew w134 w138 := hG
  subst hv
  exact ⟨_, rfl, nb, _, rfl, rfl, hg134.trans hg138⟩
end Go.Proofs.Ytlkfkcgnlnbdeaa
