-- WRITTEN BY A PROGRAM OF THIS SESSION
import Derived.Test.YtappdmioncdefaaDoorGood
import Derived.Test.YtappdmioncdefaaDoorQ0
import Derived.Test.YtappdmioncdefaaDoorQFaceFind
import Derived.Test.YtappdmioncdefaaDoorQCarlinglaw04Awake
import Derived.Test.YtappdmioncdefaaDoorQCarlingref04Light
import Derived.Test.YtappdmioncdefaaDoorQCarlingref04Same
namespace Go.Proofs.YtappdmioncdefaaDoor.Q
open Go.RowKit Go.Proofs.YtappdmioncdefaaDoorW.PrintWords Go.Proofs.YtappdmioncdefaaDoorW.PrintLast Go.Proofs.YtappdmioncdefaaDoorW.PrintMore
attribute [local go_sem] max2_int min2_int max_two min_two max_three min_three max_four min_four   -- for this text's walks alone
set_option linter.unusedVariables false
set_option linter.unusedSimpArgs false

/-! ### carlinglaw04_FaceFind: function 8 -/
mutual
def carlinglaw04_FaceFind.j0 : Nat → List (S34) → ByteArray → Bool → Bool → Option (Bool)
  | 0, _, _, _, _ => none
  | k + 1, x0, x1, x5, x20 => if x20 = true then (some x5) else ((face_Find.f k x0 x1).bind fun bt324 => (carlinglaw04_FaceFind.l0 k x0 x1 x5 bt324.2.2.2 0 bt324.1 bt324.2.1 bt324.2.2.1))
def carlinglaw04_FaceFind.l0 : Nat → List (S34) → ByteArray → Bool → Bool → Int → ByteArray → List (S46) → Bool → Option (Bool)
  | 0, _, _, _, _, _, _, _, _ => none
  | k + 1, x0, x1, x5, x8, x9, x331000, x331001, x331002 => if x9 < (x0.length : Int) then (if 0 ≤ x9 then (if ((rd_T34 x0 x9).f0).toList = x1.toList then (if x9 ≤ (wrap64 (x9 + 1)) then (if (wrap64 (x9 + 1)) ≤ (x0.length : Int) then ((carlingref04_Same.f k (([(⟨x331000, x331001, x331002⟩ : S34)] : List (S34))) ((x0.take ((wrap64 (x9 + 1)) : Int).toNat).drop (x9 : Int).toNat)).bind fun t339 => (if x5 = true then (if x8 = true then (some t339) else (some false)) else (some false))) else (none)) else (none)) else (carlinglaw04_FaceFind.l0 k x0 x1 x5 x8 (wrap64 (x9 + 1)) x331000 x331001 x331002)) else (none)) else (if x5 = true then (if x8 = true then (some false) else (if x331000.toList = ([] : List UInt8) then (some ((x331001.length : Int) == 0)) else (some false))) else (some false))
end
def carlinglaw04_FaceFind.f (k : Nat) (l0 : List (S34)) (a1 : ByteArray) : Option (Bool) := (carlinglaw04_awake.f k).bind fun t322 => ((carlingref04_Light.f k l0).bind fun t323 => (if t323 = true then (carlinglaw04_FaceFind.j0 k l0 a1 t322 (decide ((a1.size : Int) > 200))) else (carlinglaw04_FaceFind.j0 k l0 a1 t322 true)))
theorem carlinglaw04_FaceFind.mono_l : ∀ k, (∀ y0 y1 y2 y3, LeO (carlinglaw04_FaceFind.j0 k y0 y1 y2 y3) (carlinglaw04_FaceFind.j0 (k + 1) y0 y1 y2 y3)) ∧ (∀ y0 y1 y2 y3 y4 y5 y6 y7, LeO (carlinglaw04_FaceFind.l0 k y0 y1 y2 y3 y4 y5 y6 y7) (carlinglaw04_FaceFind.l0 (k + 1) y0 y1 y2 y3 y4 y5 y6 y7))
  | 0 => ⟨fun _ _ _ _ r h => by simp [carlinglaw04_FaceFind.j0] at h, fun _ _ _ _ _ _ _ _ r h => by simp [carlinglaw04_FaceFind.l0] at h⟩
  | k + 1 => by
    obtain ⟨ih0, ih1⟩ := carlinglaw04_FaceFind.mono_l k
    refine ⟨?_, ?_⟩
    · intro y0 y1 y2 y3
      unfold carlinglaw04_FaceFind.j0
      repeat' first
      | (with_reducible exact ih0 _ _ _ _)
      | (with_reducible exact ih1 _ _ _ _ _ _ _ _)
      | (with_reducible exact carlinglaw04_awake.mono _)
      | (with_reducible exact carlingref04_Light.mono _ _)
      | (with_reducible exact carlingref04_Same.mono _ _ _)
      | (with_reducible exact face_Find.mono _ _ _)
      | (with_reducible exact LeO.refl _)
      | (with_reducible exact LeO.none _)
      | (with_reducible refine LeO.ite ?_ ?_)
      | (with_reducible refine LeO.bind ?_ (fun _ => ?_))
      | exact ih0 _ _ _ _
      | exact ih1 _ _ _ _ _ _ _ _
      | exact carlinglaw04_awake.mono _
      | exact carlingref04_Light.mono _ _
      | exact carlingref04_Same.mono _ _ _
      | exact face_Find.mono _ _ _
      | exact LeO.none _
      | refine LeO.ite ?_ ?_
      | refine LeO.bind ?_ (fun _ => ?_)
    · intro y0 y1 y2 y3 y4 y5 y6 y7
      unfold carlinglaw04_FaceFind.l0
      repeat' first
      | (with_reducible exact ih0 _ _ _ _)
      | (with_reducible exact ih1 _ _ _ _ _ _ _ _)
      | (with_reducible exact carlinglaw04_awake.mono _)
      | (with_reducible exact carlingref04_Light.mono _ _)
      | (with_reducible exact carlingref04_Same.mono _ _ _)
      | (with_reducible exact face_Find.mono _ _ _)
      | (with_reducible exact LeO.refl _)
      | (with_reducible exact LeO.none _)
      | (with_reducible refine LeO.ite ?_ ?_)
      | (with_reducible refine LeO.bind ?_ (fun _ => ?_))
      | exact ih0 _ _ _ _
      | exact ih1 _ _ _ _ _ _ _ _
      | exact carlinglaw04_awake.mono _
      | exact carlingref04_Light.mono _ _
      | exact carlingref04_Same.mono _ _ _
      | exact face_Find.mono _ _ _
      | exact LeO.none _
      | refine LeO.ite ?_ ?_
      | refine LeO.bind ?_ (fun _ => ?_)
theorem carlinglaw04_FaceFind.mono : ∀ a0 a1 k, LeO (carlinglaw04_FaceFind.f k a0 a1) (carlinglaw04_FaceFind.f (k + 1) a0 a1) := by
  intro a0 a1 k
  obtain ⟨ih0, ih1⟩ := carlinglaw04_FaceFind.mono_l k
  unfold carlinglaw04_FaceFind.f
  repeat' first
      | (with_reducible exact ih0 _ _ _ _)
      | (with_reducible exact ih1 _ _ _ _ _ _ _ _)
      | (with_reducible exact carlinglaw04_awake.mono _)
      | (with_reducible exact carlingref04_Light.mono _ _)
      | (with_reducible exact carlingref04_Same.mono _ _ _)
      | (with_reducible exact face_Find.mono _ _ _)
      | (with_reducible exact LeO.refl _)
      | (with_reducible exact LeO.none _)
      | (with_reducible refine LeO.ite ?_ ?_)
      | (with_reducible refine LeO.bind ?_ (fun _ => ?_))
      | exact ih0 _ _ _ _
      | exact ih1 _ _ _ _ _ _ _ _
      | exact carlinglaw04_awake.mono _
      | exact carlingref04_Light.mono _ _
      | exact carlingref04_Same.mono _ _ _
      | exact face_Find.mono _ _ _
      | exact LeO.none _
      | refine LeO.ite ?_ ?_
      | refine LeO.bind ?_ (fun _ => ?_)
def carlinglaw04_FaceFind.T10 : Bool × List (List Nat × List Nat) := (true, [([], []), ([0], [0]), ([], []), ([], []), ([], []), ([4], [4]), ([2, 3, 5], [2, 3, 5]), ([1, 6], [1, 6]), ([7, 7, 0, 1, 2, 3, 4, 5, 6, 7], [7])])
def carlinglaw04_FaceFind.B10 : List Nat := [0, 1, 0, 0, 0, 16, 60, 127, 255]
theorem carlinglaw04_FaceFind.tab10 : rtab .any (opsOf Tryd.f8 10) = carlinglaw04_FaceFind.T10 := by kernel_rfl
theorem carlinglaw04_FaceFind.bits10 : waitsOk carlinglaw04_FaceFind.T10.2 carlinglaw04_FaceFind.B10 = true := by kernel_rfl
set_option maxHeartbeats 8000000 in
set_option maxRecDepth 100000 in
theorem carlinglaw04_FaceFind.calls (k : Nat) (A0 : Option Addr) (c0 : Nat) (l0 : List (S34)) (a1 : ByteArray) (r : Bool) (w : World) (hr0 : Kd.C k34 w A0 l0.length l0) (hc0 : l0.length ≤ c0) (hG : GoodW w) (h : carlinglaw04_FaceFind.f k l0 a1 = some r) :
    Calls Tryd.prog 8 #[.slice A0 l0.length c0, .string a1] w fun e w' => e = .returned (.bool r) ∧ Below w.heap.size w w' := by
  have hu34 := Tryd.underlying34
  have HR0 := Aside0.mk hr0
  have HC0 := Aside0.mk hc0
  clear hr0 hc0
  have HB := Aside0.mk (Below.refl w.heap.size w)
  have H : ((carlinglaw04_awake.f k).bind fun t322 => ((carlingref04_Light.f k l0).bind fun t323 => (if t323 = true then (carlinglaw04_FaceFind.j0 k l0 a1 t322 (decide ((a1.size : Int) > 200))) else (carlinglaw04_FaceFind.j0 k l0 a1 t322 true)))) = some r := h
  clear h
  replace H := Option.bind_eq_some_iff.mp H
  obtain ⟨t322, A30, H⟩ := H
  replace H : ((carlingref04_Light.f k l0).bind fun t323 => (if t323 = true then (carlinglaw04_FaceFind.j0 k l0 a1 t322 (decide ((a1.size : Int) > 200))) else (carlinglaw04_FaceFind.j0 k l0 a1 t322 true))) = some r := H
  have A3 := Aside0.mk A30
  clear A30
  replace H := Option.bind_eq_some_iff.mp H
  obtain ⟨t323, A40, H⟩ := H
  replace H : (if t323 = true then (carlinglaw04_FaceFind.j0 k l0 a1 t322 (decide ((a1.size : Int) > 200))) else (carlinglaw04_FaceFind.j0 k l0 a1 t322 true)) = some r := H
  have A4 := Aside0.mk A40
  clear A40
  have HC5 := Aside0.mk H
  clear H
  go_enter Tryd.func8, Tryd.ntmps8
  go_upto_region 3 with (first | ((with_reducible refine gate_callee (f := 10) rfl ?_); refine goesL_ (some 11) rfl rfl Tryd.func10 (by kernel_rfl) rfl #[] rfl (by (try simp only [List.map_toArray, List.map_cons, List.map_nil]); first | done | rfl | (simp only [List.length_drop, List.length_take]; rfl)) ?_; (with_reducible refine (carlinglaw04_awake.calls k  t322 _ (GoodW.below hG (by repeat (first | (with_reducible first | exact HB.out | apply below_alloc | apply pw_below_drewN | apply below_drew1) | exact HB.out | refine below_set ?_ (Aside0.out (by assumption))))) A3.out).mono ?_); rintro e w6 ⟨rfl, hb⟩; refine ⟨_, rfl, ?_⟩; have n0_ := Aside0.mk (below_step (by repeat (first | (with_reducible first | exact HB.out | apply below_alloc | apply pw_below_drewN | apply below_drew1) | exact HB.out)) hb); clear HB; have HB := n0_; clear n0_; (try clear hb); (try clear hb2); (try clear hk); (try clear hi)) | ((with_reducible refine gate_callee (f := 11) rfl ?_); refine goesL_ (some 13) rfl rfl Tryd.func11 (by kernel_rfl) rfl #[.slice A0 l0.length c0] rfl (by (try simp only [List.map_toArray, List.map_cons, List.map_nil]); first | done | rfl | (simp only [List.length_drop, List.length_take]; rfl)) ?_; (with_reducible refine (carlingref04_Light.calls k _ _ l0 t323 _ ?side1 ?side2 A4.out).mono ?_); (case side1 => repeat (first | exact (Kd.C_below HR0.out HB.out) | (with_reducible refine Kd.C_alloc ?_ _) | (with_reducible refine Kd.C_drewN ?_ _) | (with_reducible refine Kd.C_drew ?_))); (case side2 => exact HC0.out); rintro e w' ⟨rfl, ⟨nd, rfl⟩⟩; refine ⟨_, rfl, ?_⟩))
  (try simp only [Act.put, List.setIfInBounds_toArray, List.set_cons_zero, List.set_cons_succ])
  go_cut [20] (fun v20 wc => ∃ (kq : Nat) (x20_4 : Bool), v20 = .bool x20_4 ∧ Aside0 (carlinglaw04_FaceFind.j0 kq l0 a1 t322 x20_4 = some r) ∧ Aside0 (kq ≤ k) ∧ Aside0 (Below w.heap.size w wc))
  case first =>
    have H := HC5.out
    clear HC5
    by_cases c7 : t323 = true
    · subst c7
      have H1 : (carlinglaw04_FaceFind.j0 k l0 a1 t322 (decide ((a1.size : Int) > 200))) = some r := by rw [if_pos rfl] at H; exact H
      clear H
      have H := H1
      clear H1
      have H' := Aside0.mk H
      clear H
      go_wp2
      go_meet
      case rel => exact ⟨_, (decide ((a1.size : Int) > 200)), (by first | rfl | (simp; done) | (simp [*]; done)), H', ⟨by first | omega | exact Nat.le_refl _⟩, ⟨by repeat (first | (with_reducible first | exact HB.out | apply below_alloc | apply pw_below_drewN | apply below_drew1) | exact HB.out)⟩⟩
    · replace c7 := Bool.eq_false_iff.mpr c7
      subst c7
      have H1 : (carlinglaw04_FaceFind.j0 k l0 a1 t322 true) = some r := by rw [if_neg (show ¬ (false = true) by decide)] at H; exact H
      clear H
      have H := H1
      clear H1
      have H' := Aside0.mk H
      clear H
      go_wp2
      go_meet
      case rel => exact ⟨_, (true), (by first | rfl | (simp; done) | (simp [*]; done)), H', ⟨by first | omega | exact Nat.le_refl _⟩, ⟨by repeat (first | (with_reducible first | exact HB.out | apply below_alloc | apply pw_below_drewN | apply below_drew1) | exact HB.out)⟩⟩
  case rest =>
    clear HC5
    try clear c1
    try clear p2
    try clear c7
    obtain ⟨kq, x20_4, rfl, HA, HJ4, HB⟩ := hcut
    cases kq with
    | zero => exact absurd HA.out (by simp [carlinglaw04_FaceFind.j0])
    | succ kj4 =>
      have H := HA.out
      clear HA
      simp only [carlinglaw04_FaceFind.j0] at H
      by_cases c8 : x20_4 = true
      · subst c8
        have H1 : (some t322) = some r := by rw [if_pos rfl] at H; exact H
        clear H
        have H := H1
        clear H1
        obtain rfl := Option.some.inj H
        go_wp2
        go_ret
        exact ⟨by first | rfl | (simp [errW_none, errW_some] <;> rfl) | (simp [*, errW_none, errW_some] <;> rfl), by repeat (first | (with_reducible first | exact HB.out | apply below_alloc | apply pw_below_drewN | apply below_drew1) | exact HB.out)⟩
      · replace c8 := Bool.eq_false_iff.mpr c8
        subst c8
        have H1 : ((face_Find.f kj4 l0 a1).bind fun bt324 => (carlinglaw04_FaceFind.l0 kj4 l0 a1 t322 bt324.2.2.2 0 bt324.1 bt324.2.1 bt324.2.2.1)) = some r := by rw [if_neg (show ¬ (false = true) by decide)] at H; exact H
        clear H
        have H := H1
        clear H1
        replace H := Option.bind_eq_some_iff.mp H
        obtain ⟨⟨t324, t325, t328, t329⟩, A90, H⟩ := H
        replace H : (carlinglaw04_FaceFind.l0 kj4 l0 a1 t322 t329 0 t324 t325 t328) = some r := H
        have A9 := Aside0.mk A90
        clear A90
        have H' := Aside0.mk H
        clear H
        go_wp2_with (first | ((with_reducible refine gate_callee (f := 17) rfl ?_); refine goesL_ (some 25) rfl rfl Tryd.func17 (by kernel_rfl) rfl #[.slice A0 l0.length c0, .string a1] rfl (by (try simp only [List.map_toArray, List.map_cons, List.map_nil]); first | done | rfl | (simp only [List.length_drop, List.length_take]; rfl)) ?_; (with_reducible refine (face_Find.calls kj4 _ _ l0 a1 t324 t325 t328 t329 _ ?side1 ?side2 A9.out).mono ?_); (case side1 => repeat (first | exact (Kd.C_below HR0.out HB.out) | (with_reducible refine Kd.C_alloc ?_ _) | (with_reducible refine Kd.C_drewN ?_ _) | (with_reducible refine Kd.C_drew ?_))); (case side2 => exact HC0.out); rintro e w10 ⟨v326, rfl, ho0, hb⟩; refine ⟨_, rfl, ?_⟩; have n0_ := Aside0.mk (Kd.R_lower ho0 (below_size (by repeat (first | (with_reducible first | exact HB.out | apply below_alloc | apply pw_below_drewN | apply below_drew1) | exact HB.out)))); have n1_ := Aside0.mk (below_step (by repeat (first | (with_reducible first | exact HB.out | apply below_alloc | apply pw_below_drewN | apply below_drew1) | exact HB.out)) hb); clear HB; have HO327 := n0_; have HB := n1_; clear n0_ n1_; (try clear hb); (try clear hb2); (try clear hk); (try clear hi); (try clear ho0)) | ((with_reducible refine gate_dst (N := 7) rfl ?_); (try (refine gate_guard (by rfl) ?_; dsimp only)); refine box_event ?hg (N := 7) ?hd (cs := #[.string (⟨#[]⟩ : ByteArray), .slice none 0 0, .bool false]) (t := 34) ?hr ?_; (case hd => rfl); (case hg => rfl); (case hr => first | (go_simp; done) | (go_simp; rfl)); intro gb330 hg w11 hbox hb; have n0_ := Aside0.mk (Kd.R_below (by (with_reducible repeat (first | apply Kd.R_alloc | apply Kd.R_drewN | apply Kd.R_drew)); exact HO327.out) hb); have n1_ := Aside0.mk (below_step (by repeat (first | (with_reducible first | exact HB.out | apply below_alloc | apply pw_below_drewN | apply below_drew1) | exact HB.out)) hb); have n2_ := Aside0.mk (hbox); have n3_ := Aside0.mk ((by rw [hg]; exact (below_size (by repeat (first | (with_reducible first | exact HB.out | apply below_alloc | apply pw_below_drewN | apply below_drew1) | exact HB.out))) : w.heap.size ≤ gb330)); have n4_ := Aside0.mk ((by rw [hg]; exact (below_size (by repeat (first | (with_reducible first | exact HB.out | apply below_alloc | apply pw_below_drewN | apply below_drew1) | exact HB.out))) : w.heap.size ≤ gb330)); clear HO327; clear HB; have HO327 := n0_; have HB := n1_; have BK330 := n2_; have GW330 := n3_; have GE330 := n4_; clear n0_ n1_ n2_ n3_ n4_; clear hb hbox hg; have hcz12_0 : w11.cell? ⟨gb330, 0, none⟩ = some (.string (⟨#[]⟩ : ByteArray)) := (blk_cell BK330.out 0).trans rfl; have hcz12_1 : w11.cell? ⟨gb330, 1, none⟩ = some (.slice none 0 0) := (blk_cell BK330.out 1).trans rfl; have hcz12_2 : w11.cell? ⟨gb330, 2, none⟩ = some (.bool false) := (blk_cell BK330.out 2).trans rfl; have hfz12_0 := blk_frozen BK330.out 0; have hfz12_1 := blk_frozen BK330.out 1; have hfz12_2 := blk_frozen BK330.out 2; obtain ⟨Ao13, co13, eo13⟩ := Kd.R_slice HO327.out; subst eo13))
        go_loopg [9] kj4 (fun kq v9 w' => ∃ (x9_2 : Int), v9 = .int .i64 x9_2 ∧ Aside0 (carlinglaw04_FaceFind.l0 kq l0 a1 t322 t329 x9_2 t324 t325 t328 = some r) ∧ Aside0 (kq ≤ kj4) ∧ Aside0 (Kd.R k46 46 w' w.heap.size (fun _ => True) (.slice Ao13 t325.length co13) t325) ∧ Aside0 (w'.heap[gb330]? = some (.cells #[.string t324, (.slice Ao13 t325.length co13), .bool t328] 34 (0, 0))) ∧ Aside0 (Below w.heap.size w w'))
        case atStart => exact ⟨(0), (by first | rfl | (simp; done) | (simp [*]; done)), H', ⟨Nat.le_refl _⟩, ⟨by (with_reducible repeat (first | apply Kd.R_alloc | apply Kd.R_drewN | apply Kd.R_drew)); exact Kd.R_mono (Kd.R_far (p := ⟨gb330, 2, none⟩) (Kd.R_far (p := ⟨gb330, 1, none⟩) (Kd.R_far (p := ⟨gb330, 0, none⟩) (Kd.R_types HO327.out BK330.out (by decide)) (fun _ hk => hk.2) (.string t324)) (fun _ hk => hk.2) (.slice Ao13 t325.length co13)) (fun _ hk => hk.2) (.bool t328)) (fun _ hk => trivial)⟩, ⟨by (with_reducible repeat (first | refine blk_drewN ?_ _ | refine blk_drew ?_ | refine blk_alloc ?_ _)); refine blk_put (cs := #[.string t324, .slice Ao13 t325.length co13, .bool false]) ?_ 2 _ rfl; (with_reducible repeat (first | refine blk_drewN ?_ _ | refine blk_drew ?_ | refine blk_alloc ?_ _)); refine blk_put (cs := #[.string t324, .slice none 0 0, .bool false]) ?_ 1 _ rfl; (with_reducible repeat (first | refine blk_drewN ?_ _ | refine blk_drew ?_ | refine blk_alloc ?_ _)); refine blk_put (cs := #[.string (⟨#[]⟩ : ByteArray), .slice none 0 0, .bool false]) ?_ 0 _ rfl; (with_reducible repeat (first | refine blk_drewN ?_ _ | refine blk_drew ?_ | refine blk_alloc ?_ _)); exact BK330.out⟩, ⟨by repeat (first | (with_reducible first | exact HB.out | apply below_alloc | apply pw_below_drewN | apply below_drew1 | refine below_set ?_ GE330.out) | exact HB.out)⟩⟩
        case round =>
          clear H'
          try clear c1
          try clear p2
          try clear c7
          try clear c8
          try clear c10
          try clear c11
          try clear hcz12_0
          try clear hcz12_1
          try clear hcz12_2
          try clear hfz12_0
          try clear hfz12_1
          try clear hfz12_2
          try clear p2
          obtain ⟨x9_2, rfl, HA, HK2, HO_331001, BK330, HB⟩ := hrel
          cases gk with
          | zero => exact absurd HA.out (by simp [carlinglaw04_FaceFind.l0])
          | succ k2 =>
            have H := HA.out
            clear HA
            simp only [carlinglaw04_FaceFind.l0] at H
            by_cases c14 : x9_2 < (l0.length : Int)
            · rw [if_pos c14] at H
              have c14b0 : decide (x9_2 < (l0.length : Int)) = true := decide_eq_true c14
              clear c14
              by_cases c15 : 0 ≤ x9_2
              · rw [if_pos c15] at H
                have c15b0 : decide (0 ≤ x9_2) = true := decide_eq_true c15
                clear c15
                by_cases c16 : ((rd_T34 l0 x9_2).f0).toList = a1.toList
                · rw [if_pos c16] at H
                  have c16b0 : (((rd_T34 l0 x9_2).f0).toList == a1.toList) = true := beq_iff_eq.mpr c16
                  have c16b1 : (((rd_T34 l0 x9_2).f0).toList != a1.toList) = false := bne_eq_false_iff_eq.mpr c16
                  clear c16
                  obtain ⟨y332, hy332⟩ : ∃ y_ : List (S34), y_ = (([(⟨t324, t325, t328⟩ : S34)] : List (S34))) := ⟨_, rfl⟩
                  replace H : (if x9_2 ≤ (wrap64 (x9_2 + 1)) then (if (wrap64 (x9_2 + 1)) ≤ (l0.length : Int) then ((carlingref04_Same.f k2 y332 ((l0.take ((wrap64 (x9_2 + 1)) : Int).toNat).drop (x9_2 : Int).toNat)).bind fun t339 => (if t322 = true then (if t329 = true then (some t339) else (some false)) else (some false))) else (none)) else (none)) = some r := by first | (rw [hy332]; with_reducible exact H) | (have H2_ := (Option.bind_some _ _).symm.trans H; rw [hy332]; with_reducible exact H2_) | (have H2_ := (Option.bind_some _ _).symm.trans H; with_reducible exact H2_) | with_reducible exact H | (rw [hy332]; exact H) | exact H
                  have Ny332 := Aside0.mk hy332
                  clear hy332
                  have c17b0 := eq_true (of_decide_eq_true (by first | (with_reducible assumption) | assumption) : 0 ≤ x9_2)
                  by_cases c18 : x9_2 ≤ (wrap64 (x9_2 + 1))
                  · rw [if_pos c18] at H
                    have c18b0 := eq_true c18
                    have c18b1 : decide (x9_2 ≤ (wrap64 (x9_2 + 1))) = true := decide_eq_true c18
                    by_cases c19 : (wrap64 (x9_2 + 1)) ≤ (l0.length : Int)
                    · rw [if_pos c19] at H
                      have c19b0 := eq_true c19
                      have c19b1 : decide ((wrap64 (x9_2 + 1)) ≤ (l0.length : Int)) = true := decide_eq_true c19
                      obtain ⟨y335, hy335⟩ : ∃ y_ : List (S34), y_ = ((l0.take ((wrap64 (x9_2 + 1)) : Int).toNat).drop (x9_2 : Int).toNat) := ⟨_, rfl⟩
                      replace H : ((carlingref04_Same.f k2 y332 y335).bind fun t339 => (if t322 = true then (if t329 = true then (some t339) else (some false)) else (some false))) = some r := by first | (rw [hy335]; with_reducible exact H) | (have H2_ := (Option.bind_some _ _).symm.trans H; rw [hy335]; with_reducible exact H2_) | (have H2_ := (Option.bind_some _ _).symm.trans H; with_reducible exact H2_) | with_reducible exact H | (rw [hy335]; exact H) | exact H
                      have Ny335 := Aside0.mk hy335
                      clear hy335
                      replace H := Option.bind_eq_some_iff.mp H
                      obtain ⟨t339, A200, H⟩ := H
                      replace H : (if t322 = true then (if t329 = true then (some t339) else (some false)) else (some false)) = some r := H
                      have A20 := Aside0.mk A200
                      clear A200
                      by_cases c21 : t322 = true
                      · subst c21
                        have H1 : (if t329 = true then (some t339) else (some false)) = some r := by rw [if_pos rfl] at H; exact H
                        clear H
                        have H := H1
                        clear H1
                        by_cases c22 : t329 = true
                        · subst c22
                          have H1 : (some t339) = some r := by rw [if_pos rfl] at H; exact H
                          clear H
                          have H := H1
                          clear H1
                          obtain rfl := Option.some.inj H
                          have p331 : 0 ≤ (x9_2 : Int) := of_decide_eq_true (by first | (with_reducible assumption) | assumption)
                          have q331 : x9_2 < (l0.length : Int) := of_decide_eq_true (by first | (with_reducible assumption) | assumption)
                          obtain ⟨ad331, A331_1, c331_1, e331, hx331_0, hx331_1, hx331_2, hl331_1, hi331_1⟩ := at_T34 HR0.out x9_2 p331 q331
                          cases e331
                          replace hx331_0 := (HB.out.cell (World.block_lt_of_cell? w _ hx331_0)).trans hx331_0
                          replace hx331_1 := (HB.out.cell (World.block_lt_of_cell? w _ hx331_1)).trans hx331_1
                          replace hx331_2 := (HB.out.cell (World.block_lt_of_cell? w _ hx331_2)).trans hx331_2
                          have HR331_1 := Aside0.mk hi331_1
                          have HC331_1 := Aside0.mk hl331_1
                          clear hi331_1 hl331_1
                          replace p331 := eq_true p331
                          replace q331 := eq_true q331
                          try go_wp2
                          have n0_ := Aside0.mk (Kd.R_drew HO_331001.out)
                          have n1_ := Aside0.mk (blk_drew BK330.out)
                          have n2_ := Aside0.mk (below_drew1 HB.out)
                          clear HO_331001
                          clear BK330
                          clear HB
                          have HO_331001 := n0_
                          have BK330 := n1_
                          have HB := n2_
                          clear n0_ n1_ n2_
                          have q24 : ((wrap64 (x9_2 + 1)) : Int) ≤ ((l0.length : Int) : Int) := of_decide_eq_true (by first | (with_reducible assumption) | assumption)
                          obtain ⟨i024, hi024, _, hsz24, _⟩ := info_parts info34
                          have hroom24 : l0.length ≤ c0 := HC0.out
                          have hC24 : Kd.C k34 _ (some ad331) l0.length l0 := HR0.out
                          have ql24 : (x9_2 : Int) ≤ ((wrap64 (x9_2 + 1)) : Int) := of_decide_eq_true (by first | (with_reducible assumption) | assumption)
                          have q024 : (0 : Int) ≤ (x9_2 : Int) := of_decide_eq_true (by first | (with_reducible assumption) | assumption)
                          have hcut24 := cut_mid (P := Tryd.prog) 22 34 .i64 .i64 Tryd.underlying22 hi024 3 hsz24 (some ad331) l0.length c0 x9_2 (wrap64 (x9_2 + 1)) q024 ql24 q24 hroom24
                          have hr24 := Kd.C_mid (lo := (x9_2 : Int).toNat) (hi := ((wrap64 (x9_2 + 1)) : Int).toNat) (c := c0) hC24 (by omega) (by omega) hroom24
                          obtain ⟨A24, hA24⟩ : ∃ A1, A1 = (if c0 = (x9_2 : Int).toNat then (some ad331) else ((some ad331) : Option Addr).map (·.add ((x9_2 : Int).toNat * 3))) := ⟨_, rfl⟩
                          obtain ⟨c24, hc24⟩ : ∃ c1, c1 = c0 - (x9_2 : Int).toNat := ⟨_, rfl⟩
                          have hy24 : y335.length = ((wrap64 (x9_2 + 1)) : Int).toNat - (x9_2 : Int).toNat := (by rw [Ny335.out, List.length_drop, List.length_take] <;> omega)
                          rw [show ((l0).take ((wrap64 (x9_2 + 1)) : Int).toNat).drop (x9_2 : Int).toNat = y335 from Ny335.out.symm] at hr24
                          replace hr24 : Kd.C k34 _ A24 y335.length y335 := (by rw [hA24]; exact hr24)
                          rw [← hy24, ← hA24, ← hc24] at hcut24
                          have HR338 := Aside0.mk hr24
                          have HC338 := Aside0.mk (show y335.length ≤ c24 from by rw [hy24, hc24]; exact Nat.sub_le_sub_right (Nat.le_trans (by omega) hroom24) _)
                          clear hr24 hC24 hroom24 hi024 hsz24 hc24
                          have KY24 := Aside0.mk hy24
                          have KA24 := Aside0.mk hA24
                          clear hy24 hA24
                          replace q24 := eq_true q24
                          refine start_ (n := 9) (S := fun w' => w'.cell? ⟨gb330, 0, none⟩ = some (.string t324) ∧ w'.cell? ⟨gb330, 1, none⟩ = some (.slice Ao13 t325.length co13) ∧ w'.cell? ⟨gb330, 2, none⟩ = some (.bool t328)) (ds := []) #[false, false, false, false, false, false, false, false, false] (by kernel_rfl) rfl rfl ⟨(blk_cell BK330.out 0).trans rfl, (blk_cell BK330.out 1).trans rfl, (blk_cell BK330.out 2).trans rfl⟩ (fun hHeld => ?_); refine with_tabW carlinglaw04_FaceFind.tab10 carlinglaw04_FaceFind.bits10 (fun HT_ HW_ => ?_)
                          generalize wr.drew = w23 at HO_331001 BK330 HB HR338 hHeld ⊢
                          refine pure_ (i := 2) (N := some 43) (v := ?_) (a' := ?_) #[false, false, true, false, false, false, false, false, false] rfl rfl (any_of HT_.out (by kernel_rfl)) (fun _ _ _ h => h) (Or.inl ⟨by rfl, ?_⟩) ?_ ?_
                          rotate_left
                          · intro w'
                            go_simp
                            with_reducible rfl
                          rotate_left
                          · simp only [Act.put, List.setIfInBounds_toArray, List.set_cons_zero, List.set_cons_succ, i64_w, i32_w]
                            rfl
                          refine pure_ (i := 3) (N := some 44) (v := ?_) (a' := ?_) #[false, false, true, true, false, false, false, false, false] rfl rfl (any_of HT_.out (by kernel_rfl)) (fun _ _ _ h => h) (Or.inl ⟨by rfl, ?_⟩) ?_ ?_
                          rotate_left
                          · intro w'
                            go_simp
                            with_reducible rfl
                          rotate_left
                          · simp only [Act.put, List.setIfInBounds_toArray, List.set_cons_zero, List.set_cons_succ, i64_w, i32_w]
                            rfl
                          refine pure_ (i := 4) (N := some 45) (v := ?_) (a' := ?_) #[false, false, true, true, true, false, false, false, false] rfl rfl (any_of HT_.out (by kernel_rfl)) (fun _ _ _ h => h) (Or.inl ⟨by rfl, ?_⟩) ?_ ?_
                          rotate_left
                          · intro w'
                            go_simp
                            with_reducible rfl
                          rotate_left
                          · simp only [Act.put, List.setIfInBounds_toArray, List.set_cons_zero, List.set_cons_succ, i64_w, i32_w]
                            rfl
                          refine pure_ (i := 5) (N := some 46) (v := ?_) (a' := ?_) #[false, false, true, true, true, true, false, false, false] rfl rfl (any_of HT_.out (by kernel_rfl)) (fun _ _ _ h => h) (Or.inl ⟨by rfl, ?_⟩) ?_ ?_
                          rotate_left
                          · intro w'
                            go_simp
                            with_reducible rfl
                          rotate_left
                          · simp only [Act.put, List.setIfInBounds_toArray, List.set_cons_zero, List.set_cons_succ, i64_w, i32_w]
                            rfl
                          refine pure_ (i := 6) (N := some 47) (v := ?_) (a' := ?_) #[false, false, true, true, true, true, true, false, false] rfl rfl (any_of HT_.out (by kernel_rfl)) (fun _ _ _ h => h) (Or.inl ⟨by rfl, ?_⟩) ?_ ?_
                          rotate_left
                          · intro w'
                            go_simp
                            with_reducible rfl
                          rotate_left
                          · simp only [Act.put, List.setIfInBounds_toArray, List.set_cons_zero, List.set_cons_succ, i64_w, i32_w]
                            rfl
                          refine take_ (i := 0) (N := some 41) (v := ?_) (a' := ?_) #[true, false, true, true, true, true, true, false, false] rfl rfl (take_ofW HT_.out HW_.out (by kernel_rfl)) (fun _ _ _ h => h) (Or.inl ⟨by rfl, ?_⟩) hHeld ?_ ?_
                          rotate_left
                          · rintro w' ⟨s0, s1, s2⟩
                            go_simp
                            with_reducible rfl
                          rotate_left
                          · simp only [Act.put, List.setIfInBounds_toArray, List.set_cons_zero, List.set_cons_succ, i64_w, i32_w]
                            rfl
                          refine one_ (i := 1) (N := some 42) #[true, true, true, true, true, true, true, false, false] rfl rfl (one_of HT_.out (by kernel_rfl)) (by decide) (fun K hK => ?_)
                          refine Kd.N_lit_step k34 _ 34 ?hg (N' := 42) ?hd (xs := ([(⟨t324, t325, t328⟩ : S34)] : List (S34))) (inner := [.string t324, .slice Ao13 t325.length co13, .bool t328]) (ok := (fun k_ => k_ ≠ gb330)) (okp := (fun k_ => k_ ≠ gb330)) ?hr ?hp (fun _ hk => hk) ((show ∀ k_, w23.heap.size ≤ k_ → (fun k_ => k_ ≠ gb330) k_ from fun k_ hk => Kd.freshB (g := gb330) (o := .cells #[.string t324, .slice Ao13 t325.length co13, .bool t328] 34 (0, 0)) (by (with_reducible repeat (first | refine blk_drewN ?_ _ | refine blk_drew ?_ | refine blk_alloc ?_ _)); exact BK330.out) k_ hk) _ (Nat.le_refl _)) (Below.refl _ _) (Nat.le_refl _) (by simp) ?_; (case hd => rfl); (case hg => rfl); (case hr => first | (go_simp; done) | (go_simp; rfl)); (case hp => exact (Reps.c3 (show Kd.FK k34 _ _ (⟨t324, t325, t328⟩ : S34) [.string t324, .slice Ao13 t325.length co13, .bool t328] from (k34_mkF _ _ (⟨t324, t325, t328⟩ : S34) (Kd.R_reads' (Kd.R_mono (ok' := (fun k_ => k_ ≠ gb330)) (Kd.R_types (HO_331001.out) BK330.out (by decide)) (fun k_ hk => hk.2))).2.1 (Kd.R_F (Kd.R_mono (ok' := (fun k_ => k_ ≠ gb330)) (Kd.R_types (HO_331001.out) BK330.out (by decide)) (fun k_ hk => hk.2))))) (Reps.none _ _)))
                          intro v333 w25 ho26 hb hg_ hnew_
                          clear hg_ hnew_
                          (first | rw [← Ny332.out] at ho26 | (simp only [Int.reduceToNat] at ho26; rw [← Ny332.out] at ho26))
                          have n0_ := Aside0.mk (Kd.N_lower ho26 (below_size (by repeat (first | (with_reducible first | exact HB.out | apply below_alloc | apply pw_below_drewN | apply below_drew1 | refine below_set ?_ GE330.out) | exact HB.out))))
                          have n1_ := Aside0.mk (blk_below (g := gb330) (o := .cells #[.string t324, .slice Ao13 t325.length co13, .bool t328] 34 (0, 0)) (by (with_reducible repeat (first | refine blk_drewN ?_ _ | refine blk_drew ?_ | refine blk_alloc ?_ _)); exact BK330.out) hb)
                          have n2_ := Aside0.mk (below_step (by repeat (first | (with_reducible first | exact HB.out | apply below_alloc | apply pw_below_drewN | apply below_drew1 | refine below_set ?_ GE330.out) | exact HB.out)) hb)
                          clear BK330
                          clear HB
                          clear HO_331001
                          have HO334 := n0_
                          have BK330 := n1_
                          have HB := n2_
                          clear n0_ n1_ n2_
                          clear hb ho26
                          obtain ⟨Ao27, co27, eo27⟩ := Kd.N_slice HO334.out
                          (first | subst eo27 | (injection eo27 with f1_ f2_ f3_; have f4_ := f1_.symm; have f5_ := f3_.symm; clear f1_ f2_ f3_; subst f4_; subst f5_))
                          refine hK.out _ _ ⟨(blk_cell BK330.out 0).trans rfl, (blk_cell BK330.out 1).trans rfl, (blk_cell BK330.out 2).trans rfl⟩ (fun hHeld => ?_)
                          clear hK K
                          refine norm_ (a' := ?_) ?_ ?_
                          rotate_left
                          · show Act.put _ (some 42) _ = _
                            simp only [Act.put, List.setIfInBounds_toArray, List.set_cons_zero, List.set_cons_succ, i64_w, i32_w]
                            rfl
                          refine one_ (i := 7) (N := some 48) #[true, true, true, true, true, true, true, true, false] rfl rfl (one_of HT_.out (by kernel_rfl)) (by decide) (fun K hK => ?_)
                          refine goes_ Tryd.func16 (by kernel_rfl) rfl #[.slice Ao27 y332.length co27, .slice A24 y335.length c24] (by rfl) rfl rfl (by (try simp only [List.map_toArray, List.map_cons, List.map_nil]); first | done | rfl | (simp only [List.length_drop, List.length_take]; rfl)) ?_
                          with_reducible refine (carlingref04_Same.calls k2 _ _ y332 _ _ y335 t339 _ ?side1 ?side2 ?side3 ?side4 A20.out).mono ?_
                          (case side1 => repeat (first | exact (Kd.N_reads' HO334.out).2.2 | (with_reducible refine Kd.C_alloc ?_ _) | (with_reducible refine Kd.C_drewN ?_ _) | (with_reducible refine Kd.C_drew ?_)))
                          (case side2 => exact (Kd.N_reads' HO334.out).2.1)
                          (case side3 => repeat (first | exact (Kd.C_below HR338.out HB.out) | (with_reducible refine Kd.C_alloc ?_ _) | (with_reducible refine Kd.C_drewN ?_ _) | (with_reducible refine Kd.C_drew ?_)))
                          (case side4 => exact HC338.out)
                          rintro e w' ⟨rfl, ⟨nd, rfl⟩⟩
                          refine ⟨_, rfl, ?_⟩
                          refine hK.out _ _ ⟨(blk_cell BK330.out 0).trans rfl, (blk_cell BK330.out 1).trans rfl, (blk_cell BK330.out 2).trans rfl⟩ (fun hHeld => ?_)
                          clear hK K
                          refine norm_ (a' := ?_) ?_ ?_
                          rotate_left
                          · show Act.put _ (some 48) _ = _
                            simp only [Act.put, List.setIfInBounds_toArray, List.set_cons_zero, List.set_cons_succ, i64_w, i32_w]
                            rfl
                          refine pure_ (i := 8) (N := some 10) (v := ?_) (a' := ?_) #[true, true, true, true, true, true, true, true, true] rfl rfl (any_of HT_.out (by kernel_rfl)) (fun _ _ _ h => h) (Or.inl ⟨by rfl, ?_⟩) ?_ ?_
                          rotate_left
                          · intro w'
                            go_simp
                            with_reducible rfl
                          rotate_left
                          · simp only [Act.put, List.setIfInBounds_toArray, List.set_cons_zero, List.set_cons_succ, i64_w, i32_w]
                            rfl
                          refine done_ (done_of HT_.out (by kernel_rfl)) ?_
                          try go_wp2
                          go_ret
                          exact ⟨by first | rfl | (simp [errW_none, errW_some] <;> rfl) | (simp [*, errW_none, errW_some] <;> rfl), by repeat (first | (with_reducible first | exact HB.out | apply below_alloc | apply pw_below_drewN | apply below_drew1 | refine below_set ?_ GE330.out) | exact HB.out)⟩
                        · replace c22 := Bool.eq_false_iff.mpr c22
                          subst c22
                          have H1 : (some false) = some r := by rw [if_neg (show ¬ (false = true) by decide)] at H; exact H
                          clear H
                          have H := H1
                          clear H1
                          obtain rfl := Option.some.inj H
                          have p331 : 0 ≤ (x9_2 : Int) := of_decide_eq_true (by first | (with_reducible assumption) | assumption)
                          have q331 : x9_2 < (l0.length : Int) := of_decide_eq_true (by first | (with_reducible assumption) | assumption)
                          obtain ⟨ad331, A331_1, c331_1, e331, hx331_0, hx331_1, hx331_2, hl331_1, hi331_1⟩ := at_T34 HR0.out x9_2 p331 q331
                          cases e331
                          replace hx331_0 := (HB.out.cell (World.block_lt_of_cell? w _ hx331_0)).trans hx331_0
                          replace hx331_1 := (HB.out.cell (World.block_lt_of_cell? w _ hx331_1)).trans hx331_1
                          replace hx331_2 := (HB.out.cell (World.block_lt_of_cell? w _ hx331_2)).trans hx331_2
                          have HR331_1 := Aside0.mk hi331_1
                          have HC331_1 := Aside0.mk hl331_1
                          clear hi331_1 hl331_1
                          replace p331 := eq_true p331
                          replace q331 := eq_true q331
                          try go_wp2
                          have n0_ := Aside0.mk (Kd.R_drew HO_331001.out)
                          have n1_ := Aside0.mk (blk_drew BK330.out)
                          have n2_ := Aside0.mk (below_drew1 HB.out)
                          clear HO_331001
                          clear BK330
                          clear HB
                          have HO_331001 := n0_
                          have BK330 := n1_
                          have HB := n2_
                          clear n0_ n1_ n2_
                          have q29 : ((wrap64 (x9_2 + 1)) : Int) ≤ ((l0.length : Int) : Int) := of_decide_eq_true (by first | (with_reducible assumption) | assumption)
                          obtain ⟨i029, hi029, _, hsz29, _⟩ := info_parts info34
                          have hroom29 : l0.length ≤ c0 := HC0.out
                          have hC29 : Kd.C k34 _ (some ad331) l0.length l0 := HR0.out
                          have ql29 : (x9_2 : Int) ≤ ((wrap64 (x9_2 + 1)) : Int) := of_decide_eq_true (by first | (with_reducible assumption) | assumption)
                          have q029 : (0 : Int) ≤ (x9_2 : Int) := of_decide_eq_true (by first | (with_reducible assumption) | assumption)
                          have hcut29 := cut_mid (P := Tryd.prog) 22 34 .i64 .i64 Tryd.underlying22 hi029 3 hsz29 (some ad331) l0.length c0 x9_2 (wrap64 (x9_2 + 1)) q029 ql29 q29 hroom29
                          have hr29 := Kd.C_mid (lo := (x9_2 : Int).toNat) (hi := ((wrap64 (x9_2 + 1)) : Int).toNat) (c := c0) hC29 (by omega) (by omega) hroom29
                          obtain ⟨A29, hA29⟩ : ∃ A1, A1 = (if c0 = (x9_2 : Int).toNat then (some ad331) else ((some ad331) : Option Addr).map (·.add ((x9_2 : Int).toNat * 3))) := ⟨_, rfl⟩
                          obtain ⟨c29, hc29⟩ : ∃ c1, c1 = c0 - (x9_2 : Int).toNat := ⟨_, rfl⟩
                          have hy29 : y335.length = ((wrap64 (x9_2 + 1)) : Int).toNat - (x9_2 : Int).toNat := (by rw [Ny335.out, List.length_drop, List.length_take] <;> omega)
                          rw [show ((l0).take ((wrap64 (x9_2 + 1)) : Int).toNat).drop (x9_2 : Int).toNat = y335 from Ny335.out.symm] at hr29
                          replace hr29 : Kd.C k34 _ A29 y335.length y335 := (by rw [hA29]; exact hr29)
                          rw [← hy29, ← hA29, ← hc29] at hcut29
                          have HR338 := Aside0.mk hr29
                          have HC338 := Aside0.mk (show y335.length ≤ c29 from by rw [hy29, hc29]; exact Nat.sub_le_sub_right (Nat.le_trans (by omega) hroom29) _)
                          clear hr29 hC29 hroom29 hi029 hsz29 hc29
                          have KY29 := Aside0.mk hy29
                          have KA29 := Aside0.mk hA29
                          clear hy29 hA29
                          replace q29 := eq_true q29
                          refine start_ (n := 9) (S := fun w' => w'.cell? ⟨gb330, 0, none⟩ = some (.string t324) ∧ w'.cell? ⟨gb330, 1, none⟩ = some (.slice Ao13 t325.length co13) ∧ w'.cell? ⟨gb330, 2, none⟩ = some (.bool t328)) (ds := []) #[false, false, false, false, false, false, false, false, false] (by kernel_rfl) rfl rfl ⟨(blk_cell BK330.out 0).trans rfl, (blk_cell BK330.out 1).trans rfl, (blk_cell BK330.out 2).trans rfl⟩ (fun hHeld => ?_); refine with_tabW carlinglaw04_FaceFind.tab10 carlinglaw04_FaceFind.bits10 (fun HT_ HW_ => ?_)
                          generalize wr.drew = w28 at HO_331001 BK330 HB HR338 hHeld ⊢
                          refine pure_ (i := 2) (N := some 43) (v := ?_) (a' := ?_) #[false, false, true, false, false, false, false, false, false] rfl rfl (any_of HT_.out (by kernel_rfl)) (fun _ _ _ h => h) (Or.inl ⟨by rfl, ?_⟩) ?_ ?_
                          rotate_left
                          · intro w'
                            go_simp
                            with_reducible rfl
                          rotate_left
                          · simp only [Act.put, List.setIfInBounds_toArray, List.set_cons_zero, List.set_cons_succ, i64_w, i32_w]
                            rfl
                          refine pure_ (i := 3) (N := some 44) (v := ?_) (a' := ?_) #[false, false, true, true, false, false, false, false, false] rfl rfl (any_of HT_.out (by kernel_rfl)) (fun _ _ _ h => h) (Or.inl ⟨by rfl, ?_⟩) ?_ ?_
                          rotate_left
                          · intro w'
                            go_simp
                            with_reducible rfl
                          rotate_left
                          · simp only [Act.put, List.setIfInBounds_toArray, List.set_cons_zero, List.set_cons_succ, i64_w, i32_w]
                            rfl
                          refine pure_ (i := 4) (N := some 45) (v := ?_) (a' := ?_) #[false, false, true, true, true, false, false, false, false] rfl rfl (any_of HT_.out (by kernel_rfl)) (fun _ _ _ h => h) (Or.inl ⟨by rfl, ?_⟩) ?_ ?_
                          rotate_left
                          · intro w'
                            go_simp
                            with_reducible rfl
                          rotate_left
                          · simp only [Act.put, List.setIfInBounds_toArray, List.set_cons_zero, List.set_cons_succ, i64_w, i32_w]
                            rfl
                          refine pure_ (i := 5) (N := some 46) (v := ?_) (a' := ?_) #[false, false, true, true, true, true, false, false, false] rfl rfl (any_of HT_.out (by kernel_rfl)) (fun _ _ _ h => h) (Or.inl ⟨by rfl, ?_⟩) ?_ ?_
                          rotate_left
                          · intro w'
                            go_simp
                            with_reducible rfl
                          rotate_left
                          · simp only [Act.put, List.setIfInBounds_toArray, List.set_cons_zero, List.set_cons_succ, i64_w, i32_w]
                            rfl
                          refine pure_ (i := 6) (N := some 47) (v := ?_) (a' := ?_) #[false, false, true, true, true, true, true, false, false] rfl rfl (any_of HT_.out (by kernel_rfl)) (fun _ _ _ h => h) (Or.inl ⟨by rfl, ?_⟩) ?_ ?_
                          rotate_left
                          · intro w'
                            go_simp
                            with_reducible rfl
                          rotate_left
                          · simp only [Act.put, List.setIfInBounds_toArray, List.set_cons_zero, List.set_cons_succ, i64_w, i32_w]
                            rfl
                          refine take_ (i := 0) (N := some 41) (v := ?_) (a' := ?_) #[true, false, true, true, true, true, true, false, false] rfl rfl (take_ofW HT_.out HW_.out (by kernel_rfl)) (fun _ _ _ h => h) (Or.inl ⟨by rfl, ?_⟩) hHeld ?_ ?_
                          rotate_left
                          · rintro w' ⟨s0, s1, s2⟩
                            go_simp
                            with_reducible rfl
                          rotate_left
                          · simp only [Act.put, List.setIfInBounds_toArray, List.set_cons_zero, List.set_cons_succ, i64_w, i32_w]
                            rfl
                          refine one_ (i := 1) (N := some 42) #[true, true, true, true, true, true, true, false, false] rfl rfl (one_of HT_.out (by kernel_rfl)) (by decide) (fun K hK => ?_)
                          refine Kd.N_lit_step k34 _ 34 ?hg (N' := 42) ?hd (xs := ([(⟨t324, t325, t328⟩ : S34)] : List (S34))) (inner := [.string t324, .slice Ao13 t325.length co13, .bool t328]) (ok := (fun k_ => k_ ≠ gb330)) (okp := (fun k_ => k_ ≠ gb330)) ?hr ?hp (fun _ hk => hk) ((show ∀ k_, w28.heap.size ≤ k_ → (fun k_ => k_ ≠ gb330) k_ from fun k_ hk => Kd.freshB (g := gb330) (o := .cells #[.string t324, .slice Ao13 t325.length co13, .bool t328] 34 (0, 0)) (by (with_reducible repeat (first | refine blk_drewN ?_ _ | refine blk_drew ?_ | refine blk_alloc ?_ _)); exact BK330.out) k_ hk) _ (Nat.le_refl _)) (Below.refl _ _) (Nat.le_refl _) (by simp) ?_; (case hd => rfl); (case hg => rfl); (case hr => first | (go_simp; done) | (go_simp; rfl)); (case hp => exact (Reps.c3 (show Kd.FK k34 _ _ (⟨t324, t325, t328⟩ : S34) [.string t324, .slice Ao13 t325.length co13, .bool t328] from (k34_mkF _ _ (⟨t324, t325, t328⟩ : S34) (Kd.R_reads' (Kd.R_mono (ok' := (fun k_ => k_ ≠ gb330)) (Kd.R_types (HO_331001.out) BK330.out (by decide)) (fun k_ hk => hk.2))).2.1 (Kd.R_F (Kd.R_mono (ok' := (fun k_ => k_ ≠ gb330)) (Kd.R_types (HO_331001.out) BK330.out (by decide)) (fun k_ hk => hk.2))))) (Reps.none _ _)))
                          intro v333 w30 ho31 hb hg_ hnew_
                          clear hg_ hnew_
                          (first | rw [← Ny332.out] at ho31 | (simp only [Int.reduceToNat] at ho31; rw [← Ny332.out] at ho31))
                          have n0_ := Aside0.mk (Kd.N_lower ho31 (below_size (by repeat (first | (with_reducible first | exact HB.out | apply below_alloc | apply pw_below_drewN | apply below_drew1 | refine below_set ?_ GE330.out) | exact HB.out))))
                          have n1_ := Aside0.mk (blk_below (g := gb330) (o := .cells #[.string t324, .slice Ao13 t325.length co13, .bool t328] 34 (0, 0)) (by (with_reducible repeat (first | refine blk_drewN ?_ _ | refine blk_drew ?_ | refine blk_alloc ?_ _)); exact BK330.out) hb)
                          have n2_ := Aside0.mk (below_step (by repeat (first | (with_reducible first | exact HB.out | apply below_alloc | apply pw_below_drewN | apply below_drew1 | refine below_set ?_ GE330.out) | exact HB.out)) hb)
                          clear BK330
                          clear HB
                          clear HO_331001
                          have HO334 := n0_
                          have BK330 := n1_
                          have HB := n2_
                          clear n0_ n1_ n2_
                          clear hb ho31
                          obtain ⟨Ao32, co32, eo32⟩ := Kd.N_slice HO334.out
                          (first | subst eo32 | (injection eo32 with f1_ f2_ f3_; have f4_ := f1_.symm; have f5_ := f3_.symm; clear f1_ f2_ f3_; subst f4_; subst f5_))
                          refine hK.out _ _ ⟨(blk_cell BK330.out 0).trans rfl, (blk_cell BK330.out 1).trans rfl, (blk_cell BK330.out 2).trans rfl⟩ (fun hHeld => ?_)
                          clear hK K
                          refine norm_ (a' := ?_) ?_ ?_
                          rotate_left
                          · show Act.put _ (some 42) _ = _
                            simp only [Act.put, List.setIfInBounds_toArray, List.set_cons_zero, List.set_cons_succ, i64_w, i32_w]
                            rfl
                          refine one_ (i := 7) (N := some 48) #[true, true, true, true, true, true, true, true, false] rfl rfl (one_of HT_.out (by kernel_rfl)) (by decide) (fun K hK => ?_)
                          refine goes_ Tryd.func16 (by kernel_rfl) rfl #[.slice Ao32 y332.length co32, .slice A29 y335.length c29] (by rfl) rfl rfl (by (try simp only [List.map_toArray, List.map_cons, List.map_nil]); first | done | rfl | (simp only [List.length_drop, List.length_take]; rfl)) ?_
                          with_reducible refine (carlingref04_Same.calls k2 _ _ y332 _ _ y335 t339 _ ?side1 ?side2 ?side3 ?side4 A20.out).mono ?_
                          (case side1 => repeat (first | exact (Kd.N_reads' HO334.out).2.2 | (with_reducible refine Kd.C_alloc ?_ _) | (with_reducible refine Kd.C_drewN ?_ _) | (with_reducible refine Kd.C_drew ?_)))
                          (case side2 => exact (Kd.N_reads' HO334.out).2.1)
                          (case side3 => repeat (first | exact (Kd.C_below HR338.out HB.out) | (with_reducible refine Kd.C_alloc ?_ _) | (with_reducible refine Kd.C_drewN ?_ _) | (with_reducible refine Kd.C_drew ?_)))
                          (case side4 => exact HC338.out)
                          rintro e w' ⟨rfl, ⟨nd, rfl⟩⟩
                          refine ⟨_, rfl, ?_⟩
                          refine hK.out _ _ ⟨(blk_cell BK330.out 0).trans rfl, (blk_cell BK330.out 1).trans rfl, (blk_cell BK330.out 2).trans rfl⟩ (fun hHeld => ?_)
                          clear hK K
                          refine norm_ (a' := ?_) ?_ ?_
                          rotate_left
                          · show Act.put _ (some 48) _ = _
                            simp only [Act.put, List.setIfInBounds_toArray, List.set_cons_zero, List.set_cons_succ, i64_w, i32_w]
                            rfl
                          refine pure_ (i := 8) (N := some 10) (v := ?_) (a' := ?_) #[true, true, true, true, true, true, true, true, true] rfl rfl (any_of HT_.out (by kernel_rfl)) (fun _ _ _ h => h) (Or.inl ⟨by rfl, ?_⟩) ?_ ?_
                          rotate_left
                          · intro w'
                            go_simp
                            with_reducible rfl
                          rotate_left
                          · simp only [Act.put, List.setIfInBounds_toArray, List.set_cons_zero, List.set_cons_succ, i64_w, i32_w]
                            rfl
                          refine done_ (done_of HT_.out (by kernel_rfl)) ?_
                          try go_wp2
                          go_ret
                          exact ⟨by first | rfl | (simp [errW_none, errW_some] <;> rfl) | (simp [*, errW_none, errW_some] <;> rfl), by repeat (first | (with_reducible first | exact HB.out | apply below_alloc | apply pw_below_drewN | apply below_drew1 | refine below_set ?_ GE330.out) | exact HB.out)⟩
                      · replace c21 := Bool.eq_false_iff.mpr c21
                        subst c21
                        have H1 : (some false) = some r := by rw [if_neg (show ¬ (false = true) by decide)] at H; exact H
                        clear H
                        have H := H1
                        clear H1
                        obtain rfl := Option.some.inj H
                        have p331 : 0 ≤ (x9_2 : Int) := of_decide_eq_true (by first | (with_reducible assumption) | assumption)
                        have q331 : x9_2 < (l0.length : Int) := of_decide_eq_true (by first | (with_reducible assumption) | assumption)
                        obtain ⟨ad331, A331_1, c331_1, e331, hx331_0, hx331_1, hx331_2, hl331_1, hi331_1⟩ := at_T34 HR0.out x9_2 p331 q331
                        cases e331
                        replace hx331_0 := (HB.out.cell (World.block_lt_of_cell? w _ hx331_0)).trans hx331_0
                        replace hx331_1 := (HB.out.cell (World.block_lt_of_cell? w _ hx331_1)).trans hx331_1
                        replace hx331_2 := (HB.out.cell (World.block_lt_of_cell? w _ hx331_2)).trans hx331_2
                        have HR331_1 := Aside0.mk hi331_1
                        have HC331_1 := Aside0.mk hl331_1
                        clear hi331_1 hl331_1
                        replace p331 := eq_true p331
                        replace q331 := eq_true q331
                        try go_wp2
                        have n0_ := Aside0.mk (Kd.R_drew HO_331001.out)
                        have n1_ := Aside0.mk (blk_drew BK330.out)
                        have n2_ := Aside0.mk (below_drew1 HB.out)
                        clear HO_331001
                        clear BK330
                        clear HB
                        have HO_331001 := n0_
                        have BK330 := n1_
                        have HB := n2_
                        clear n0_ n1_ n2_
                        have q34 : ((wrap64 (x9_2 + 1)) : Int) ≤ ((l0.length : Int) : Int) := of_decide_eq_true (by first | (with_reducible assumption) | assumption)
                        obtain ⟨i034, hi034, _, hsz34, _⟩ := info_parts info34
                        have hroom34 : l0.length ≤ c0 := HC0.out
                        have hC34 : Kd.C k34 _ (some ad331) l0.length l0 := HR0.out
                        have ql34 : (x9_2 : Int) ≤ ((wrap64 (x9_2 + 1)) : Int) := of_decide_eq_true (by first | (with_reducible assumption) | assumption)
                        have q034 : (0 : Int) ≤ (x9_2 : Int) := of_decide_eq_true (by first | (with_reducible assumption) | assumption)
                        have hcut34 := cut_mid (P := Tryd.prog) 22 34 .i64 .i64 Tryd.underlying22 hi034 3 hsz34 (some ad331) l0.length c0 x9_2 (wrap64 (x9_2 + 1)) q034 ql34 q34 hroom34
                        have hr34 := Kd.C_mid (lo := (x9_2 : Int).toNat) (hi := ((wrap64 (x9_2 + 1)) : Int).toNat) (c := c0) hC34 (by omega) (by omega) hroom34
                        obtain ⟨A34, hA34⟩ : ∃ A1, A1 = (if c0 = (x9_2 : Int).toNat then (some ad331) else ((some ad331) : Option Addr).map (·.add ((x9_2 : Int).toNat * 3))) := ⟨_, rfl⟩
                        obtain ⟨c34, hc34⟩ : ∃ c1, c1 = c0 - (x9_2 : Int).toNat := ⟨_, rfl⟩
                        have hy34 : y335.length = ((wrap64 (x9_2 + 1)) : Int).toNat - (x9_2 : Int).toNat := (by rw [Ny335.out, List.length_drop, List.length_take] <;> omega)
                        rw [show ((l0).take ((wrap64 (x9_2 + 1)) : Int).toNat).drop (x9_2 : Int).toNat = y335 from Ny335.out.symm] at hr34
                        replace hr34 : Kd.C k34 _ A34 y335.length y335 := (by rw [hA34]; exact hr34)
                        rw [← hy34, ← hA34, ← hc34] at hcut34
                        have HR338 := Aside0.mk hr34
                        have HC338 := Aside0.mk (show y335.length ≤ c34 from by rw [hy34, hc34]; exact Nat.sub_le_sub_right (Nat.le_trans (by omega) hroom34) _)
                        clear hr34 hC34 hroom34 hi034 hsz34 hc34
                        have KY34 := Aside0.mk hy34
                        have KA34 := Aside0.mk hA34
                        clear hy34 hA34
                        replace q34 := eq_true q34
                        refine start_ (n := 9) (S := fun w' => w'.cell? ⟨gb330, 0, none⟩ = some (.string t324) ∧ w'.cell? ⟨gb330, 1, none⟩ = some (.slice Ao13 t325.length co13) ∧ w'.cell? ⟨gb330, 2, none⟩ = some (.bool t328)) (ds := []) #[false, false, false, false, false, false, false, false, false] (by kernel_rfl) rfl rfl ⟨(blk_cell BK330.out 0).trans rfl, (blk_cell BK330.out 1).trans rfl, (blk_cell BK330.out 2).trans rfl⟩ (fun hHeld => ?_); refine with_tabW carlinglaw04_FaceFind.tab10 carlinglaw04_FaceFind.bits10 (fun HT_ HW_ => ?_)
                        generalize wr.drew = w33 at HO_331001 BK330 HB HR338 hHeld ⊢
                        refine pure_ (i := 2) (N := some 43) (v := ?_) (a' := ?_) #[false, false, true, false, false, false, false, false, false] rfl rfl (any_of HT_.out (by kernel_rfl)) (fun _ _ _ h => h) (Or.inl ⟨by rfl, ?_⟩) ?_ ?_
                        rotate_left
                        · intro w'
                          go_simp
                          with_reducible rfl
                        rotate_left
                        · simp only [Act.put, List.setIfInBounds_toArray, List.set_cons_zero, List.set_cons_succ, i64_w, i32_w]
                          rfl
                        refine pure_ (i := 3) (N := some 44) (v := ?_) (a' := ?_) #[false, false, true, true, false, false, false, false, false] rfl rfl (any_of HT_.out (by kernel_rfl)) (fun _ _ _ h => h) (Or.inl ⟨by rfl, ?_⟩) ?_ ?_
                        rotate_left
                        · intro w'
                          go_simp
                          with_reducible rfl
                        rotate_left
                        · simp only [Act.put, List.setIfInBounds_toArray, List.set_cons_zero, List.set_cons_succ, i64_w, i32_w]
                          rfl
                        refine pure_ (i := 4) (N := some 45) (v := ?_) (a' := ?_) #[false, false, true, true, true, false, false, false, false] rfl rfl (any_of HT_.out (by kernel_rfl)) (fun _ _ _ h => h) (Or.inl ⟨by rfl, ?_⟩) ?_ ?_
                        rotate_left
                        · intro w'
                          go_simp
                          with_reducible rfl
                        rotate_left
                        · simp only [Act.put, List.setIfInBounds_toArray, List.set_cons_zero, List.set_cons_succ, i64_w, i32_w]
                          rfl
                        refine pure_ (i := 5) (N := some 46) (v := ?_) (a' := ?_) #[false, false, true, true, true, true, false, false, false] rfl rfl (any_of HT_.out (by kernel_rfl)) (fun _ _ _ h => h) (Or.inl ⟨by rfl, ?_⟩) ?_ ?_
                        rotate_left
                        · intro w'
                          go_simp
                          with_reducible rfl
                        rotate_left
                        · simp only [Act.put, List.setIfInBounds_toArray, List.set_cons_zero, List.set_cons_succ, i64_w, i32_w]
                          rfl
                        refine pure_ (i := 6) (N := some 47) (v := ?_) (a' := ?_) #[false, false, true, true, true, true, true, false, false] rfl rfl (any_of HT_.out (by kernel_rfl)) (fun _ _ _ h => h) (Or.inl ⟨by rfl, ?_⟩) ?_ ?_
                        rotate_left
                        · intro w'
                          go_simp
                          with_reducible rfl
                        rotate_left
                        · simp only [Act.put, List.setIfInBounds_toArray, List.set_cons_zero, List.set_cons_succ, i64_w, i32_w]
                          rfl
                        refine take_ (i := 0) (N := some 41) (v := ?_) (a' := ?_) #[true, false, true, true, true, true, true, false, false] rfl rfl (take_ofW HT_.out HW_.out (by kernel_rfl)) (fun _ _ _ h => h) (Or.inl ⟨by rfl, ?_⟩) hHeld ?_ ?_
                        rotate_left
                        · rintro w' ⟨s0, s1, s2⟩
                          go_simp
                          with_reducible rfl
                        rotate_left
                        · simp only [Act.put, List.setIfInBounds_toArray, List.set_cons_zero, List.set_cons_succ, i64_w, i32_w]
                          rfl
                        refine one_ (i := 1) (N := some 42) #[true, true, true, true, true, true, true, false, false] rfl rfl (one_of HT_.out (by kernel_rfl)) (by decide) (fun K hK => ?_)
                        refine Kd.N_lit_step k34 _ 34 ?hg (N' := 42) ?hd (xs := ([(⟨t324, t325, t328⟩ : S34)] : List (S34))) (inner := [.string t324, .slice Ao13 t325.length co13, .bool t328]) (ok := (fun k_ => k_ ≠ gb330)) (okp := (fun k_ => k_ ≠ gb330)) ?hr ?hp (fun _ hk => hk) ((show ∀ k_, w33.heap.size ≤ k_ → (fun k_ => k_ ≠ gb330) k_ from fun k_ hk => Kd.freshB (g := gb330) (o := .cells #[.string t324, .slice Ao13 t325.length co13, .bool t328] 34 (0, 0)) (by (with_reducible repeat (first | refine blk_drewN ?_ _ | refine blk_drew ?_ | refine blk_alloc ?_ _)); exact BK330.out) k_ hk) _ (Nat.le_refl _)) (Below.refl _ _) (Nat.le_refl _) (by simp) ?_; (case hd => rfl); (case hg => rfl); (case hr => first | (go_simp; done) | (go_simp; rfl)); (case hp => exact (Reps.c3 (show Kd.FK k34 _ _ (⟨t324, t325, t328⟩ : S34) [.string t324, .slice Ao13 t325.length co13, .bool t328] from (k34_mkF _ _ (⟨t324, t325, t328⟩ : S34) (Kd.R_reads' (Kd.R_mono (ok' := (fun k_ => k_ ≠ gb330)) (Kd.R_types (HO_331001.out) BK330.out (by decide)) (fun k_ hk => hk.2))).2.1 (Kd.R_F (Kd.R_mono (ok' := (fun k_ => k_ ≠ gb330)) (Kd.R_types (HO_331001.out) BK330.out (by decide)) (fun k_ hk => hk.2))))) (Reps.none _ _)))
                        intro v333 w35 ho36 hb hg_ hnew_
                        clear hg_ hnew_
                        (first | rw [← Ny332.out] at ho36 | (simp only [Int.reduceToNat] at ho36; rw [← Ny332.out] at ho36))
                        have n0_ := Aside0.mk (Kd.N_lower ho36 (below_size (by repeat (first | (with_reducible first | exact HB.out | apply below_alloc | apply pw_below_drewN | apply below_drew1 | refine below_set ?_ GE330.out) | exact HB.out))))
                        have n1_ := Aside0.mk (blk_below (g := gb330) (o := .cells #[.string t324, .slice Ao13 t325.length co13, .bool t328] 34 (0, 0)) (by (with_reducible repeat (first | refine blk_drewN ?_ _ | refine blk_drew ?_ | refine blk_alloc ?_ _)); exact BK330.out) hb)
                        have n2_ := Aside0.mk (below_step (by repeat (first | (with_reducible first | exact HB.out | apply below_alloc | apply pw_below_drewN | apply below_drew1 | refine below_set ?_ GE330.out) | exact HB.out)) hb)
                        clear BK330
                        clear HB
                        clear HO_331001
                        have HO334 := n0_
                        have BK330 := n1_
                        have HB := n2_
                        clear n0_ n1_ n2_
                        clear hb ho36
                        obtain ⟨Ao37, co37, eo37⟩ := Kd.N_slice HO334.out
                        (first | subst eo37 | (injection eo37 with f1_ f2_ f3_; have f4_ := f1_.symm; have f5_ := f3_.symm; clear f1_ f2_ f3_; subst f4_; subst f5_))
                        refine hK.out _ _ ⟨(blk_cell BK330.out 0).trans rfl, (blk_cell BK330.out 1).trans rfl, (blk_cell BK330.out 2).trans rfl⟩ (fun hHeld => ?_)
                        clear hK K
                        refine norm_ (a' := ?_) ?_ ?_
                        rotate_left
                        · show Act.put _ (some 42) _ = _
                          simp only [Act.put, List.setIfInBounds_toArray, List.set_cons_zero, List.set_cons_succ, i64_w, i32_w]
                          rfl
                        refine one_ (i := 7) (N := some 48) #[true, true, true, true, true, true, true, true, false] rfl rfl (one_of HT_.out (by kernel_rfl)) (by decide) (fun K hK => ?_)
                        refine goes_ Tryd.func16 (by kernel_rfl) rfl #[.slice Ao37 y332.length co37, .slice A34 y335.length c34] (by rfl) rfl rfl (by (try simp only [List.map_toArray, List.map_cons, List.map_nil]); first | done | rfl | (simp only [List.length_drop, List.length_take]; rfl)) ?_
                        with_reducible refine (carlingref04_Same.calls k2 _ _ y332 _ _ y335 t339 _ ?side1 ?side2 ?side3 ?side4 A20.out).mono ?_
                        (case side1 => repeat (first | exact (Kd.N_reads' HO334.out).2.2 | (with_reducible refine Kd.C_alloc ?_ _) | (with_reducible refine Kd.C_drewN ?_ _) | (with_reducible refine Kd.C_drew ?_)))
                        (case side2 => exact (Kd.N_reads' HO334.out).2.1)
                        (case side3 => repeat (first | exact (Kd.C_below HR338.out HB.out) | (with_reducible refine Kd.C_alloc ?_ _) | (with_reducible refine Kd.C_drewN ?_ _) | (with_reducible refine Kd.C_drew ?_)))
                        (case side4 => exact HC338.out)
                        rintro e w' ⟨rfl, ⟨nd, rfl⟩⟩
                        refine ⟨_, rfl, ?_⟩
                        refine hK.out _ _ ⟨(blk_cell BK330.out 0).trans rfl, (blk_cell BK330.out 1).trans rfl, (blk_cell BK330.out 2).trans rfl⟩ (fun hHeld => ?_)
                        clear hK K
                        refine norm_ (a' := ?_) ?_ ?_
                        rotate_left
                        · show Act.put _ (some 48) _ = _
                          simp only [Act.put, List.setIfInBounds_toArray, List.set_cons_zero, List.set_cons_succ, i64_w, i32_w]
                          rfl
                        refine pure_ (i := 8) (N := some 10) (v := ?_) (a' := ?_) #[true, true, true, true, true, true, true, true, true] rfl rfl (any_of HT_.out (by kernel_rfl)) (fun _ _ _ h => h) (Or.inl ⟨by rfl, ?_⟩) ?_ ?_
                        rotate_left
                        · intro w'
                          go_simp
                          with_reducible rfl
                        rotate_left
                        · simp only [Act.put, List.setIfInBounds_toArray, List.set_cons_zero, List.set_cons_succ, i64_w, i32_w]
                          rfl
                        refine done_ (done_of HT_.out (by kernel_rfl)) ?_
                        try go_wp2
                        go_ret
                        exact ⟨by first | rfl | (simp [errW_none, errW_some] <;> rfl) | (simp [*, errW_none, errW_some] <;> rfl), by repeat (first | (with_reducible first | exact HB.out | apply below_alloc | apply pw_below_drewN | apply below_drew1 | refine below_set ?_ GE330.out) | exact HB.out)⟩
                    · rw [if_neg c19] at H
                      exact absurd H (by simp)
                  · rw [if_neg c18] at H
                    exact absurd H (by simp)
                · rw [if_neg c16] at H
                  have c16b0 : (((rd_T34 l0 x9_2).f0).toList == a1.toList) = false := beq_eq_false_iff_ne.mpr c16
                  have c16b1 : (((rd_T34 l0 x9_2).f0).toList != a1.toList) = true := bne_iff_ne.mpr c16
                  have H' := Aside0.mk H
                  clear H
                  have p331 : 0 ≤ (x9_2 : Int) := of_decide_eq_true (by first | (with_reducible assumption) | assumption)
                  have q331 : x9_2 < (l0.length : Int) := of_decide_eq_true (by first | (with_reducible assumption) | assumption)
                  obtain ⟨ad331, A331_1, c331_1, e331, hx331_0, hx331_1, hx331_2, hl331_1, hi331_1⟩ := at_T34 HR0.out x9_2 p331 q331
                  cases e331
                  replace hx331_0 := (HB.out.cell (World.block_lt_of_cell? w _ hx331_0)).trans hx331_0
                  replace hx331_1 := (HB.out.cell (World.block_lt_of_cell? w _ hx331_1)).trans hx331_1
                  replace hx331_2 := (HB.out.cell (World.block_lt_of_cell? w _ hx331_2)).trans hx331_2
                  have HR331_1 := Aside0.mk hi331_1
                  have HC331_1 := Aside0.mk hl331_1
                  clear hi331_1 hl331_1
                  replace p331 := eq_true p331
                  replace q331 := eq_true q331
                  go_wp2
                  go_roundg k2
                  case measure => have := HJ4.out; have := HK2.out; omega
                  case rel => exact ⟨(wrap64 (x9_2 + 1)), (by first | rfl | (simp; done) | (simp [*]; done)), H', ⟨by have := HJ4.out; have := HK2.out; omega⟩, ⟨by (with_reducible repeat (first | apply Kd.R_alloc | apply Kd.R_drewN | apply Kd.R_drew)); exact HO_331001.out⟩, ⟨by (with_reducible repeat (first | refine blk_drewN ?_ _ | refine blk_drew ?_ | refine blk_alloc ?_ _)); exact BK330.out⟩, ⟨by repeat (first | (with_reducible first | exact HB.out | apply below_alloc | apply pw_below_drewN | apply below_drew1 | refine below_set ?_ GE330.out) | exact HB.out)⟩⟩
              · rw [if_neg c15] at H
                exact absurd H (by simp)
            · rw [if_neg c14] at H
              have c14b0 : decide (x9_2 < (l0.length : Int)) = false := decide_eq_false c14
              clear c14
              by_cases c38 : t322 = true
              · subst c38
                have H1 : (if t329 = true then (some false) else (if t324.toList = ([] : List UInt8) then (some ((t325.length : Int) == 0)) else (some false))) = some r := by rw [if_pos rfl] at H; exact H
                clear H
                have H := H1
                clear H1
                by_cases c39 : t329 = true
                · subst c39
                  have H1 : (some false) = some r := by rw [if_pos rfl] at H; exact H
                  clear H
                  have H := H1
                  clear H1
                  obtain rfl := Option.some.inj H
                  go_wp2
                  go_ret
                  exact ⟨by first | rfl | (simp [errW_none, errW_some] <;> rfl) | (simp [*, errW_none, errW_some] <;> rfl), by repeat (first | (with_reducible first | exact HB.out | apply below_alloc | apply pw_below_drewN | apply below_drew1 | refine below_set ?_ GE330.out) | exact HB.out)⟩
                · replace c39 := Bool.eq_false_iff.mpr c39
                  subst c39
                  have H1 : (if t324.toList = ([] : List UInt8) then (some ((t325.length : Int) == 0)) else (some false)) = some r := by rw [if_neg (show ¬ (false = true) by decide)] at H; exact H
                  clear H
                  have H := H1
                  clear H1
                  by_cases c40 : t324.toList = ([] : List UInt8)
                  · rw [if_pos c40] at H
                    have c40b0 : (t324.toList == ([] : List UInt8)) = true := beq_iff_eq.mpr c40
                    have c40b1 : (t324.toList != ([] : List UInt8)) = false := bne_eq_false_iff_eq.mpr c40
                    clear c40
                    obtain rfl := Option.some.inj H
                    have hcz41_0 : wr.cell? ⟨gb330, 0, none⟩ = some (.string t324) := (blk_cell BK330.out 0).trans rfl
                    have hcz41_1 : wr.cell? ⟨gb330, 1, none⟩ = some (.slice Ao13 t325.length co13) := (blk_cell BK330.out 1).trans rfl
                    have hcz41_2 : wr.cell? ⟨gb330, 2, none⟩ = some (.bool t328) := (blk_cell BK330.out 2).trans rfl
                    have hfz41_0 := blk_frozen BK330.out 0
                    have hfz41_1 := blk_frozen BK330.out 1
                    have hfz41_2 := blk_frozen BK330.out 2
                    go_wp2
                    go_ret
                    exact ⟨by first | rfl | (simp [errW_none, errW_some] <;> rfl) | (simp [*, errW_none, errW_some] <;> rfl), by repeat (first | (with_reducible first | exact HB.out | apply below_alloc | apply pw_below_drewN | apply below_drew1 | refine below_set ?_ GE330.out) | exact HB.out)⟩
                  · rw [if_neg c40] at H
                    have c40b0 : (t324.toList == ([] : List UInt8)) = false := beq_eq_false_iff_ne.mpr c40
                    have c40b1 : (t324.toList != ([] : List UInt8)) = true := bne_iff_ne.mpr c40
                    obtain rfl := Option.some.inj H
                    have hcz42_0 : wr.cell? ⟨gb330, 0, none⟩ = some (.string t324) := (blk_cell BK330.out 0).trans rfl
                    have hcz42_1 : wr.cell? ⟨gb330, 1, none⟩ = some (.slice Ao13 t325.length co13) := (blk_cell BK330.out 1).trans rfl
                    have hcz42_2 : wr.cell? ⟨gb330, 2, none⟩ = some (.bool t328) := (blk_cell BK330.out 2).trans rfl
                    have hfz42_0 := blk_frozen BK330.out 0
                    have hfz42_1 := blk_frozen BK330.out 1
                    have hfz42_2 := blk_frozen BK330.out 2
                    go_wp2
                    go_ret
                    exact ⟨by first | rfl | (simp [errW_none, errW_some] <;> rfl) | (simp [*, errW_none, errW_some] <;> rfl), by repeat (first | (with_reducible first | exact HB.out | apply below_alloc | apply pw_below_drewN | apply below_drew1 | refine below_set ?_ GE330.out) | exact HB.out)⟩
              · replace c38 := Bool.eq_false_iff.mpr c38
                subst c38
                have H1 : (some false) = some r := by rw [if_neg (show ¬ (false = true) by decide)] at H; exact H
                clear H
                have H := H1
                clear H1
                obtain rfl := Option.some.inj H
                go_wp2
                go_ret
                exact ⟨by first | rfl | (simp [errW_none, errW_some] <;> rfl) | (simp [*, errW_none, errW_some] <;> rfl), by repeat (first | (with_reducible first | exact HB.out | apply below_alloc | apply pw_below_drewN | apply below_drew1 | refine below_set ?_ GE330.out) | exact HB.out)⟩

end Go.Proofs.YtappdmioncdefaaDoor.Q
