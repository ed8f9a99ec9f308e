-- WRITTEN BY A PROGRAM OF THIS SESSION
import Derived.Test.YtappdmioncdefaaDoorQ0
import Derived.Test.YtappdmioncdefaaDoorQCarlingref03Name
namespace Go.Proofs.YtappdmioncdefaaDoor.Q
open Go.RowKit Go.Proofs.YtappdmioncdefaaDoorW.PrintWords Go.Proofs.YtappdmioncdefaaDoorW.PrintLast Go.Proofs.YtappdmioncdefaaDoorW.PrintMore
attribute [local go_sem] max2_int min2_int max_two min_two max_three min_three max_four min_four   -- for this text's walks alone
set_option linter.unusedVariables false
set_option linter.unusedSimpArgs false

/-! ### carlingref04_Right: function 26 -/
mutual
def carlingref04_Right.l0 : Nat → Int → Int → ByteArray → List (S46) → Bool → Option (Bool)
  | 0, _, _, _, _, _ => none
  | k + 1, x3, x4, x197000, x197001, x197002 => if x4 < (x197000.size : Int) then (if 0 ≤ x4 then (if (bt x197000 x4) = 46 then (if x3 < 0 then (carlingref04_Right.l0 k x4 (wrap64 (x4 + 1)) x197000 x197001 x197002) else (carlingref04_Right.l0 k x3 (wrap64 (x4 + 1)) x197000 x197001 x197002)) else (carlingref04_Right.l0 k x3 (wrap64 (x4 + 1)) x197000 x197001 x197002)) else (none)) else (if x3 < 0 then (carlingref04_Right.j1 k true x197000 x197001 x197002) else (if 0 ≤ x3 then (if x3 ≤ (x197000.size : Int) then ((carlingref03_Name.f k (x197000.extract 0 (x3 : Int).toNat)).bind fun t197 => (if t197 = true then (if 0 ≤ (wrap64 (x3 + 1)) then (if (wrap64 (x3 + 1)) ≤ (x197000.size : Int) then ((carlingref03_Name.f k (x197000.extract ((wrap64 (x3 + 1)) : Int).toNat x197000.size)).bind fun t198 => (if t198 = true then (carlingref04_Right.j1 k (decide ((x197001.length : Int) > 6)) x197000 x197001 x197002) else (carlingref04_Right.j1 k true x197000 x197001 x197002))) else (none)) else (none)) else (carlingref04_Right.j1 k true x197000 x197001 x197002))) else (none)) else (none)))
def carlingref04_Right.j1 : Nat → Bool → ByteArray → List (S46) → Bool → Option (Bool)
  | 0, _, _, _, _ => none
  | k + 1, x47, x197000, x197001, x197002 => if x47 = true then (some false) else (carlingref04_Right.l1 k 0 x197000 x197001 x197002)
def carlingref04_Right.l1 : Nat → Int → ByteArray → List (S46) → Bool → Option (Bool)
  | 0, _, _, _, _ => none
  | k + 1, x5, x197000, x197001, x197002 => if x5 < (x197001.length : Int) then (if 0 ≤ x5 then (if ((rd_T46 x197001 x5).f1) < 0 then (some false) else (if ((rd_T46 x197001 x5).f1) > 16 then (some false) else (carlingref04_Right.l1 k (wrap64 (x5 + 1)) x197000 x197001 x197002))) else (none)) else (some true)
end
def carlingref04_Right.f (k : Nat) (a0_0 : ByteArray) (l0_1 : List (S46)) (a0_2 : Bool) : Option (Bool) := carlingref04_Right.l0 k (-1) 0 a0_0 l0_1 a0_2
theorem carlingref04_Right.mono_l : ∀ k, (∀ y0 y1 y2 y3 y4, LeO (carlingref04_Right.l0 k y0 y1 y2 y3 y4) (carlingref04_Right.l0 (k + 1) y0 y1 y2 y3 y4)) ∧ (∀ y0 y1 y2 y3, LeO (carlingref04_Right.j1 k y0 y1 y2 y3) (carlingref04_Right.j1 (k + 1) y0 y1 y2 y3)) ∧ (∀ y0 y1 y2 y3, LeO (carlingref04_Right.l1 k y0 y1 y2 y3) (carlingref04_Right.l1 (k + 1) y0 y1 y2 y3))
  | 0 => ⟨fun _ _ _ _ _ r h => by simp [carlingref04_Right.l0] at h, fun _ _ _ _ r h => by simp [carlingref04_Right.j1] at h, fun _ _ _ _ r h => by simp [carlingref04_Right.l1] at h⟩
  | k + 1 => by
    obtain ⟨ih0, ih1, ih2⟩ := carlingref04_Right.mono_l k
    refine ⟨?_, ?_, ?_⟩
    · intro y0 y1 y2 y3 y4
      unfold carlingref04_Right.l0
      repeat' first
      | (with_reducible exact ih0 _ _ _ _ _)
      | (with_reducible exact ih1 _ _ _ _)
      | (with_reducible exact ih2 _ _ _ _)
      | (with_reducible exact carlingref03_Name.mono _ _)
      | (with_reducible exact LeO.refl _)
      | (with_reducible exact LeO.none _)
      | (with_reducible refine LeO.ite ?_ ?_)
      | (with_reducible refine LeO.bind ?_ (fun _ => ?_))
      | exact ih0 _ _ _ _ _
      | exact ih1 _ _ _ _
      | exact ih2 _ _ _ _
      | exact carlingref03_Name.mono _ _
      | exact LeO.none _
      | refine LeO.ite ?_ ?_
      | refine LeO.bind ?_ (fun _ => ?_)
    · intro y0 y1 y2 y3
      unfold carlingref04_Right.j1
      repeat' first
      | (with_reducible exact ih0 _ _ _ _ _)
      | (with_reducible exact ih1 _ _ _ _)
      | (with_reducible exact ih2 _ _ _ _)
      | (with_reducible exact carlingref03_Name.mono _ _)
      | (with_reducible exact LeO.refl _)
      | (with_reducible exact LeO.none _)
      | (with_reducible refine LeO.ite ?_ ?_)
      | (with_reducible refine LeO.bind ?_ (fun _ => ?_))
      | exact ih0 _ _ _ _ _
      | exact ih1 _ _ _ _
      | exact ih2 _ _ _ _
      | exact carlingref03_Name.mono _ _
      | exact LeO.none _
      | refine LeO.ite ?_ ?_
      | refine LeO.bind ?_ (fun _ => ?_)
    · intro y0 y1 y2 y3
      unfold carlingref04_Right.l1
      repeat' first
      | (with_reducible exact ih0 _ _ _ _ _)
      | (with_reducible exact ih1 _ _ _ _)
      | (with_reducible exact ih2 _ _ _ _)
      | (with_reducible exact carlingref03_Name.mono _ _)
      | (with_reducible exact LeO.refl _)
      | (with_reducible exact LeO.none _)
      | (with_reducible refine LeO.ite ?_ ?_)
      | (with_reducible refine LeO.bind ?_ (fun _ => ?_))
      | exact ih0 _ _ _ _ _
      | exact ih1 _ _ _ _
      | exact ih2 _ _ _ _
      | exact carlingref03_Name.mono _ _
      | exact LeO.none _
      | refine LeO.ite ?_ ?_
      | refine LeO.bind ?_ (fun _ => ?_)
theorem carlingref04_Right.mono : ∀ a0 a1 a2 k, LeO (carlingref04_Right.f k a0 a1 a2) (carlingref04_Right.f (k + 1) a0 a1 a2) := by
  intro a0 a1 a2 k
  obtain ⟨ih0, ih1, ih2⟩ := carlingref04_Right.mono_l k
  unfold carlingref04_Right.f
  repeat' first
      | (with_reducible exact ih0 _ _ _ _ _)
      | (with_reducible exact ih1 _ _ _ _)
      | (with_reducible exact ih2 _ _ _ _)
      | (with_reducible exact carlingref03_Name.mono _ _)
      | (with_reducible exact LeO.refl _)
      | (with_reducible exact LeO.none _)
      | (with_reducible refine LeO.ite ?_ ?_)
      | (with_reducible refine LeO.bind ?_ (fun _ => ?_))
      | exact ih0 _ _ _ _ _
      | exact ih1 _ _ _ _
      | exact ih2 _ _ _ _
      | exact carlingref03_Name.mono _ _
      | exact LeO.none _
      | refine LeO.ite ?_ ?_
      | refine LeO.bind ?_ (fun _ => ?_)
set_option maxHeartbeats 8000000 in
set_option maxRecDepth 100000 in
theorem carlingref04_Right.calls (k : Nat) (a0_0 : ByteArray) (A0_1 : Option Addr) (c0_1 : Nat) (l0_1 : List (S46)) (a0_2 : Bool) (r : Bool) (w : World) (hr0_1 : Kd.C k46 w A0_1 l0_1.length l0_1) (hc0_1 : l0_1.length ≤ c0_1) (h : carlingref04_Right.f k a0_0 l0_1 a0_2 = some r) :
    Calls Tryd.prog 26 #[.agg #[.string a0_0, .slice A0_1 l0_1.length c0_1, .bool a0_2]] w fun e w' => e = .returned (.bool r) ∧ Below w.heap.size w w' := by
  have hu34 := Tryd.underlying34
  have HR0_1 := Aside0.mk hr0_1
  have HC0_1 := Aside0.mk hc0_1
  clear hr0_1 hc0_1
  have HB := Aside0.mk (Below.refl w.heap.size w)
  have H : (carlingref04_Right.l0 k (-1) 0 a0_0 l0_1 a0_2) = some r := h
  clear h
  have H' := Aside0.mk H
  clear H
  go_enter Tryd.func26, Tryd.ntmps26
  go_wp2_with (first | ((with_reducible refine gate_dst (N := 1) rfl ?_); (try (refine gate_guard (by rfl) ?_; dsimp only)); refine box_event ?hg (N := 1) ?hd (cs := #[.string a0_0, .slice A0_1 l0_1.length c0_1, .bool a0_2]) (t := 34) ?hr ?_; (case hd => rfl); (case hg => rfl); (case hr => first | (go_simp; done) | (go_simp; rfl)); intro gb196 hg w2 hbox hb; have n0_ := Aside0.mk (below_step (by repeat (first | (with_reducible first | exact HB.out | apply below_alloc | apply pw_below_drewN | apply below_drew1) | exact HB.out)) hb); have n1_ := Aside0.mk (hbox); have n2_ := Aside0.mk ((by rw [hg]; exact (below_size (by repeat (first | (with_reducible first | exact HB.out | apply below_alloc | apply pw_below_drewN | apply below_drew1) | exact HB.out))) : w.heap.size ≤ gb196)); have n3_ := Aside0.mk ((by rw [hg]; exact (below_size (by repeat (first | (with_reducible first | exact HB.out | apply below_alloc | apply pw_below_drewN | apply below_drew1) | exact HB.out))) : w.heap.size ≤ gb196)); clear HB; have HB := n0_; have BK196 := n1_; have GW196 := n2_; have GE196 := n3_; clear n0_ n1_ n2_ n3_; clear hb hbox hg))
  go_loopg [3, 4] k (fun kq v3 v4 w' => ∃ (x3_1 : Int) (x4_1 : Int), v3 = .int .i64 x3_1 ∧ v4 = .int .i64 x4_1 ∧ Aside0 (carlingref04_Right.l0 kq x3_1 x4_1 a0_0 l0_1 a0_2 = some r) ∧ Aside0 (kq ≤ k) ∧ Aside0 (w'.heap[gb196]? = some (.cells #[.string a0_0, (.slice A0_1 l0_1.length c0_1), .bool a0_2] 34 (0, 0))) ∧ Aside0 (Below w.heap.size w w'))
  case atStart => exact ⟨((-1)), (0), (by first | rfl | (simp; done) | (simp [*]; done)), (by first | rfl | (simp; done) | (simp [*]; done)), H', ⟨Nat.le_refl _⟩, ⟨by (with_reducible repeat (first | refine blk_drewN ?_ _ | refine blk_drew ?_ | refine blk_alloc ?_ _)); exact BK196.out⟩, ⟨by repeat (first | (with_reducible first | exact HB.out | apply below_alloc | apply pw_below_drewN | apply below_drew1 | refine below_set ?_ GE196.out) | exact HB.out)⟩⟩
  case round =>
    clear H'
    try clear c2
    try clear p2
    obtain ⟨x3_1, x4_1, rfl, rfl, HA, HK1, BK196, HB⟩ := hrel
    cases gk with
    | zero => exact absurd HA.out (by simp [carlingref04_Right.l0])
    | succ k1 =>
      have H := HA.out
      clear HA
      simp only [carlingref04_Right.l0] at H
      by_cases c3 : x4_1 < (a0_0.size : Int)
      · rw [if_pos c3] at H
        have c3b0 : decide (x4_1 < (a0_0.size : Int)) = true := decide_eq_true c3
        clear c3
        by_cases c4 : 0 ≤ x4_1
        · rw [if_pos c4] at H
          have c4b0 : decide (0 ≤ x4_1) = true := decide_eq_true c4
          clear c4
          by_cases c6 : (bt a0_0 x4_1) = 46
          · rw [if_pos c6] at H
            have c6b0 : ((bt a0_0 x4_1) == 46) = true := beq_iff_eq.mpr c6
            have c6b1 : ((bt a0_0 x4_1) != 46) = false := bne_eq_false_iff_eq.mpr c6
            clear c6
            by_cases c7 : x3_1 < 0
            · rw [if_pos c7] at H
              have c7b0 : decide (x3_1 < 0) = true := decide_eq_true c7
              clear c7
              have H' := Aside0.mk H
              clear H
              have hcz8_0 : wr.cell? ⟨gb196, 0, none⟩ = some (.string a0_0) := (blk_cell BK196.out 0).trans rfl
              have hcz8_1 : wr.cell? ⟨gb196, 1, none⟩ = some (.slice A0_1 l0_1.length c0_1) := (blk_cell BK196.out 1).trans rfl
              have hcz8_2 : wr.cell? ⟨gb196, 2, none⟩ = some (.bool a0_2) := (blk_cell BK196.out 2).trans rfl
              have hfz8_0 := blk_frozen BK196.out 0
              have hfz8_1 := blk_frozen BK196.out 1
              have hfz8_2 := blk_frozen BK196.out 2
              have p5 : 0 ≤ (x4_1 : Int) := of_decide_eq_true (by first | (with_reducible assumption) | assumption)
              have q5 : x4_1 < (a0_0.size : Int) := of_decide_eq_true (by first | (with_reducible assumption) | assumption)
              have hx5 := bt_at a0_0 x4_1
              replace p5 := eq_true p5
              replace q5 := eq_true q5
              go_wp2
              go_roundg k1
              case measure => have := HK1.out; omega
              case rel => exact ⟨(x4_1), (wrap64 (x4_1 + 1)), (by first | rfl | (simp; done) | (simp [*]; done)), (by first | rfl | (simp; done) | (simp [*]; done)), H', ⟨by have := HK1.out; omega⟩, ⟨by (with_reducible repeat (first | refine blk_drewN ?_ _ | refine blk_drew ?_ | refine blk_alloc ?_ _)); exact BK196.out⟩, ⟨by repeat (first | (with_reducible first | exact HB.out | apply below_alloc | apply pw_below_drewN | apply below_drew1 | refine below_set ?_ GE196.out) | exact HB.out)⟩⟩
            · rw [if_neg c7] at H
              have c7b0 : decide (x3_1 < 0) = false := decide_eq_false c7
              clear c7
              have H' := Aside0.mk H
              clear H
              have hcz9_0 : wr.cell? ⟨gb196, 0, none⟩ = some (.string a0_0) := (blk_cell BK196.out 0).trans rfl
              have hcz9_1 : wr.cell? ⟨gb196, 1, none⟩ = some (.slice A0_1 l0_1.length c0_1) := (blk_cell BK196.out 1).trans rfl
              have hcz9_2 : wr.cell? ⟨gb196, 2, none⟩ = some (.bool a0_2) := (blk_cell BK196.out 2).trans rfl
              have hfz9_0 := blk_frozen BK196.out 0
              have hfz9_1 := blk_frozen BK196.out 1
              have hfz9_2 := blk_frozen BK196.out 2
              have p5 : 0 ≤ (x4_1 : Int) := of_decide_eq_true (by first | (with_reducible assumption) | assumption)
              have q5 : x4_1 < (a0_0.size : Int) := of_decide_eq_true (by first | (with_reducible assumption) | assumption)
              have hx5 := bt_at a0_0 x4_1
              replace p5 := eq_true p5
              replace q5 := eq_true q5
              go_wp2
              go_roundg k1
              case measure => have := HK1.out; omega
              case rel => exact ⟨(x3_1), (wrap64 (x4_1 + 1)), (by first | rfl | (simp; done) | (simp [*]; done)), (by first | rfl | (simp; done) | (simp [*]; done)), H', ⟨by have := HK1.out; omega⟩, ⟨by (with_reducible repeat (first | refine blk_drewN ?_ _ | refine blk_drew ?_ | refine blk_alloc ?_ _)); exact BK196.out⟩, ⟨by repeat (first | (with_reducible first | exact HB.out | apply below_alloc | apply pw_below_drewN | apply below_drew1 | refine below_set ?_ GE196.out) | exact HB.out)⟩⟩
          · rw [if_neg c6] at H
            have c6b0 : ((bt a0_0 x4_1) == 46) = false := beq_eq_false_iff_ne.mpr c6
            have c6b1 : ((bt a0_0 x4_1) != 46) = true := bne_iff_ne.mpr c6
            have H' := Aside0.mk H
            clear H
            have hcz10_0 : wr.cell? ⟨gb196, 0, none⟩ = some (.string a0_0) := (blk_cell BK196.out 0).trans rfl
            have hcz10_1 : wr.cell? ⟨gb196, 1, none⟩ = some (.slice A0_1 l0_1.length c0_1) := (blk_cell BK196.out 1).trans rfl
            have hcz10_2 : wr.cell? ⟨gb196, 2, none⟩ = some (.bool a0_2) := (blk_cell BK196.out 2).trans rfl
            have hfz10_0 := blk_frozen BK196.out 0
            have hfz10_1 := blk_frozen BK196.out 1
            have hfz10_2 := blk_frozen BK196.out 2
            have p5 : 0 ≤ (x4_1 : Int) := of_decide_eq_true (by first | (with_reducible assumption) | assumption)
            have q5 : x4_1 < (a0_0.size : Int) := of_decide_eq_true (by first | (with_reducible assumption) | assumption)
            have hx5 := bt_at a0_0 x4_1
            replace p5 := eq_true p5
            replace q5 := eq_true q5
            go_wp2
            go_roundg k1
            case measure => have := HK1.out; omega
            case rel => exact ⟨(x3_1), (wrap64 (x4_1 + 1)), (by first | rfl | (simp; done) | (simp [*]; done)), (by first | rfl | (simp; done) | (simp [*]; done)), H', ⟨by have := HK1.out; omega⟩, ⟨by (with_reducible repeat (first | refine blk_drewN ?_ _ | refine blk_drew ?_ | refine blk_alloc ?_ _)); exact BK196.out⟩, ⟨by repeat (first | (with_reducible first | exact HB.out | apply below_alloc | apply pw_below_drewN | apply below_drew1 | refine below_set ?_ GE196.out) | exact HB.out)⟩⟩
        · rw [if_neg c4] at H
          exact absurd H (by simp)
      · rw [if_neg c3] at H
        have c3b0 : decide (x4_1 < (a0_0.size : Int)) = false := decide_eq_false c3
        clear c3
        have HC11 := Aside0.mk H
        clear H
        have hcz12_0 : wr.cell? ⟨gb196, 0, none⟩ = some (.string a0_0) := (blk_cell BK196.out 0).trans rfl
        have hcz12_1 : wr.cell? ⟨gb196, 1, none⟩ = some (.slice A0_1 l0_1.length c0_1) := (blk_cell BK196.out 1).trans rfl
        have hcz12_2 : wr.cell? ⟨gb196, 2, none⟩ = some (.bool a0_2) := (blk_cell BK196.out 2).trans rfl
        have hfz12_0 := blk_frozen BK196.out 0
        have hfz12_1 := blk_frozen BK196.out 1
        have hfz12_2 := blk_frozen BK196.out 2
        go_upto_region 7 with (fail)
        go_cut [47] (fun v47 wc => ∃ (kq : Nat) (x47_10 : Bool), v47 = .bool x47_10 ∧ Aside0 (carlingref04_Right.j1 kq x47_10 a0_0 l0_1 a0_2 = some r) ∧ Aside0 (kq ≤ k1) ∧ Aside0 (wc.heap[gb196]? = some (.cells #[.string a0_0, (.slice A0_1 l0_1.length c0_1), .bool a0_2] 34 (0, 0))) ∧ Aside0 (Below w.heap.size w wc))
        case first =>
          have H := HC11.out
          clear HC11
          by_cases c13 : x3_1 < 0
          · rw [if_pos c13] at H
            have c13b0 : decide (x3_1 < 0) = true := decide_eq_true c13
            clear c13
            (first | rw [c13b0] | (simp only [i64_w, i32_w]; rw [c13b0]) | skip)
            have H' := Aside0.mk H
            clear H
            go_wp2
            go_meet
            case rel => exact ⟨_, (true), (by first | rfl | (simp; done) | (simp [*]; done)), H', ⟨by have := HK1.out; first | omega | exact Nat.le_refl _⟩, ⟨by (with_reducible repeat (first | refine blk_drewN ?_ _ | refine blk_drew ?_ | refine blk_alloc ?_ _)); exact BK196.out⟩, ⟨by repeat (first | (with_reducible first | exact HB.out | apply below_alloc | apply pw_below_drewN | apply below_drew1 | refine below_set ?_ GE196.out) | exact HB.out)⟩⟩
          · rw [if_neg c13] at H
            have c13b0 : decide (x3_1 < 0) = false := decide_eq_false c13
            clear c13
            (first | rw [c13b0] | (simp only [i64_w, i32_w]; rw [c13b0]) | skip)
            by_cases c14 : 0 ≤ x3_1
            · rw [if_pos c14] at H
              have c14b0 := eq_true c14
              have c14b1 : decide (0 ≤ x3_1) = true := decide_eq_true c14
              clear c14
              by_cases c15 : x3_1 ≤ (a0_0.size : Int)
              · rw [if_pos c15] at H
                have c15b0 := eq_true c15
                have c15b1 : decide (x3_1 ≤ (a0_0.size : Int)) = true := decide_eq_true c15
                clear c15
                replace H := Option.bind_eq_some_iff.mp H
                obtain ⟨t197, A160, H⟩ := H
                replace H : (if t197 = true then (if 0 ≤ (wrap64 (x3_1 + 1)) then (if (wrap64 (x3_1 + 1)) ≤ (a0_0.size : Int) then ((carlingref03_Name.f k1 (a0_0.extract ((wrap64 (x3_1 + 1)) : Int).toNat a0_0.size)).bind fun t198 => (if t198 = true then (carlingref04_Right.j1 k1 (decide ((l0_1.length : Int) > 6)) a0_0 l0_1 a0_2) else (carlingref04_Right.j1 k1 true a0_0 l0_1 a0_2))) else (none)) else (none)) else (carlingref04_Right.j1 k1 true a0_0 l0_1 a0_2)) = some r := H
                have A16 := Aside0.mk A160
                clear A160
                by_cases c17 : t197 = true
                · subst c17
                  have H1 : (if 0 ≤ (wrap64 (x3_1 + 1)) then (if (wrap64 (x3_1 + 1)) ≤ (a0_0.size : Int) then ((carlingref03_Name.f k1 (a0_0.extract ((wrap64 (x3_1 + 1)) : Int).toNat a0_0.size)).bind fun t198 => (if t198 = true then (carlingref04_Right.j1 k1 (decide ((l0_1.length : Int) > 6)) a0_0 l0_1 a0_2) else (carlingref04_Right.j1 k1 true a0_0 l0_1 a0_2))) else (none)) else (none)) = some r := by rw [if_pos rfl] at H; exact H
                  clear H
                  have H := H1
                  clear H1
                  obtain ⟨ji18, hji18⟩ : ∃ j_ : Int, (wrap64 (x3_1 + 1)) = j_ := ⟨_, rfl⟩
                  replace H : (if 0 ≤ (ji18) then (if (ji18) ≤ (a0_0.size : Int) then ((carlingref03_Name.f k1 (a0_0.extract ((ji18) : Int).toNat a0_0.size)).bind fun t198 => (if t198 = true then (carlingref04_Right.j1 k1 (decide ((l0_1.length : Int) > 6)) a0_0 l0_1 a0_2) else (carlingref04_Right.j1 k1 true a0_0 l0_1 a0_2))) else (none)) else (none)) = some r := by first | (rw [hji18] at H; exact H) | (simp only [hji18] at H ⊢; exact H)
                  (try rw [hji18] at A16)
                  have hji18w : (IntKind.i64.wrap (x3_1 + 1)) = ji18 := (i64_w _).trans hji18
                  by_cases c19 : 0 ≤ (ji18)
                  · rw [if_pos c19] at H
                    have c19b0 := eq_true c19
                    have c19b1 : decide (0 ≤ (ji18)) = true := decide_eq_true c19
                    clear c19
                    by_cases c20 : (ji18) ≤ (a0_0.size : Int)
                    · rw [if_pos c20] at H
                      have c20b0 := eq_true c20
                      have c20b1 : decide ((ji18) ≤ (a0_0.size : Int)) = true := decide_eq_true c20
                      clear c20
                      replace H := Option.bind_eq_some_iff.mp H
                      obtain ⟨t198, A210, H⟩ := H
                      replace H : (if t198 = true then (carlingref04_Right.j1 k1 (decide ((l0_1.length : Int) > 6)) a0_0 l0_1 a0_2) else (carlingref04_Right.j1 k1 true a0_0 l0_1 a0_2)) = some r := H
                      have A21 := Aside0.mk A210
                      clear A210
                      by_cases c22 : t198 = true
                      · subst c22
                        have H1 : (carlingref04_Right.j1 k1 (decide ((l0_1.length : Int) > 6)) a0_0 l0_1 a0_2) = some r := by rw [if_pos rfl] at H; exact H
                        clear H
                        have H := H1
                        clear H1
                        have H' := Aside0.mk H
                        clear H
                        have hcz23_0 : wr.cell? ⟨gb196, 0, none⟩ = some (.string a0_0) := (blk_cell BK196.out 0).trans rfl
                        have hcz23_1 : wr.cell? ⟨gb196, 1, none⟩ = some (.slice A0_1 l0_1.length c0_1) := (blk_cell BK196.out 1).trans rfl
                        have hcz23_2 : wr.cell? ⟨gb196, 2, none⟩ = some (.bool a0_2) := (blk_cell BK196.out 2).trans rfl
                        have hfz23_0 := blk_frozen BK196.out 0
                        have hfz23_1 := blk_frozen BK196.out 1
                        have hfz23_2 := blk_frozen BK196.out 2
                        go_wp2_with (first | (go_at_call 37; (with_reducible refine (carlingref03_Name.calls k1 (a0_0.extract 0 (x3_1 : Int).toNat) true _ A16.out).mono ?_); rintro e w' ⟨rfl, ⟨nd, rfl⟩⟩) | (go_at_call 37; (with_reducible refine (carlingref03_Name.calls k1 (a0_0.extract ((ji18) : Int).toNat a0_0.size) true _ A21.out).mono ?_); rintro e w' ⟨rfl, ⟨nd, rfl⟩⟩))
                        go_meet
                        case rel => exact ⟨_, (decide ((l0_1.length : Int) > 6)), (by first | rfl | (simp; done) | (simp [*]; done)), H', ⟨by have := HK1.out; first | omega | exact Nat.le_refl _⟩, ⟨by (with_reducible repeat (first | refine blk_drewN ?_ _ | refine blk_drew ?_ | refine blk_alloc ?_ _)); exact BK196.out⟩, ⟨by repeat (first | (with_reducible first | exact HB.out | apply below_alloc | apply pw_below_drewN | apply below_drew1 | refine below_set ?_ GE196.out) | exact HB.out)⟩⟩
                      · replace c22 := Bool.eq_false_iff.mpr c22
                        subst c22
                        have H1 : (carlingref04_Right.j1 k1 true a0_0 l0_1 a0_2) = some r := by rw [if_neg (show ¬ (false = true) by decide)] at H; exact H
                        clear H
                        have H := H1
                        clear H1
                        have H' := Aside0.mk H
                        clear H
                        have hcz24_0 : wr.cell? ⟨gb196, 0, none⟩ = some (.string a0_0) := (blk_cell BK196.out 0).trans rfl
                        have hcz24_1 : wr.cell? ⟨gb196, 1, none⟩ = some (.slice A0_1 l0_1.length c0_1) := (blk_cell BK196.out 1).trans rfl
                        have hcz24_2 : wr.cell? ⟨gb196, 2, none⟩ = some (.bool a0_2) := (blk_cell BK196.out 2).trans rfl
                        have hfz24_0 := blk_frozen BK196.out 0
                        have hfz24_1 := blk_frozen BK196.out 1
                        have hfz24_2 := blk_frozen BK196.out 2
                        go_wp2_with (first | (go_at_call 37; (with_reducible refine (carlingref03_Name.calls k1 (a0_0.extract 0 (x3_1 : Int).toNat) true _ A16.out).mono ?_); rintro e w' ⟨rfl, ⟨nd, rfl⟩⟩) | (go_at_call 37; (with_reducible refine (carlingref03_Name.calls k1 (a0_0.extract ((ji18) : Int).toNat a0_0.size) false _ A21.out).mono ?_); rintro e w' ⟨rfl, ⟨nd, rfl⟩⟩))
                        go_meet
                        case rel => exact ⟨_, (true), (by first | rfl | (simp; done) | (simp [*]; done)), H', ⟨by have := HK1.out; first | omega | exact Nat.le_refl _⟩, ⟨by (with_reducible repeat (first | refine blk_drewN ?_ _ | refine blk_drew ?_ | refine blk_alloc ?_ _)); exact BK196.out⟩, ⟨by repeat (first | (with_reducible first | exact HB.out | apply below_alloc | apply pw_below_drewN | apply below_drew1 | refine below_set ?_ GE196.out) | exact HB.out)⟩⟩
                    · rw [if_neg c20] at H
                      exact absurd H (by simp)
                  · rw [if_neg c19] at H
                    exact absurd H (by simp)
                · replace c17 := Bool.eq_false_iff.mpr c17
                  subst c17
                  have H1 : (carlingref04_Right.j1 k1 true a0_0 l0_1 a0_2) = some r := by rw [if_neg (show ¬ (false = true) by decide)] at H; exact H
                  clear H
                  have H := H1
                  clear H1
                  have H' := Aside0.mk H
                  clear H
                  have hcz25_0 : wr.cell? ⟨gb196, 0, none⟩ = some (.string a0_0) := (blk_cell BK196.out 0).trans rfl
                  have hcz25_1 : wr.cell? ⟨gb196, 1, none⟩ = some (.slice A0_1 l0_1.length c0_1) := (blk_cell BK196.out 1).trans rfl
                  have hcz25_2 : wr.cell? ⟨gb196, 2, none⟩ = some (.bool a0_2) := (blk_cell BK196.out 2).trans rfl
                  have hfz25_0 := blk_frozen BK196.out 0
                  have hfz25_1 := blk_frozen BK196.out 1
                  have hfz25_2 := blk_frozen BK196.out 2
                  go_wp2_with (first | (go_at_call 37; (with_reducible refine (carlingref03_Name.calls k1 (a0_0.extract 0 (x3_1 : Int).toNat) false _ A16.out).mono ?_); rintro e w' ⟨rfl, ⟨nd, rfl⟩⟩))
                  go_meet
                  case rel => exact ⟨_, (true), (by first | rfl | (simp; done) | (simp [*]; done)), H', ⟨by have := HK1.out; first | omega | exact Nat.le_refl _⟩, ⟨by (with_reducible repeat (first | refine blk_drewN ?_ _ | refine blk_drew ?_ | refine blk_alloc ?_ _)); exact BK196.out⟩, ⟨by repeat (first | (with_reducible first | exact HB.out | apply below_alloc | apply pw_below_drewN | apply below_drew1 | refine below_set ?_ GE196.out) | exact HB.out)⟩⟩
              · rw [if_neg c15] at H
                exact absurd H (by simp)
            · rw [if_neg c14] at H
              exact absurd H (by simp)
        case rest =>
          clear HC11
          try clear c1
          try clear c2
          try clear p2
          try clear c3
          try clear c3b0
          try clear c4
          try clear c4b0
          try clear p5
          try clear q5
          try clear hx5
          try clear c6
          try clear c6b0
          try clear c6b1
          try clear p6
          try clear c7
          try clear c7b0
          try clear c13
          try clear c13b0
          try clear c14
          try clear c14b0
          try clear c14b1
          try clear c15
          try clear c15b0
          try clear c15b1
          try clear c17
          try clear c19
          try clear c19b0
          try clear c19b1
          try clear c20
          try clear c20b0
          try clear c20b1
          try clear c22
          try clear hcz10_0
          try clear hcz10_1
          try clear hcz10_2
          try clear hcz12_0
          try clear hcz12_1
          try clear hcz12_2
          try clear hcz23_0
          try clear hcz23_1
          try clear hcz23_2
          try clear hcz24_0
          try clear hcz24_1
          try clear hcz24_2
          try clear hcz25_0
          try clear hcz25_1
          try clear hcz25_2
          try clear hcz8_0
          try clear hcz8_1
          try clear hcz8_2
          try clear hcz9_0
          try clear hcz9_1
          try clear hcz9_2
          try clear hfz10_0
          try clear hfz10_1
          try clear hfz10_2
          try clear hfz12_0
          try clear hfz12_1
          try clear hfz12_2
          try clear hfz23_0
          try clear hfz23_1
          try clear hfz23_2
          try clear hfz24_0
          try clear hfz24_1
          try clear hfz24_2
          try clear hfz25_0
          try clear hfz25_1
          try clear hfz25_2
          try clear hfz8_0
          try clear hfz8_1
          try clear hfz8_2
          try clear hfz9_0
          try clear hfz9_1
          try clear hfz9_2
          try clear p2
          try clear p5
          try clear q5
          obtain ⟨kq, x47_10, rfl, HA, HJ10, BK196, HB⟩ := hcut
          cases kq with
          | zero => exact absurd HA.out (by simp [carlingref04_Right.j1])
          | succ kj10 =>
            have H := HA.out
            clear HA
            simp only [carlingref04_Right.j1] at H
            by_cases c26 : x47_10 = true
            · subst c26
              have H1 : (some false) = some r := by rw [if_pos rfl] at H; exact H
              clear H
              have H := H1
              clear H1
              obtain rfl := Option.some.inj H
              go_wp2
              go_ret
              exact ⟨by first | rfl | (simp [errW_none, errW_some] <;> rfl) | (simp [*, errW_none, errW_some] <;> rfl), by repeat (first | (with_reducible first | exact HB.out | apply below_alloc | apply pw_below_drewN | apply below_drew1 | refine below_set ?_ GE196.out) | exact HB.out)⟩
            · replace c26 := Bool.eq_false_iff.mpr c26
              subst c26
              have H1 : (carlingref04_Right.l1 kj10 0 a0_0 l0_1 a0_2) = some r := by rw [if_neg (show ¬ (false = true) by decide)] at H; exact H
              clear H
              have H := H1
              clear H1
              have H' := Aside0.mk H
              clear H
              go_wp2
              go_loopg [5] kj10 (fun kq v5 w' => ∃ (x5_3 : Int), v5 = .int .i64 x5_3 ∧ Aside0 (carlingref04_Right.l1 kq x5_3 a0_0 l0_1 a0_2 = some r) ∧ Aside0 (kq ≤ kj10) ∧ Aside0 (w'.heap[gb196]? = some (.cells #[.string a0_0, (.slice A0_1 l0_1.length c0_1), .bool a0_2] 34 (0, 0))) ∧ Aside0 (Below w.heap.size w w'))
              case atStart => exact ⟨(0), (by first | rfl | (simp; done) | (simp [*]; done)), H', ⟨Nat.le_refl _⟩, ⟨by (with_reducible repeat (first | refine blk_drewN ?_ _ | refine blk_drew ?_ | refine blk_alloc ?_ _)); exact BK196.out⟩, ⟨by repeat (first | (with_reducible first | exact HB.out | apply below_alloc | apply pw_below_drewN | apply below_drew1 | refine below_set ?_ GE196.out) | exact HB.out)⟩⟩
              case round =>
                clear H'
                try clear c1
                try clear c2
                try clear p2
                try clear c3
                try clear c3b0
                try clear c4
                try clear c4b0
                try clear p5
                try clear q5
                try clear hx5
                try clear c6
                try clear c6b0
                try clear c6b1
                try clear p6
                try clear c7
                try clear c7b0
                try clear c13
                try clear c13b0
                try clear c14
                try clear c14b0
                try clear c14b1
                try clear c15
                try clear c15b0
                try clear c15b1
                try clear c17
                try clear c19
                try clear c19b0
                try clear c19b1
                try clear c20
                try clear c20b0
                try clear c20b1
                try clear c22
                try clear c26
                try clear hcz10_0
                try clear hcz10_1
                try clear hcz10_2
                try clear hcz12_0
                try clear hcz12_1
                try clear hcz12_2
                try clear hcz23_0
                try clear hcz23_1
                try clear hcz23_2
                try clear hcz24_0
                try clear hcz24_1
                try clear hcz24_2
                try clear hcz25_0
                try clear hcz25_1
                try clear hcz25_2
                try clear hcz8_0
                try clear hcz8_1
                try clear hcz8_2
                try clear hcz9_0
                try clear hcz9_1
                try clear hcz9_2
                try clear hfz10_0
                try clear hfz10_1
                try clear hfz10_2
                try clear hfz12_0
                try clear hfz12_1
                try clear hfz12_2
                try clear hfz23_0
                try clear hfz23_1
                try clear hfz23_2
                try clear hfz24_0
                try clear hfz24_1
                try clear hfz24_2
                try clear hfz25_0
                try clear hfz25_1
                try clear hfz25_2
                try clear hfz8_0
                try clear hfz8_1
                try clear hfz8_2
                try clear hfz9_0
                try clear hfz9_1
                try clear hfz9_2
                try clear p2
                try clear p5
                try clear p6
                try clear q5
                obtain ⟨x5_3, rfl, HA, HK3, BK196, HB⟩ := hrel
                cases gk with
                | zero => exact absurd HA.out (by simp [carlingref04_Right.l1])
                | succ k3 =>
                  have H := HA.out
                  clear HA
                  simp only [carlingref04_Right.l1] at H
                  by_cases c27 : x5_3 < (l0_1.length : Int)
                  · rw [if_pos c27] at H
                    have c27b0 : decide (x5_3 < (l0_1.length : Int)) = true := decide_eq_true c27
                    clear c27
                    by_cases c28 : 0 ≤ x5_3
                    · rw [if_pos c28] at H
                      have c28b0 : decide (0 ≤ x5_3) = true := decide_eq_true c28
                      clear c28
                      by_cases c29 : ((rd_T46 l0_1 x5_3).f1) < 0
                      · rw [if_pos c29] at H
                        have c29b0 : decide (((rd_T46 l0_1 x5_3).f1) < 0) = true := decide_eq_true c29
                        clear c29
                        obtain rfl := Option.some.inj H
                        have hcz30_0 : wr.cell? ⟨gb196, 0, none⟩ = some (.string a0_0) := (blk_cell BK196.out 0).trans rfl
                        have hcz30_1 : wr.cell? ⟨gb196, 1, none⟩ = some (.slice A0_1 l0_1.length c0_1) := (blk_cell BK196.out 1).trans rfl
                        have hcz30_2 : wr.cell? ⟨gb196, 2, none⟩ = some (.bool a0_2) := (blk_cell BK196.out 2).trans rfl
                        have hfz30_0 := blk_frozen BK196.out 0
                        have hfz30_1 := blk_frozen BK196.out 1
                        have hfz30_2 := blk_frozen BK196.out 2
                        have p199 : 0 ≤ (x5_3 : Int) := of_decide_eq_true (by first | (with_reducible assumption) | assumption)
                        have q199 : x5_3 < (l0_1.length : Int) := of_decide_eq_true (by first | (with_reducible assumption) | assumption)
                        obtain ⟨ad199, e199, hx199_0, hx199_1⟩ := at_T46 HR0_1.out x5_3 p199 q199
                        cases e199
                        replace hx199_0 := (HB.out.cell (World.block_lt_of_cell? w _ hx199_0)).trans hx199_0
                        replace hx199_1 := (HB.out.cell (World.block_lt_of_cell? w _ hx199_1)).trans hx199_1
                        replace p199 := eq_true p199
                        replace q199 := eq_true q199
                        go_wp2
                        go_ret
                        exact ⟨by first | rfl | (simp [errW_none, errW_some] <;> rfl) | (simp [*, errW_none, errW_some] <;> rfl), by repeat (first | (with_reducible first | exact HB.out | apply below_alloc | apply pw_below_drewN | apply below_drew1 | refine below_set ?_ GE196.out) | exact HB.out)⟩
                      · rw [if_neg c29] at H
                        have c29b0 : decide (((rd_T46 l0_1 x5_3).f1) < 0) = false := decide_eq_false c29
                        clear c29
                        by_cases c31 : ((rd_T46 l0_1 x5_3).f1) > 16
                        · rw [if_pos c31] at H
                          have c31b0 : decide (16 < ((rd_T46 l0_1 x5_3).f1)) = true := decide_eq_true c31
                          clear c31
                          obtain rfl := Option.some.inj H
                          have hcz32_0 : wr.cell? ⟨gb196, 0, none⟩ = some (.string a0_0) := (blk_cell BK196.out 0).trans rfl
                          have hcz32_1 : wr.cell? ⟨gb196, 1, none⟩ = some (.slice A0_1 l0_1.length c0_1) := (blk_cell BK196.out 1).trans rfl
                          have hcz32_2 : wr.cell? ⟨gb196, 2, none⟩ = some (.bool a0_2) := (blk_cell BK196.out 2).trans rfl
                          have hfz32_0 := blk_frozen BK196.out 0
                          have hfz32_1 := blk_frozen BK196.out 1
                          have hfz32_2 := blk_frozen BK196.out 2
                          have p199 : 0 ≤ (x5_3 : Int) := of_decide_eq_true (by first | (with_reducible assumption) | assumption)
                          have q199 : x5_3 < (l0_1.length : Int) := of_decide_eq_true (by first | (with_reducible assumption) | assumption)
                          obtain ⟨ad199, e199, hx199_0, hx199_1⟩ := at_T46 HR0_1.out x5_3 p199 q199
                          cases e199
                          replace hx199_0 := (HB.out.cell (World.block_lt_of_cell? w _ hx199_0)).trans hx199_0
                          replace hx199_1 := (HB.out.cell (World.block_lt_of_cell? w _ hx199_1)).trans hx199_1
                          replace p199 := eq_true p199
                          replace q199 := eq_true q199
                          have p200 : 0 ≤ (x5_3 : Int) := of_decide_eq_true (by first | (with_reducible assumption) | assumption)
                          have q200 : x5_3 < (l0_1.length : Int) := of_decide_eq_true (by first | (with_reducible assumption) | assumption)
                          obtain ⟨ad200, e200, hx200_0, hx200_1⟩ := at_T46 HR0_1.out x5_3 p200 q200
                          obtain rfl : ad199 = ad200 := (by injection e200)
                          replace hx200_0 := (HB.out.cell (World.block_lt_of_cell? w _ hx200_0)).trans hx200_0
                          replace hx200_1 := (HB.out.cell (World.block_lt_of_cell? w _ hx200_1)).trans hx200_1
                          replace p200 := eq_true p200
                          replace q200 := eq_true q200
                          go_wp2
                          go_ret
                          exact ⟨by first | rfl | (simp [errW_none, errW_some] <;> rfl) | (simp [*, errW_none, errW_some] <;> rfl), by repeat (first | (with_reducible first | exact HB.out | apply below_alloc | apply pw_below_drewN | apply below_drew1 | refine below_set ?_ GE196.out) | exact HB.out)⟩
                        · rw [if_neg c31] at H
                          have c31b0 : decide (16 < ((rd_T46 l0_1 x5_3).f1)) = false := decide_eq_false c31
                          clear c31
                          have H' := Aside0.mk H
                          clear H
                          have hcz33_0 : wr.cell? ⟨gb196, 0, none⟩ = some (.string a0_0) := (blk_cell BK196.out 0).trans rfl
                          have hcz33_1 : wr.cell? ⟨gb196, 1, none⟩ = some (.slice A0_1 l0_1.length c0_1) := (blk_cell BK196.out 1).trans rfl
                          have hcz33_2 : wr.cell? ⟨gb196, 2, none⟩ = some (.bool a0_2) := (blk_cell BK196.out 2).trans rfl
                          have hfz33_0 := blk_frozen BK196.out 0
                          have hfz33_1 := blk_frozen BK196.out 1
                          have hfz33_2 := blk_frozen BK196.out 2
                          have p199 : 0 ≤ (x5_3 : Int) := of_decide_eq_true (by first | (with_reducible assumption) | assumption)
                          have q199 : x5_3 < (l0_1.length : Int) := of_decide_eq_true (by first | (with_reducible assumption) | assumption)
                          obtain ⟨ad199, e199, hx199_0, hx199_1⟩ := at_T46 HR0_1.out x5_3 p199 q199
                          cases e199
                          replace hx199_0 := (HB.out.cell (World.block_lt_of_cell? w _ hx199_0)).trans hx199_0
                          replace hx199_1 := (HB.out.cell (World.block_lt_of_cell? w _ hx199_1)).trans hx199_1
                          replace p199 := eq_true p199
                          replace q199 := eq_true q199
                          have p200 : 0 ≤ (x5_3 : Int) := of_decide_eq_true (by first | (with_reducible assumption) | assumption)
                          have q200 : x5_3 < (l0_1.length : Int) := of_decide_eq_true (by first | (with_reducible assumption) | assumption)
                          obtain ⟨ad200, e200, hx200_0, hx200_1⟩ := at_T46 HR0_1.out x5_3 p200 q200
                          obtain rfl : ad199 = ad200 := (by injection e200)
                          replace hx200_0 := (HB.out.cell (World.block_lt_of_cell? w _ hx200_0)).trans hx200_0
                          replace hx200_1 := (HB.out.cell (World.block_lt_of_cell? w _ hx200_1)).trans hx200_1
                          replace p200 := eq_true p200
                          replace q200 := eq_true q200
                          go_wp2
                          go_roundg k3
                          case measure => have := HK1.out; have := HJ10.out; have := HK3.out; omega
                          case rel => exact ⟨(wrap64 (x5_3 + 1)), (by first | rfl | (simp; done) | (simp [*]; done)), H', ⟨by have := HK1.out; have := HJ10.out; have := HK3.out; omega⟩, ⟨by (with_reducible repeat (first | refine blk_drewN ?_ _ | refine blk_drew ?_ | refine blk_alloc ?_ _)); exact BK196.out⟩, ⟨by repeat (first | (with_reducible first | exact HB.out | apply below_alloc | apply pw_below_drewN | apply below_drew1 | refine below_set ?_ GE196.out) | exact HB.out)⟩⟩
                    · rw [if_neg c28] at H
                      exact absurd H (by simp)
                  · rw [if_neg c27] at H
                    have c27b0 : decide (x5_3 < (l0_1.length : Int)) = false := decide_eq_false c27
                    clear c27
                    obtain rfl := Option.some.inj H
                    have hcz34_0 : wr.cell? ⟨gb196, 0, none⟩ = some (.string a0_0) := (blk_cell BK196.out 0).trans rfl
                    have hcz34_1 : wr.cell? ⟨gb196, 1, none⟩ = some (.slice A0_1 l0_1.length c0_1) := (blk_cell BK196.out 1).trans rfl
                    have hcz34_2 : wr.cell? ⟨gb196, 2, none⟩ = some (.bool a0_2) := (blk_cell BK196.out 2).trans rfl
                    have hfz34_0 := blk_frozen BK196.out 0
                    have hfz34_1 := blk_frozen BK196.out 1
                    have hfz34_2 := blk_frozen BK196.out 2
                    go_wp2
                    go_ret
                    exact ⟨by first | rfl | (simp [errW_none, errW_some] <;> rfl) | (simp [*, errW_none, errW_some] <;> rfl), by repeat (first | (with_reducible first | exact HB.out | apply below_alloc | apply pw_below_drewN | apply below_drew1 | refine below_set ?_ GE196.out) | exact HB.out)⟩

/-! ### carlingref04_label: function 38 -/
def carlingref04_label.f (a0 : Bool) : Option (ByteArray) := if a0 = true then (some (⟨#[115, 101, 99]⟩ : ByteArray)) else (some (⟨#[112, 117, 98]⟩ : ByteArray))
set_option maxHeartbeats 8000000 in
set_option maxRecDepth 100000 in
theorem carlingref04_label.calls (a0 : Bool) (r : ByteArray) (w : World) (h : carlingref04_label.f a0 = some r) :
    Calls Tryd.prog 38 #[.bool a0] w fun e w' => e = .returned (.string r) ∧ Drawn0 w w' := by
  have H : (if a0 = true then (some (⟨#[115, 101, 99]⟩ : ByteArray)) else (some (⟨#[112, 117, 98]⟩ : ByteArray))) = some r := h
  clear h
  by_cases c2 : a0 = true
  · subst c2
    have H1 : (some (⟨#[115, 101, 99]⟩ : ByteArray)) = some r := by rw [if_pos rfl] at H; exact H
    clear H
    have H := H1
    clear H1
    obtain rfl := Option.some.inj H
    go_enter Tryd.func38, Tryd.ntmps38
    go_wp2
    go_ret
    exact ⟨by first | rfl | (simp; done) | (simp [*]; done), by repeat (first | exact Drawn0.refl _ | apply Drawn0.step)⟩
  · replace c2 := Bool.eq_false_iff.mpr c2
    subst c2
    have H1 : (some (⟨#[112, 117, 98]⟩ : ByteArray)) = some r := by rw [if_neg (show ¬ (false = true) by decide)] at H; exact H
    clear H
    have H := H1
    clear H1
    obtain rfl := Option.some.inj H
    go_enter Tryd.func38, Tryd.ntmps38
    go_wp2
    go_ret
    exact ⟨by first | rfl | (simp; done) | (simp [*]; done), by repeat (first | exact Drawn0.refl _ | apply Drawn0.step)⟩

/-! ### carlingref03_Decimal: function 39 -/
def carlingref03_Decimal.l0 : Nat → Int → ByteArray → Option (ByteArray)
  | 0, _, _ => none
  | k + 1, x0, x3 => if x0 ≥ 10 then ((some (([(wrap64 (48 + (Int.tmod x0 10))) % 256] : List Int) : List Int)).bind fun y201 => (if (strOfNums y201).size + x3.size ≤ 9223372036854775807 then (carlingref03_Decimal.l0 k (wrap64 (Int.tdiv x0 10)) ((strOfNums y201) ++ x3)) else (none))) else ((some (([(wrap64 (48 + x0)) % 256] : List Int) : List Int)).bind fun y204 => (if (strOfNums y204).size + x3.size ≤ 9223372036854775807 then (some ((strOfNums y204) ++ x3)) else (none)))
def carlingref03_Decimal.f (k : Nat) (a0 : Int) : Option (ByteArray) := if a0 < 0 then (some (⟨#[45]⟩ : ByteArray)) else (carlingref03_Decimal.l0 k a0 (⟨#[]⟩ : ByteArray))
theorem carlingref03_Decimal.mono_l : ∀ k, (∀ y0 y1, LeO (carlingref03_Decimal.l0 k y0 y1) (carlingref03_Decimal.l0 (k + 1) y0 y1))
  | 0 => fun _ _ r h => by simp [carlingref03_Decimal.l0] at h
  | k + 1 => by
    have ih0 := carlingref03_Decimal.mono_l k
    · intro y0 y1
      unfold carlingref03_Decimal.l0
      repeat' first
      | (with_reducible exact ih0 _ _)
      | (with_reducible exact LeO.refl _)
      | (with_reducible exact LeO.none _)
      | (with_reducible refine LeO.ite ?_ ?_)
      | (with_reducible refine LeO.bind ?_ (fun _ => ?_))
      | exact ih0 _ _
      | exact LeO.none _
      | refine LeO.ite ?_ ?_
      | refine LeO.bind ?_ (fun _ => ?_)
theorem carlingref03_Decimal.mono : ∀ a0 k, LeO (carlingref03_Decimal.f k a0) (carlingref03_Decimal.f (k + 1) a0) := by
  intro a0 k
  have ih0 := carlingref03_Decimal.mono_l k
  unfold carlingref03_Decimal.f
  repeat' first
      | (with_reducible exact ih0 _ _)
      | (with_reducible exact LeO.refl _)
      | (with_reducible exact LeO.none _)
      | (with_reducible refine LeO.ite ?_ ?_)
      | (with_reducible refine LeO.bind ?_ (fun _ => ?_))
      | exact ih0 _ _
      | exact LeO.none _
      | refine LeO.ite ?_ ?_
      | refine LeO.bind ?_ (fun _ => ?_)
set_option maxHeartbeats 8000000 in
set_option maxRecDepth 100000 in
theorem carlingref03_Decimal.calls (k : Nat) (a0 : Int) (r : ByteArray) (w : World) (h : carlingref03_Decimal.f k a0 = some r) :
    Calls Tryd.prog 39 #[.int .i64 a0] w fun e w' => e = .returned (.string r) ∧ Below w.heap.size w w' := by
  have HB := Aside0.mk (Below.refl w.heap.size w)
  have H : (if a0 < 0 then (some (⟨#[45]⟩ : ByteArray)) else (carlingref03_Decimal.l0 k a0 (⟨#[]⟩ : ByteArray))) = some r := h
  clear h
  by_cases c2 : a0 < 0
  · rw [if_pos c2] at H
    have c2b0 : decide (a0 < 0) = true := decide_eq_true c2
    clear c2
    obtain rfl := Option.some.inj H
    go_enter Tryd.func39, Tryd.ntmps39
    go_wp2
    go_ret
    exact ⟨by first | rfl | (simp [errW_none, errW_some] <;> rfl) | (simp [*, errW_none, errW_some] <;> rfl), by repeat (first | (with_reducible first | exact HB.out | apply below_alloc | apply pw_below_drewN | apply below_drew1) | exact HB.out)⟩
  · rw [if_neg c2] at H
    have c2b0 : decide (a0 < 0) = false := decide_eq_false c2
    clear c2
    have H' := Aside0.mk H
    clear H
    go_enter Tryd.func39, Tryd.ntmps39
    go_wp2
    go_loopg [0, 3] k (fun kq v0 v3 w' => ∃ (x0_1 : Int) (x3_1 : ByteArray), v0 = .int .i64 x0_1 ∧ v3 = .string x3_1 ∧ Aside0 (carlingref03_Decimal.l0 kq x0_1 x3_1 = some r) ∧ Aside0 (kq ≤ k) ∧ Aside0 (Below w.heap.size w w'))
    case atStart => exact ⟨(a0), ((⟨#[]⟩ : ByteArray)), (by first | rfl | (simp; done) | (simp [*]; done)), (by first | rfl | (simp; done) | (simp [*]; done)), H', ⟨Nat.le_refl _⟩, ⟨by repeat (first | (with_reducible first | exact HB.out | apply below_alloc | apply pw_below_drewN | apply below_drew1) | exact HB.out)⟩⟩
    case round =>
      clear H'
      try clear c2
      try clear c2b0
      try clear p2
      obtain ⟨x0_1, x3_1, rfl, rfl, HA, HK1, HB⟩ := hrel
      cases gk with
      | zero => exact absurd HA.out (by simp [carlingref03_Decimal.l0])
      | succ k1 =>
        have H := HA.out
        clear HA
        simp only [carlingref03_Decimal.l0] at H
        by_cases c3 : x0_1 ≥ 10
        · rw [if_pos c3] at H
          have c3b0 : decide (10 ≤ x0_1) = true := decide_eq_true c3
          clear c3
          obtain ⟨y201, hy201⟩ : ∃ y_ : List Int, y_ = (([(wrap64 (48 + (Int.tmod x0_1 10))) % 256] : List Int)) := ⟨_, rfl⟩
          replace H : (if (strOfNums y201).size + x3_1.size ≤ 9223372036854775807 then (carlingref03_Decimal.l0 k1 (wrap64 (Int.tdiv x0_1 10)) ((strOfNums y201) ++ x3_1)) else (none)) = some r := by first | (rw [hy201]; with_reducible exact H) | (have H2_ := (Option.bind_some _ _).symm.trans H; rw [hy201]; with_reducible exact H2_) | (have H2_ := (Option.bind_some _ _).symm.trans H; with_reducible exact H2_) | with_reducible exact H | (rw [hy201]; exact H) | exact H
          have Ny201 := Aside0.mk hy201
          clear hy201
          by_cases c4 : (strOfNums y201).size + x3_1.size ≤ 9223372036854775807
          · rw [if_pos c4] at H
            have c4b0 := eq_true c4
            have c4b1 : decide ((strOfNums y201).size + x3_1.size ≤ 9223372036854775807) = true := decide_eq_true c4
            try have c4b2 : (9223372036854775807 < (strOfNums y201).size + x3_1.size) = False := eq_false (Nat.not_lt.2 c4)
            have H' := Aside0.mk H
            clear H
            go_wp2_with (first | ((with_reducible refine gate_dst (N := 12) rfl ?_); refine Kd.R_lit (Kd.int .u8) _ 5 ?hg (N := 12) ?hd (xs := ([(wrap64 (48 + (Int.tmod x0_1 10))) % 256] : List Int)) (inner := [.int .u8 ((wrap64 (48 + (Int.tmod x0_1 10))) % 256)]) (ok := fun _ => True) (okp := fun _ => True) ?hr ?hp (fun _ hk => hk) trivial (Below.refl _ _) (Nat.le_refl _) (by simp) ?_; (case hd => rfl); (case hg => rfl); (case hr => first | (go_simp; done) | (go_simp; rfl)); (case hp => exact (Reps.one (show Kd.M (Kd.int .u8) _ _ _ ((wrap64 (48 + (Int.tmod x0_1 10))) % 256) [.int .u8 ((wrap64 (48 + (Int.tmod x0_1 10))) % 256)] from rfl) (Reps.none _ _))); intro v202 w5 ho6 hb hg_ hnew_; clear hg_ hnew_; (first | rw [← Ny201.out] at ho6 | (simp only [Int.reduceToNat] at ho6; rw [← Ny201.out] at ho6)); have n0_ := Aside0.mk (Kd.R_lower ho6 (below_size (by repeat (first | (with_reducible first | exact HB.out | apply below_alloc | apply pw_below_drewN | apply below_drew1) | exact HB.out)))); have n1_ := Aside0.mk (below_step (by repeat (first | (with_reducible first | exact HB.out | apply below_alloc | apply pw_below_drewN | apply below_drew1) | exact HB.out)) hb); clear HB; have HO203 := n0_; have HB := n1_; clear n0_ n1_; clear hb ho6; have hcv7 := own_string (P := Tryd.prog) Tryd.underlying48 Tryd.underlying5 Tryd.underlying9 (Kd.own_of_R HO203.out)))
            go_roundg k1
            case measure => have := HK1.out; omega
            case rel => exact ⟨(wrap64 (Int.tdiv x0_1 10)), ((strOfNums y201) ++ x3_1), (by first | rfl | (simp; done) | (simp [*]; done)), (by first | rfl | (simp; done) | (simp [*]; done)), H', ⟨by have := HK1.out; omega⟩, ⟨by repeat (first | (with_reducible first | exact HB.out | apply below_alloc | apply pw_below_drewN | apply below_drew1) | exact HB.out)⟩⟩
          · rw [if_neg c4] at H
            exact absurd H (by simp)
        · rw [if_neg c3] at H
          have c3b0 : decide (10 ≤ x0_1) = false := decide_eq_false c3
          clear c3
          obtain ⟨y204, hy204⟩ : ∃ y_ : List Int, y_ = (([(wrap64 (48 + x0_1)) % 256] : List Int)) := ⟨_, rfl⟩
          replace H : (if (strOfNums y204).size + x3_1.size ≤ 9223372036854775807 then (some ((strOfNums y204) ++ x3_1)) else (none)) = some r := by first | (rw [hy204]; with_reducible exact H) | (have H2_ := (Option.bind_some _ _).symm.trans H; rw [hy204]; with_reducible exact H2_) | (have H2_ := (Option.bind_some _ _).symm.trans H; with_reducible exact H2_) | with_reducible exact H | (rw [hy204]; exact H) | exact H
          have Ny204 := Aside0.mk hy204
          clear hy204
          by_cases c8 : (strOfNums y204).size + x3_1.size ≤ 9223372036854775807
          · rw [if_pos c8] at H
            have c8b0 := eq_true c8
            have c8b1 : decide ((strOfNums y204).size + x3_1.size ≤ 9223372036854775807) = true := decide_eq_true c8
            try have c8b2 : (9223372036854775807 < (strOfNums y204).size + x3_1.size) = False := eq_false (Nat.not_lt.2 c8)
            obtain rfl := Option.some.inj H
            go_wp2_with (first | ((with_reducible refine gate_dst (N := 21) rfl ?_); refine Kd.R_lit (Kd.int .u8) _ 5 ?hg (N := 21) ?hd (xs := ([(wrap64 (48 + x0_1)) % 256] : List Int)) (inner := [.int .u8 ((wrap64 (48 + x0_1)) % 256)]) (ok := fun _ => True) (okp := fun _ => True) ?hr ?hp (fun _ hk => hk) trivial (Below.refl _ _) (Nat.le_refl _) (by simp) ?_; (case hd => rfl); (case hg => rfl); (case hr => first | (go_simp; done) | (go_simp; rfl)); (case hp => exact (Reps.one (show Kd.M (Kd.int .u8) _ _ _ ((wrap64 (48 + x0_1)) % 256) [.int .u8 ((wrap64 (48 + x0_1)) % 256)] from rfl) (Reps.none _ _))); intro v205 w9 ho10 hb hg_ hnew_; clear hg_ hnew_; (first | rw [← Ny204.out] at ho10 | (simp only [Int.reduceToNat] at ho10; rw [← Ny204.out] at ho10)); have n0_ := Aside0.mk (Kd.R_lower ho10 (below_size (by repeat (first | (with_reducible first | exact HB.out | apply below_alloc | apply pw_below_drewN | apply below_drew1) | exact HB.out)))); have n1_ := Aside0.mk (below_step (by repeat (first | (with_reducible first | exact HB.out | apply below_alloc | apply pw_below_drewN | apply below_drew1) | exact HB.out)) hb); clear HB; have HO206 := n0_; have HB := n1_; clear n0_ n1_; clear hb ho10; have hcv11 := own_string (P := Tryd.prog) Tryd.underlying48 Tryd.underlying5 Tryd.underlying9 (Kd.own_of_R HO206.out)))
            go_ret
            exact ⟨by first | rfl | (simp [errW_none, errW_some] <;> rfl) | (simp [*, errW_none, errW_some] <;> rfl), by repeat (first | (with_reducible first | exact HB.out | apply below_alloc | apply pw_below_drewN | apply below_drew1) | exact HB.out)⟩
          · rw [if_neg c8] at H
            exact absurd H (by simp)

end Go.Proofs.YtappdmioncdefaaDoor.Q
