-- WRITTEN BY A PROGRAM OF THIS SESSION
import Derived.Test.YtappdmioncdefaaDoorQ0
import Derived.Test.YtappdmioncdefaaDoorQCarlingref03Decimal
namespace Go.Proofs.YtappdmioncdefaaDoor.Q
open Go.RowKit Go.Proofs.YtappdmioncdefaaDoorW.PrintWords Go.Proofs.YtappdmioncdefaaDoorW.PrintLast Go.Proofs.YtappdmioncdefaaDoorW.PrintMore
attribute [local go_sem] max2_int min2_int max_two min_two max_three min_three max_four min_four   -- for this text's walks alone
set_option linter.unusedVariables false
set_option linter.unusedSimpArgs false

/-! ### carlingref04_Line: function 27 -/
def carlingref04_Line.l0 : Nat → ByteArray → Int → ByteArray → List (S46) → Bool → Option (ByteArray)
  | 0, _, _, _, _, _ => none
  | k + 1, x3, x4, x208000, x208001, x208002 => if x4 < (x208001.length : Int) then (if x3.size + 1 ≤ 9223372036854775807 then (if 0 ≤ x4 then ((carlingref04_label.f ((rd_T46 x208001 x4).f0)).bind fun t210 => (if (x3 ++ (⟨#[32]⟩ : ByteArray)).size + t210.size ≤ 9223372036854775807 then (if ((rd_T46 x208001 x4).f1) > 0 then ((carlingref03_Decimal.f k ((rd_T46 x208001 x4).f1)).bind fun t213 => (if ((x3 ++ (⟨#[32]⟩ : ByteArray)) ++ t210).size + t213.size ≤ 9223372036854775807 then (carlingref04_Line.l0 k (((x3 ++ (⟨#[32]⟩ : ByteArray)) ++ t210) ++ t213) (wrap64 (x4 + 1)) x208000 x208001 x208002) else (none))) else (carlingref04_Line.l0 k ((x3 ++ (⟨#[32]⟩ : ByteArray)) ++ t210) (wrap64 (x4 + 1)) x208000 x208001 x208002)) else (none))) else (none)) else (none)) else (if x3.size + 3 ≤ 9223372036854775807 then ((carlingref04_label.f x208002).bind fun t208 => (if (x3 ++ (⟨#[32, 58, 32]⟩ : ByteArray)).size + t208.size ≤ 9223372036854775807 then (if ((x3 ++ (⟨#[32, 58, 32]⟩ : ByteArray)) ++ t208).size + 1 ≤ 9223372036854775807 then (some (((x3 ++ (⟨#[32, 58, 32]⟩ : ByteArray)) ++ t208) ++ (⟨#[10]⟩ : ByteArray))) else (none)) else (none))) else (none))
def carlingref04_Line.f (k : Nat) (a0_0 : ByteArray) (l0_1 : List (S46)) (a0_2 : Bool) : Option (ByteArray) := carlingref04_Line.l0 k a0_0 0 a0_0 l0_1 a0_2
theorem carlingref04_Line.mono_l : ∀ k, (∀ y0 y1 y2 y3 y4, LeO (carlingref04_Line.l0 k y0 y1 y2 y3 y4) (carlingref04_Line.l0 (k + 1) y0 y1 y2 y3 y4))
  | 0 => fun _ _ _ _ _ r h => by simp [carlingref04_Line.l0] at h
  | k + 1 => by
    have ih0 := carlingref04_Line.mono_l k
    · intro y0 y1 y2 y3 y4
      unfold carlingref04_Line.l0
      repeat' first
      | (with_reducible exact ih0 _ _ _ _ _)
      | (with_reducible exact carlingref03_Decimal.mono _ _)
      | (with_reducible exact LeO.refl _)
      | (with_reducible exact LeO.none _)
      | (with_reducible refine LeO.ite ?_ ?_)
      | (with_reducible refine LeO.bind ?_ (fun _ => ?_))
      | exact ih0 _ _ _ _ _
      | exact carlingref03_Decimal.mono _ _
      | exact LeO.none _
      | refine LeO.ite ?_ ?_
      | refine LeO.bind ?_ (fun _ => ?_)
theorem carlingref04_Line.mono : ∀ a0 a1 a2 k, LeO (carlingref04_Line.f k a0 a1 a2) (carlingref04_Line.f (k + 1) a0 a1 a2) := by
  intro a0 a1 a2 k
  have ih0 := carlingref04_Line.mono_l k
  unfold carlingref04_Line.f
  repeat' first
      | (with_reducible exact ih0 _ _ _ _ _)
      | (with_reducible exact carlingref03_Decimal.mono _ _)
      | (with_reducible exact LeO.refl _)
      | (with_reducible exact LeO.none _)
      | (with_reducible refine LeO.ite ?_ ?_)
      | (with_reducible refine LeO.bind ?_ (fun _ => ?_))
      | exact ih0 _ _ _ _ _
      | exact carlingref03_Decimal.mono _ _
      | exact LeO.none _
      | refine LeO.ite ?_ ?_
      | refine LeO.bind ?_ (fun _ => ?_)
set_option maxHeartbeats 8000000 in
set_option maxRecDepth 100000 in
theorem carlingref04_Line.calls (k : Nat) (a0_0 : ByteArray) (A0_1 : Option Addr) (c0_1 : Nat) (l0_1 : List (S46)) (a0_2 : Bool) (r : ByteArray) (w : World) (hr0_1 : Kd.C k46 w A0_1 l0_1.length l0_1) (hc0_1 : l0_1.length ≤ c0_1) (h : carlingref04_Line.f k a0_0 l0_1 a0_2 = some r) :
    Calls Tryd.prog 27 #[.agg #[.string a0_0, .slice A0_1 l0_1.length c0_1, .bool a0_2]] w fun e w' => e = .returned (.string r) ∧ Below w.heap.size w w' := by
  have hu34 := Tryd.underlying34
  have HR0_1 := Aside0.mk hr0_1
  have HC0_1 := Aside0.mk hc0_1
  clear hr0_1 hc0_1
  have HB := Aside0.mk (Below.refl w.heap.size w)
  have H : (carlingref04_Line.l0 k a0_0 0 a0_0 l0_1 a0_2) = some r := h
  clear h
  have H' := Aside0.mk H
  clear H
  go_enter Tryd.func27, Tryd.ntmps27
  go_wp2_with (first | ((with_reducible refine gate_dst (N := 1) rfl ?_); refine box_event ?hg (N := 1) ?hd (cs := #[.string a0_0, .slice A0_1 l0_1.length c0_1, .bool a0_2]) (t := 34) ?hr ?_; (case hd => rfl); (case hg => rfl); (case hr => first | (go_simp; done) | (go_simp; rfl)); intro gb207 hg w2 hbox hb; have n0_ := Aside0.mk (below_step (by repeat (first | (with_reducible first | exact HB.out | apply below_alloc | apply pw_below_drewN | apply below_drew1) | exact HB.out)) hb); have n1_ := Aside0.mk (hbox); have n2_ := Aside0.mk ((by rw [hg]; exact (below_size (by repeat (first | (with_reducible first | exact HB.out | apply below_alloc | apply pw_below_drewN | apply below_drew1) | exact HB.out))) : w.heap.size ≤ gb207)); have n3_ := Aside0.mk ((by rw [hg]; exact (below_size (by repeat (first | (with_reducible first | exact HB.out | apply below_alloc | apply pw_below_drewN | apply below_drew1) | exact HB.out))) : w.heap.size ≤ gb207)); clear HB; have HB := n0_; have BK207 := n1_; have GW207 := n2_; have GE207 := n3_; clear n0_ n1_ n2_ n3_; clear hb hbox hg; have hcz3_0 : w2.cell? ⟨gb207, 0, none⟩ = some (.string a0_0) := (blk_cell BK207.out 0).trans rfl; have hcz3_1 : w2.cell? ⟨gb207, 1, none⟩ = some (.slice A0_1 l0_1.length c0_1) := (blk_cell BK207.out 1).trans rfl; have hcz3_2 : w2.cell? ⟨gb207, 2, none⟩ = some (.bool a0_2) := (blk_cell BK207.out 2).trans rfl; have hfz3_0 := blk_frozen BK207.out 0; have hfz3_1 := blk_frozen BK207.out 1; have hfz3_2 := blk_frozen BK207.out 2))
  go_loopg [3, 4] k (fun kq v3 v4 w' => ∃ (x3_1 : ByteArray) (x4_1 : Int), v3 = .string x3_1 ∧ v4 = .int .i64 x4_1 ∧ Aside0 (carlingref04_Line.l0 kq x3_1 x4_1 a0_0 l0_1 a0_2 = some r) ∧ Aside0 (kq ≤ k) ∧ Aside0 (w'.heap[gb207]? = some (.cells #[.string a0_0, (.slice A0_1 l0_1.length c0_1), .bool a0_2] 34 (0, 0))) ∧ Aside0 (Below w.heap.size w w'))
  case atStart => exact ⟨(a0_0), (0), (by first | rfl | (simp; done) | (simp [*]; done)), (by first | rfl | (simp; done) | (simp [*]; done)), H', ⟨Nat.le_refl _⟩, ⟨by (with_reducible repeat (first | refine blk_drewN ?_ _ | refine blk_drew ?_ | refine blk_alloc ?_ _)); exact BK207.out⟩, ⟨by repeat (first | (with_reducible first | exact HB.out | apply below_alloc | apply pw_below_drewN | apply below_drew1 | refine below_set ?_ GE207.out) | exact HB.out)⟩⟩
  case round =>
    clear H'
    try clear c2
    try clear p2
    try clear hcz3_0
    try clear hcz3_1
    try clear hcz3_2
    try clear hfz3_0
    try clear hfz3_1
    try clear hfz3_2
    obtain ⟨x3_1, x4_1, rfl, rfl, HA, HK1, BK207, HB⟩ := hrel
    cases gk with
    | zero => exact absurd HA.out (by simp [carlingref04_Line.l0])
    | succ k1 =>
      have H := HA.out
      clear HA
      simp only [carlingref04_Line.l0] at H
      by_cases c4 : x4_1 < (l0_1.length : Int)
      · rw [if_pos c4] at H
        have c4b0 : decide (x4_1 < (l0_1.length : Int)) = true := decide_eq_true c4
        clear c4
        by_cases c5 : x3_1.size + 1 ≤ 9223372036854775807
        · rw [if_pos c5] at H
          have c5b0 := eq_true c5
          have c5b1 : decide (x3_1.size + 1 ≤ 9223372036854775807) = true := decide_eq_true c5
          try have c5b2 : (9223372036854775807 < x3_1.size + 1) = False := eq_false (Nat.not_lt.2 c5)
          by_cases c6 : 0 ≤ x4_1
          · rw [if_pos c6] at H
            have c6b0 : decide (0 ≤ x4_1) = true := decide_eq_true c6
            clear c6
            replace H := Option.bind_eq_some_iff.mp H
            obtain ⟨t210, A70, H⟩ := H
            replace H : (if (x3_1 ++ (⟨#[32]⟩ : ByteArray)).size + t210.size ≤ 9223372036854775807 then (if ((rd_T46 l0_1 x4_1).f1) > 0 then ((carlingref03_Decimal.f k1 ((rd_T46 l0_1 x4_1).f1)).bind fun t213 => (if ((x3_1 ++ (⟨#[32]⟩ : ByteArray)) ++ t210).size + t213.size ≤ 9223372036854775807 then (carlingref04_Line.l0 k1 (((x3_1 ++ (⟨#[32]⟩ : ByteArray)) ++ t210) ++ t213) (wrap64 (x4_1 + 1)) a0_0 l0_1 a0_2) else (none))) else (carlingref04_Line.l0 k1 ((x3_1 ++ (⟨#[32]⟩ : ByteArray)) ++ t210) (wrap64 (x4_1 + 1)) a0_0 l0_1 a0_2)) else (none)) = some r := H
            have A7 := Aside0.mk A70
            clear A70
            by_cases c8 : (x3_1 ++ (⟨#[32]⟩ : ByteArray)).size + t210.size ≤ 9223372036854775807
            · rw [if_pos c8] at H
              have c8b0 := eq_true c8
              have c8b1 : decide ((x3_1 ++ (⟨#[32]⟩ : ByteArray)).size + t210.size ≤ 9223372036854775807) = true := decide_eq_true c8
              try have c8b2 : (9223372036854775807 < (x3_1 ++ (⟨#[32]⟩ : ByteArray)).size + t210.size) = False := eq_false (Nat.not_lt.2 c8)
              try have c8b3 : (9223372036854775807 < x3_1.size + 1 + t210.size) = False := eq_false (Nat.not_lt.2 (by have h_ := c8; simp only [ByteArray.size_append] at h_; exact h_))
              by_cases c9 : ((rd_T46 l0_1 x4_1).f1) > 0
              · rw [if_pos c9] at H
                have c9b0 : decide (0 < ((rd_T46 l0_1 x4_1).f1)) = true := decide_eq_true c9
                clear c9
                replace H := Option.bind_eq_some_iff.mp H
                obtain ⟨t213, A100, H⟩ := H
                replace H : (if ((x3_1 ++ (⟨#[32]⟩ : ByteArray)) ++ t210).size + t213.size ≤ 9223372036854775807 then (carlingref04_Line.l0 k1 (((x3_1 ++ (⟨#[32]⟩ : ByteArray)) ++ t210) ++ t213) (wrap64 (x4_1 + 1)) a0_0 l0_1 a0_2) else (none)) = some r := H
                have A10 := Aside0.mk A100
                clear A100
                by_cases c11 : ((x3_1 ++ (⟨#[32]⟩ : ByteArray)) ++ t210).size + t213.size ≤ 9223372036854775807
                · rw [if_pos c11] at H
                  have c11b0 := eq_true c11
                  have c11b1 : decide (((x3_1 ++ (⟨#[32]⟩ : ByteArray)) ++ t210).size + t213.size ≤ 9223372036854775807) = true := decide_eq_true c11
                  try have c11b2 : (9223372036854775807 < ((x3_1 ++ (⟨#[32]⟩ : ByteArray)) ++ t210).size + t213.size) = False := eq_false (Nat.not_lt.2 c11)
                  try have c11b3 : (9223372036854775807 < x3_1.size + 1 + t210.size + t213.size) = False := eq_false (Nat.not_lt.2 (by have h_ := c11; simp only [ByteArray.size_append] at h_; exact h_))
                  have H' := Aside0.mk H
                  clear H
                  have hcz12_0 : wr.cell? ⟨gb207, 0, none⟩ = some (.string a0_0) := (blk_cell BK207.out 0).trans rfl
                  have hcz12_1 : wr.cell? ⟨gb207, 1, none⟩ = some (.slice A0_1 l0_1.length c0_1) := (blk_cell BK207.out 1).trans rfl
                  have hcz12_2 : wr.cell? ⟨gb207, 2, none⟩ = some (.bool a0_2) := (blk_cell BK207.out 2).trans rfl
                  have hfz12_0 := blk_frozen BK207.out 0
                  have hfz12_1 := blk_frozen BK207.out 1
                  have hfz12_2 := blk_frozen BK207.out 2
                  have p209 : 0 ≤ (x4_1 : Int) := of_decide_eq_true (by first | (with_reducible assumption) | assumption)
                  have q209 : x4_1 < (l0_1.length : Int) := of_decide_eq_true (by first | (with_reducible assumption) | assumption)
                  obtain ⟨ad209, e209, hx209_0, hx209_1⟩ := at_T46 HR0_1.out x4_1 p209 q209
                  cases e209
                  replace hx209_0 := (HB.out.cell (World.block_lt_of_cell? w _ hx209_0)).trans hx209_0
                  replace hx209_1 := (HB.out.cell (World.block_lt_of_cell? w _ hx209_1)).trans hx209_1
                  replace p209 := eq_true p209
                  replace q209 := eq_true q209
                  go_wp2_with (first | ((with_reducible refine gate_callee (f := 38) rfl ?_); refine goesL_ (some 22) rfl rfl Tryd.func38 (by kernel_rfl) rfl #[.bool ((rd_T46 l0_1 x4_1).f0)] rfl (by (try simp only [List.map_toArray, List.map_cons, List.map_nil]); first | done | rfl | (simp only [List.length_drop, List.length_take]; rfl)) ?_; (with_reducible refine (carlingref04_label.calls ((rd_T46 l0_1 x4_1).f0) t210 _ A7.out).mono ?_); rintro e w' ⟨rfl, ⟨nd, rfl⟩⟩; refine ⟨_, rfl, ?_⟩; have p211 : 0 ≤ (x4_1 : Int) := of_decide_eq_true (by first | (with_reducible assumption) | assumption); have q211 : x4_1 < (l0_1.length : Int) := of_decide_eq_true (by first | (with_reducible assumption) | assumption); obtain ⟨ad211, e211, hx211_0, hx211_1⟩ := at_T46 HR0_1.out x4_1 p211 q211; obtain rfl : ad209 = ad211 := (by injection e211); replace hx211_0 := (HB.out.cell (World.block_lt_of_cell? w _ hx211_0)).trans hx211_0; replace hx211_1 := (HB.out.cell (World.block_lt_of_cell? w _ hx211_1)).trans hx211_1; replace p211 := eq_true p211; replace q211 := eq_true q211; have p212 : 0 ≤ (x4_1 : Int) := of_decide_eq_true (by first | (with_reducible assumption) | assumption); have q212 : x4_1 < (l0_1.length : Int) := of_decide_eq_true (by first | (with_reducible assumption) | assumption); obtain ⟨ad212, e212, hx212_0, hx212_1⟩ := at_T46 HR0_1.out x4_1 p212 q212; obtain rfl : ad209 = ad212 := (by injection e212); replace hx212_0 := (HB.out.cell (World.block_lt_of_cell? w _ hx212_0)).trans hx212_0; replace hx212_1 := (HB.out.cell (World.block_lt_of_cell? w _ hx212_1)).trans hx212_1; replace p212 := eq_true p212; replace q212 := eq_true q212) | ((with_reducible refine gate_callee (f := 39) rfl ?_); refine goesL_ (some 38) rfl rfl Tryd.func39 (by kernel_rfl) rfl #[.int .i64 ((rd_T46 l0_1 x4_1).f1)] rfl (by (try simp only [List.map_toArray, List.map_cons, List.map_nil]); first | done | rfl | (simp only [List.length_drop, List.length_take]; rfl)) ?_; (with_reducible refine (carlingref03_Decimal.calls k1 ((rd_T46 l0_1 x4_1).f1) t213 _ A10.out).mono ?_); rintro e w13 ⟨rfl, hb⟩; refine ⟨_, rfl, ?_⟩; have n0_ := Aside0.mk (blk_below (g := gb207) (o := .cells #[.string a0_0, .slice (some ad209) l0_1.length c0_1, .bool a0_2] 34 (0, 0)) (by (with_reducible repeat (first | refine blk_drewN ?_ _ | refine blk_drew ?_ | refine blk_alloc ?_ _)); exact BK207.out) hb); have n1_ := Aside0.mk (below_step (by repeat (first | (with_reducible first | exact HB.out | apply below_alloc | apply pw_below_drewN | apply below_drew1 | refine below_set ?_ GE207.out) | exact HB.out)) hb); clear BK207; clear HB; have BK207 := n0_; have HB := n1_; clear n0_ n1_; (try clear hb); (try clear hb2); (try clear hk); (try clear hi)))
                  go_roundg k1
                  case measure => have := HK1.out; omega
                  case rel => exact ⟨(((x3_1 ++ (⟨#[32]⟩ : ByteArray)) ++ t210) ++ t213), (wrap64 (x4_1 + 1)), (by first | rfl | (simp; done) | (simp [*]; done)), (by first | rfl | (simp; done) | (simp [*]; done)), H', ⟨by have := HK1.out; omega⟩, ⟨by (with_reducible repeat (first | refine blk_drewN ?_ _ | refine blk_drew ?_ | refine blk_alloc ?_ _)); exact BK207.out⟩, ⟨by repeat (first | (with_reducible first | exact HB.out | apply below_alloc | apply pw_below_drewN | apply below_drew1 | refine below_set ?_ GE207.out) | exact HB.out)⟩⟩
                · rw [if_neg c11] at H
                  exact absurd H (by simp)
              · rw [if_neg c9] at H
                have c9b0 : decide (0 < ((rd_T46 l0_1 x4_1).f1)) = false := decide_eq_false c9
                clear c9
                have H' := Aside0.mk H
                clear H
                have hcz14_0 : wr.cell? ⟨gb207, 0, none⟩ = some (.string a0_0) := (blk_cell BK207.out 0).trans rfl
                have hcz14_1 : wr.cell? ⟨gb207, 1, none⟩ = some (.slice A0_1 l0_1.length c0_1) := (blk_cell BK207.out 1).trans rfl
                have hcz14_2 : wr.cell? ⟨gb207, 2, none⟩ = some (.bool a0_2) := (blk_cell BK207.out 2).trans rfl
                have hfz14_0 := blk_frozen BK207.out 0
                have hfz14_1 := blk_frozen BK207.out 1
                have hfz14_2 := blk_frozen BK207.out 2
                have p209 : 0 ≤ (x4_1 : Int) := of_decide_eq_true (by first | (with_reducible assumption) | assumption)
                have q209 : x4_1 < (l0_1.length : Int) := of_decide_eq_true (by first | (with_reducible assumption) | assumption)
                obtain ⟨ad209, e209, hx209_0, hx209_1⟩ := at_T46 HR0_1.out x4_1 p209 q209
                cases e209
                replace hx209_0 := (HB.out.cell (World.block_lt_of_cell? w _ hx209_0)).trans hx209_0
                replace hx209_1 := (HB.out.cell (World.block_lt_of_cell? w _ hx209_1)).trans hx209_1
                replace p209 := eq_true p209
                replace q209 := eq_true q209
                go_wp2_with (first | ((with_reducible refine gate_callee (f := 38) rfl ?_); refine goesL_ (some 22) rfl rfl Tryd.func38 (by kernel_rfl) rfl #[.bool ((rd_T46 l0_1 x4_1).f0)] rfl (by (try simp only [List.map_toArray, List.map_cons, List.map_nil]); first | done | rfl | (simp only [List.length_drop, List.length_take]; rfl)) ?_; (with_reducible refine (carlingref04_label.calls ((rd_T46 l0_1 x4_1).f0) t210 _ A7.out).mono ?_); rintro e w' ⟨rfl, ⟨nd, rfl⟩⟩; refine ⟨_, rfl, ?_⟩; have p211 : 0 ≤ (x4_1 : Int) := of_decide_eq_true (by first | (with_reducible assumption) | assumption); have q211 : x4_1 < (l0_1.length : Int) := of_decide_eq_true (by first | (with_reducible assumption) | assumption); obtain ⟨ad211, e211, hx211_0, hx211_1⟩ := at_T46 HR0_1.out x4_1 p211 q211; obtain rfl : ad209 = ad211 := (by injection e211); replace hx211_0 := (HB.out.cell (World.block_lt_of_cell? w _ hx211_0)).trans hx211_0; replace hx211_1 := (HB.out.cell (World.block_lt_of_cell? w _ hx211_1)).trans hx211_1; replace p211 := eq_true p211; replace q211 := eq_true q211))
                go_roundg k1
                case measure => have := HK1.out; omega
                case rel => exact ⟨((x3_1 ++ (⟨#[32]⟩ : ByteArray)) ++ t210), (wrap64 (x4_1 + 1)), (by first | rfl | (simp; done) | (simp [*]; done)), (by first | rfl | (simp; done) | (simp [*]; done)), H', ⟨by have := HK1.out; omega⟩, ⟨by (with_reducible repeat (first | refine blk_drewN ?_ _ | refine blk_drew ?_ | refine blk_alloc ?_ _)); exact BK207.out⟩, ⟨by repeat (first | (with_reducible first | exact HB.out | apply below_alloc | apply pw_below_drewN | apply below_drew1 | refine below_set ?_ GE207.out) | exact HB.out)⟩⟩
            · rw [if_neg c8] at H
              exact absurd H (by simp)
          · rw [if_neg c6] at H
            exact absurd H (by simp)
        · rw [if_neg c5] at H
          exact absurd H (by simp)
      · rw [if_neg c4] at H
        have c4b0 : decide (x4_1 < (l0_1.length : Int)) = false := decide_eq_false c4
        clear c4
        by_cases c15 : x3_1.size + 3 ≤ 9223372036854775807
        · rw [if_pos c15] at H
          have c15b0 := eq_true c15
          have c15b1 : decide (x3_1.size + 3 ≤ 9223372036854775807) = true := decide_eq_true c15
          try have c15b2 : (9223372036854775807 < x3_1.size + 3) = False := eq_false (Nat.not_lt.2 c15)
          replace H := Option.bind_eq_some_iff.mp H
          obtain ⟨t208, A160, H⟩ := H
          replace H : (if (x3_1 ++ (⟨#[32, 58, 32]⟩ : ByteArray)).size + t208.size ≤ 9223372036854775807 then (if ((x3_1 ++ (⟨#[32, 58, 32]⟩ : ByteArray)) ++ t208).size + 1 ≤ 9223372036854775807 then (some (((x3_1 ++ (⟨#[32, 58, 32]⟩ : ByteArray)) ++ t208) ++ (⟨#[10]⟩ : ByteArray))) else (none)) else (none)) = some r := H
          have A16 := Aside0.mk A160
          clear A160
          by_cases c17 : (x3_1 ++ (⟨#[32, 58, 32]⟩ : ByteArray)).size + t208.size ≤ 9223372036854775807
          · rw [if_pos c17] at H
            have c17b0 := eq_true c17
            have c17b1 : decide ((x3_1 ++ (⟨#[32, 58, 32]⟩ : ByteArray)).size + t208.size ≤ 9223372036854775807) = true := decide_eq_true c17
            try have c17b2 : (9223372036854775807 < (x3_1 ++ (⟨#[32, 58, 32]⟩ : ByteArray)).size + t208.size) = False := eq_false (Nat.not_lt.2 c17)
            try have c17b3 : (9223372036854775807 < x3_1.size + 3 + t208.size) = False := eq_false (Nat.not_lt.2 (by have h_ := c17; simp only [ByteArray.size_append] at h_; exact h_))
            by_cases c18 : ((x3_1 ++ (⟨#[32, 58, 32]⟩ : ByteArray)) ++ t208).size + 1 ≤ 9223372036854775807
            · rw [if_pos c18] at H
              have c18b0 := eq_true c18
              have c18b1 : decide (((x3_1 ++ (⟨#[32, 58, 32]⟩ : ByteArray)) ++ t208).size + 1 ≤ 9223372036854775807) = true := decide_eq_true c18
              try have c18b2 : (9223372036854775807 < ((x3_1 ++ (⟨#[32, 58, 32]⟩ : ByteArray)) ++ t208).size + 1) = False := eq_false (Nat.not_lt.2 c18)
              try have c18b3 : (9223372036854775807 < x3_1.size + 3 + t208.size + 1) = False := eq_false (Nat.not_lt.2 (by have h_ := c18; simp only [ByteArray.size_append] at h_; exact h_))
              obtain rfl := Option.some.inj H
              have hcz19_0 : wr.cell? ⟨gb207, 0, none⟩ = some (.string a0_0) := (blk_cell BK207.out 0).trans rfl
              have hcz19_1 : wr.cell? ⟨gb207, 1, none⟩ = some (.slice A0_1 l0_1.length c0_1) := (blk_cell BK207.out 1).trans rfl
              have hcz19_2 : wr.cell? ⟨gb207, 2, none⟩ = some (.bool a0_2) := (blk_cell BK207.out 2).trans rfl
              have hfz19_0 := blk_frozen BK207.out 0
              have hfz19_1 := blk_frozen BK207.out 1
              have hfz19_2 := blk_frozen BK207.out 2
              go_wp2_with (first | ((with_reducible refine gate_callee (f := 38) rfl ?_); refine goesL_ (some 44) rfl rfl Tryd.func38 (by kernel_rfl) rfl #[.bool a0_2] rfl (by (try simp only [List.map_toArray, List.map_cons, List.map_nil]); first | done | rfl | (simp only [List.length_drop, List.length_take]; rfl)) ?_; (with_reducible refine (carlingref04_label.calls a0_2 t208 _ A16.out).mono ?_); rintro e w' ⟨rfl, ⟨nd, rfl⟩⟩; refine ⟨_, rfl, ?_⟩))
              go_ret
              exact ⟨by first | rfl | (simp [errW_none, errW_some] <;> rfl) | (simp [*, errW_none, errW_some] <;> rfl), by repeat (first | (with_reducible first | exact HB.out | apply below_alloc | apply pw_below_drewN | apply below_drew1 | refine below_set ?_ GE207.out) | exact HB.out)⟩
            · rw [if_neg c18] at H
              exact absurd H (by simp)
          · rw [if_neg c17] at H
            exact absurd H (by simp)
        · rw [if_neg c15] at H
          exact absurd H (by simp)

/-! ### carlingref04_Text: function 13 -/
mutual
def carlingref04_Text.l0 : Nat → List (S34) → ByteArray → Int → Option (ByteArray × Int)
  | 0, _, _, _ => none
  | k + 1, x0, x4, x5 => if x5 < (x0.length : Int) then (if 0 ≤ x5 then ((carlingref04_Right.f k ((rd_T34 x0 x5).f0) ((rd_T34 x0 x5).f1) ((rd_T34 x0 x5).f2)).bind fun t215 => (if t215 = true then ((carlingref04_Line.f k ((rd_T34 x0 x5).f0) ((rd_T34 x0 x5).f1) ((rd_T34 x0 x5).f2)).bind fun t217 => (if x4.size + t217.size ≤ 9223372036854775807 then (carlingref04_Text.l0 k x0 (x4 ++ t217) (wrap64 (x5 + 1))) else (none))) else (some ((⟨#[]⟩ : ByteArray), 6)))) else (none)) else (carlingref04_Text.l1 k x0 x4 0)
def carlingref04_Text.l1 : Nat → List (S34) → ByteArray → Int → Option (ByteArray × Int)
  | 0, _, _, _ => none
  | k + 1, x0, x4, x6 => if x6 < (x0.length : Int) then (carlingref04_Text.l2 k x0 x4 x6 0) else (some (x4, 0))
def carlingref04_Text.l2 : Nat → List (S34) → ByteArray → Int → Int → Option (ByteArray × Int)
  | 0, _, _, _, _ => none
  | k + 1, x0, x4, x6, x7 => if x7 < x6 then (if 0 ≤ x6 then (if x6 < (x0.length : Int) then (if 0 ≤ x7 then (if x7 < (x0.length : Int) then (if ((rd_T34 x0 x6).f0).toList = ((rd_T34 x0 x7).f0).toList then (some ((⟨#[]⟩ : ByteArray), 9)) else (carlingref04_Text.l2 k x0 x4 x6 (wrap64 (x7 + 1)))) else (none)) else (none)) else (none)) else (none)) else (carlingref04_Text.l1 k x0 x4 (wrap64 (x6 + 1)))
end
def carlingref04_Text.f (k : Nat) (l0 : List (S34)) : Option (ByteArray × Int) := carlingref04_Text.l0 k l0 (⟨#[]⟩ : ByteArray) 0
theorem carlingref04_Text.mono_l : ∀ k, (∀ y0 y1 y2, LeO (carlingref04_Text.l0 k y0 y1 y2) (carlingref04_Text.l0 (k + 1) y0 y1 y2)) ∧ (∀ y0 y1 y2, LeO (carlingref04_Text.l1 k y0 y1 y2) (carlingref04_Text.l1 (k + 1) y0 y1 y2)) ∧ (∀ y0 y1 y2 y3, LeO (carlingref04_Text.l2 k y0 y1 y2 y3) (carlingref04_Text.l2 (k + 1) y0 y1 y2 y3))
  | 0 => ⟨fun _ _ _ r h => by simp [carlingref04_Text.l0] at h, fun _ _ _ r h => by simp [carlingref04_Text.l1] at h, fun _ _ _ _ r h => by simp [carlingref04_Text.l2] at h⟩
  | k + 1 => by
    obtain ⟨ih0, ih1, ih2⟩ := carlingref04_Text.mono_l k
    refine ⟨?_, ?_, ?_⟩
    · intro y0 y1 y2
      unfold carlingref04_Text.l0
      repeat' first
      | (with_reducible exact ih0 _ _ _)
      | (with_reducible exact ih1 _ _ _)
      | (with_reducible exact ih2 _ _ _ _)
      | (with_reducible exact carlingref04_Line.mono _ _ _ _)
      | (with_reducible exact carlingref04_Right.mono _ _ _ _)
      | (with_reducible exact LeO.refl _)
      | (with_reducible exact LeO.none _)
      | (with_reducible refine LeO.ite ?_ ?_)
      | (with_reducible refine LeO.bind ?_ (fun _ => ?_))
      | exact ih0 _ _ _
      | exact ih1 _ _ _
      | exact ih2 _ _ _ _
      | exact carlingref04_Line.mono _ _ _ _
      | exact carlingref04_Right.mono _ _ _ _
      | exact LeO.none _
      | refine LeO.ite ?_ ?_
      | refine LeO.bind ?_ (fun _ => ?_)
    · intro y0 y1 y2
      unfold carlingref04_Text.l1
      repeat' first
      | (with_reducible exact ih0 _ _ _)
      | (with_reducible exact ih1 _ _ _)
      | (with_reducible exact ih2 _ _ _ _)
      | (with_reducible exact carlingref04_Line.mono _ _ _ _)
      | (with_reducible exact carlingref04_Right.mono _ _ _ _)
      | (with_reducible exact LeO.refl _)
      | (with_reducible exact LeO.none _)
      | (with_reducible refine LeO.ite ?_ ?_)
      | (with_reducible refine LeO.bind ?_ (fun _ => ?_))
      | exact ih0 _ _ _
      | exact ih1 _ _ _
      | exact ih2 _ _ _ _
      | exact carlingref04_Line.mono _ _ _ _
      | exact carlingref04_Right.mono _ _ _ _
      | exact LeO.none _
      | refine LeO.ite ?_ ?_
      | refine LeO.bind ?_ (fun _ => ?_)
    · intro y0 y1 y2 y3
      unfold carlingref04_Text.l2
      repeat' first
      | (with_reducible exact ih0 _ _ _)
      | (with_reducible exact ih1 _ _ _)
      | (with_reducible exact ih2 _ _ _ _)
      | (with_reducible exact carlingref04_Line.mono _ _ _ _)
      | (with_reducible exact carlingref04_Right.mono _ _ _ _)
      | (with_reducible exact LeO.refl _)
      | (with_reducible exact LeO.none _)
      | (with_reducible refine LeO.ite ?_ ?_)
      | (with_reducible refine LeO.bind ?_ (fun _ => ?_))
      | exact ih0 _ _ _
      | exact ih1 _ _ _
      | exact ih2 _ _ _ _
      | exact carlingref04_Line.mono _ _ _ _
      | exact carlingref04_Right.mono _ _ _ _
      | exact LeO.none _
      | refine LeO.ite ?_ ?_
      | refine LeO.bind ?_ (fun _ => ?_)
theorem carlingref04_Text.mono : ∀ a0 k, LeO (carlingref04_Text.f k a0) (carlingref04_Text.f (k + 1) a0) := by
  intro a0 k
  obtain ⟨ih0, ih1, ih2⟩ := carlingref04_Text.mono_l k
  unfold carlingref04_Text.f
  repeat' first
      | (with_reducible exact ih0 _ _ _)
      | (with_reducible exact ih1 _ _ _)
      | (with_reducible exact ih2 _ _ _ _)
      | (with_reducible exact carlingref04_Line.mono _ _ _ _)
      | (with_reducible exact carlingref04_Right.mono _ _ _ _)
      | (with_reducible exact LeO.refl _)
      | (with_reducible exact LeO.none _)
      | (with_reducible refine LeO.ite ?_ ?_)
      | (with_reducible refine LeO.bind ?_ (fun _ => ?_))
      | exact ih0 _ _ _
      | exact ih1 _ _ _
      | exact ih2 _ _ _ _
      | exact carlingref04_Line.mono _ _ _ _
      | exact carlingref04_Right.mono _ _ _ _
      | exact LeO.none _
      | refine LeO.ite ?_ ?_
      | refine LeO.bind ?_ (fun _ => ?_)
set_option maxHeartbeats 8000000 in
set_option maxRecDepth 100000 in
theorem carlingref04_Text.calls (k : Nat) (A0 : Option Addr) (c0 : Nat) (l0 : List (S34)) (r1 : ByteArray) (r2 : Int) (w : World) (hr0 : Kd.C k34 w A0 l0.length l0) (hc0 : l0.length ≤ c0) (h : carlingref04_Text.f k l0 = some (r1, r2)) :
    Calls Tryd.prog 13 #[.slice A0 l0.length c0] w fun e w' => e = .returned (.tuple #[.string r1, .int .i64 r2]) ∧ Below w.heap.size w w' := by
  have hu34 := Tryd.underlying34
  have HR0 := Aside0.mk hr0
  have HC0 := Aside0.mk hc0
  clear hr0 hc0
  have HB := Aside0.mk (Below.refl w.heap.size w)
  have H : (carlingref04_Text.l0 k l0 (⟨#[]⟩ : ByteArray) 0) = some (r1, r2) := h
  clear h
  have H' := Aside0.mk H
  clear H
  go_enter Tryd.func13, Tryd.ntmps13
  go_wp2
  repeat (go_quiet (fail); try go_wp2)
  go_loopg [4, 5] k (fun kq v4 v5 w' => ∃ (x4_1 : ByteArray) (x5_1 : Int), v4 = .string x4_1 ∧ v5 = .int .i64 x5_1 ∧ Aside0 (carlingref04_Text.l0 kq l0 x4_1 x5_1 = some (r1, r2)) ∧ Aside0 (kq ≤ k) ∧ Aside0 (Below w.heap.size w w'))
  case atStart => exact ⟨((⟨#[]⟩ : ByteArray)), (0), (by first | rfl | (simp; done) | (simp [*]; done)), (by first | rfl | (simp; done) | (simp [*]; done)), H', ⟨Nat.le_refl _⟩, ⟨by repeat (first | (with_reducible first | exact HB.out | apply below_alloc | apply pw_below_drewN | apply below_drew1) | exact HB.out)⟩⟩
  case round =>
    clear H'
    try clear c1
    obtain ⟨x4_1, x5_1, rfl, rfl, HA, HK1, HB⟩ := hrel
    cases gk with
    | zero => exact absurd HA.out (by simp [carlingref04_Text.l0])
    | succ k1 =>
      have H := HA.out
      clear HA
      simp only [carlingref04_Text.l0] at H
      by_cases c2 : x5_1 < (l0.length : Int)
      · rw [if_pos c2] at H
        have c2b0 : decide (x5_1 < (l0.length : Int)) = true := decide_eq_true c2
        clear c2
        by_cases c3 : 0 ≤ x5_1
        · rw [if_pos c3] at H
          have c3b0 : decide (0 ≤ x5_1) = true := decide_eq_true c3
          clear c3
          replace H := Option.bind_eq_some_iff.mp H
          obtain ⟨t215, A40, H⟩ := H
          replace H : (if t215 = true then ((carlingref04_Line.f k1 ((rd_T34 l0 x5_1).f0) ((rd_T34 l0 x5_1).f1) ((rd_T34 l0 x5_1).f2)).bind fun t217 => (if x4_1.size + t217.size ≤ 9223372036854775807 then (carlingref04_Text.l0 k1 l0 (x4_1 ++ t217) (wrap64 (x5_1 + 1))) else (none))) else (some ((⟨#[]⟩ : ByteArray), 6))) = some (r1, r2) := H
          have A4 := Aside0.mk A40
          clear A40
          by_cases c5 : t215 = true
          · subst c5
            have H1 : ((carlingref04_Line.f k1 ((rd_T34 l0 x5_1).f0) ((rd_T34 l0 x5_1).f1) ((rd_T34 l0 x5_1).f2)).bind fun t217 => (if x4_1.size + t217.size ≤ 9223372036854775807 then (carlingref04_Text.l0 k1 l0 (x4_1 ++ t217) (wrap64 (x5_1 + 1))) else (none))) = some (r1, r2) := by rw [if_pos rfl] at H; exact H
            clear H
            have H := H1
            clear H1
            replace H := Option.bind_eq_some_iff.mp H
            obtain ⟨t217, A60, H⟩ := H
            replace H : (if x4_1.size + t217.size ≤ 9223372036854775807 then (carlingref04_Text.l0 k1 l0 (x4_1 ++ t217) (wrap64 (x5_1 + 1))) else (none)) = some (r1, r2) := H
            have A6 := Aside0.mk A60
            clear A60
            by_cases c7 : x4_1.size + t217.size ≤ 9223372036854775807
            · rw [if_pos c7] at H
              have c7b0 := eq_true c7
              have c7b1 : decide (x4_1.size + t217.size ≤ 9223372036854775807) = true := decide_eq_true c7
              try have c7b2 : (9223372036854775807 < x4_1.size + t217.size) = False := eq_false (Nat.not_lt.2 c7)
              have H' := Aside0.mk H
              clear H
              have p214 : 0 ≤ (x5_1 : Int) := of_decide_eq_true (by first | (with_reducible assumption) | assumption)
              have q214 : x5_1 < (l0.length : Int) := of_decide_eq_true (by first | (with_reducible assumption) | assumption)
              obtain ⟨ad214, A214_1, c214_1, e214, hx214_0, hx214_1, hx214_2, hl214_1, hi214_1⟩ := at_T34 HR0.out x5_1 p214 q214
              cases e214
              replace hx214_0 := (HB.out.cell (World.block_lt_of_cell? w _ hx214_0)).trans hx214_0
              replace hx214_1 := (HB.out.cell (World.block_lt_of_cell? w _ hx214_1)).trans hx214_1
              replace hx214_2 := (HB.out.cell (World.block_lt_of_cell? w _ hx214_2)).trans hx214_2
              have HR214_1 := Aside0.mk hi214_1
              have HC214_1 := Aside0.mk hl214_1
              clear hi214_1 hl214_1
              replace p214 := eq_true p214
              replace q214 := eq_true q214
              go_wp2_with (first | (go_at_call 26; (with_reducible refine (carlingref04_Right.calls k1 ((rd_T34 l0 x5_1).f0) _ _ ((rd_T34 l0 x5_1).f1) ((rd_T34 l0 x5_1).f2) true _ ?side1 ?side2 A4.out).mono ?_); (case side1 => repeat (first | exact (Kd.C_below HR214_1.out HB.out) | (with_reducible refine Kd.C_alloc ?_ _) | (with_reducible refine Kd.C_drewN ?_ _) | (with_reducible refine Kd.C_drew ?_))); (case side2 => exact HC214_1.out); rintro e w8 ⟨rfl, hb⟩; have n0_ := Aside0.mk (below_step (by repeat (first | (with_reducible first | exact HB.out | apply below_alloc | apply pw_below_drewN | apply below_drew1) | exact HB.out)) hb); clear HB; have HB := n0_; clear n0_; (try clear hb); (try clear hb2); (try clear hk); (try clear hi); have p216 : 0 ≤ (x5_1 : Int) := of_decide_eq_true (by first | (with_reducible assumption) | assumption); have q216 : x5_1 < (l0.length : Int) := of_decide_eq_true (by first | (with_reducible assumption) | assumption); obtain ⟨ad216, A216_1, c216_1, e216, hx216_0, hx216_1, hx216_2, hl216_1, hi216_1⟩ := at_T34 HR0.out x5_1 p216 q216; obtain rfl : ad214 = ad216 := (by injection e216); replace hx216_0 := (HB.out.cell (World.block_lt_of_cell? w _ hx216_0)).trans hx216_0; replace hx216_1 := (HB.out.cell (World.block_lt_of_cell? w _ hx216_1)).trans hx216_1; replace hx216_2 := (HB.out.cell (World.block_lt_of_cell? w _ hx216_2)).trans hx216_2; have HR216_1 := Aside0.mk hi216_1; have HC216_1 := Aside0.mk hl216_1; clear hi216_1 hl216_1; replace p216 := eq_true p216; replace q216 := eq_true q216) | (go_at_call 27; (with_reducible refine (carlingref04_Line.calls k1 ((rd_T34 l0 x5_1).f0) _ _ ((rd_T34 l0 x5_1).f1) ((rd_T34 l0 x5_1).f2) t217 _ ?side1 ?side2 A6.out).mono ?_); (case side1 => repeat (first | exact (Kd.C_below HR216_1.out HB.out) | (with_reducible refine Kd.C_alloc ?_ _) | (with_reducible refine Kd.C_drewN ?_ _) | (with_reducible refine Kd.C_drew ?_))); (case side2 => exact HC216_1.out); rintro e w9 ⟨rfl, hb⟩; have n0_ := Aside0.mk (below_step (by repeat (first | (with_reducible first | exact HB.out | apply below_alloc | apply pw_below_drewN | apply below_drew1) | exact HB.out)) hb); clear HB; have HB := n0_; clear n0_; (try clear hb); (try clear hb2); (try clear hk); (try clear hi)))
              repeat (go_quiet (first | (go_at_call 26; (with_reducible refine (carlingref04_Right.calls k1 ((rd_T34 l0 x5_1).f0) _ _ ((rd_T34 l0 x5_1).f1) ((rd_T34 l0 x5_1).f2) true _ ?side1 ?side2 A4.out).mono ?_); (case side1 => repeat (first | exact (Kd.C_below HR214_1.out HB.out) | (with_reducible refine Kd.C_alloc ?_ _) | (with_reducible refine Kd.C_drewN ?_ _) | (with_reducible refine Kd.C_drew ?_))); (case side2 => exact HC214_1.out); rintro e w8 ⟨rfl, hb⟩; have n0_ := Aside0.mk (below_step (by repeat (first | (with_reducible first | exact HB.out | apply below_alloc | apply pw_below_drewN | apply below_drew1) | exact HB.out)) hb); clear HB; have HB := n0_; clear n0_; (try clear hb); (try clear hb2); (try clear hk); (try clear hi); have p216 : 0 ≤ (x5_1 : Int) := of_decide_eq_true (by first | (with_reducible assumption) | assumption); have q216 : x5_1 < (l0.length : Int) := of_decide_eq_true (by first | (with_reducible assumption) | assumption); obtain ⟨ad216, A216_1, c216_1, e216, hx216_0, hx216_1, hx216_2, hl216_1, hi216_1⟩ := at_T34 HR0.out x5_1 p216 q216; obtain rfl : ad214 = ad216 := (by injection e216); replace hx216_0 := (HB.out.cell (World.block_lt_of_cell? w _ hx216_0)).trans hx216_0; replace hx216_1 := (HB.out.cell (World.block_lt_of_cell? w _ hx216_1)).trans hx216_1; replace hx216_2 := (HB.out.cell (World.block_lt_of_cell? w _ hx216_2)).trans hx216_2; have HR216_1 := Aside0.mk hi216_1; have HC216_1 := Aside0.mk hl216_1; clear hi216_1 hl216_1; replace p216 := eq_true p216; replace q216 := eq_true q216) | (go_at_call 27; (with_reducible refine (carlingref04_Line.calls k1 ((rd_T34 l0 x5_1).f0) _ _ ((rd_T34 l0 x5_1).f1) ((rd_T34 l0 x5_1).f2) t217 _ ?side1 ?side2 A6.out).mono ?_); (case side1 => repeat (first | exact (Kd.C_below HR216_1.out HB.out) | (with_reducible refine Kd.C_alloc ?_ _) | (with_reducible refine Kd.C_drewN ?_ _) | (with_reducible refine Kd.C_drew ?_))); (case side2 => exact HC216_1.out); rintro e w9 ⟨rfl, hb⟩; have n0_ := Aside0.mk (below_step (by repeat (first | (with_reducible first | exact HB.out | apply below_alloc | apply pw_below_drewN | apply below_drew1) | exact HB.out)) hb); clear HB; have HB := n0_; clear n0_; (try clear hb); (try clear hb2); (try clear hk); (try clear hi))); try go_wp2_with (first | (go_at_call 26; (with_reducible refine (carlingref04_Right.calls k1 ((rd_T34 l0 x5_1).f0) _ _ ((rd_T34 l0 x5_1).f1) ((rd_T34 l0 x5_1).f2) true _ ?side1 ?side2 A4.out).mono ?_); (case side1 => repeat (first | exact (Kd.C_below HR214_1.out HB.out) | (with_reducible refine Kd.C_alloc ?_ _) | (with_reducible refine Kd.C_drewN ?_ _) | (with_reducible refine Kd.C_drew ?_))); (case side2 => exact HC214_1.out); rintro e w8 ⟨rfl, hb⟩; have n0_ := Aside0.mk (below_step (by repeat (first | (with_reducible first | exact HB.out | apply below_alloc | apply pw_below_drewN | apply below_drew1) | exact HB.out)) hb); clear HB; have HB := n0_; clear n0_; (try clear hb); (try clear hb2); (try clear hk); (try clear hi); have p216 : 0 ≤ (x5_1 : Int) := of_decide_eq_true (by first | (with_reducible assumption) | assumption); have q216 : x5_1 < (l0.length : Int) := of_decide_eq_true (by first | (with_reducible assumption) | assumption); obtain ⟨ad216, A216_1, c216_1, e216, hx216_0, hx216_1, hx216_2, hl216_1, hi216_1⟩ := at_T34 HR0.out x5_1 p216 q216; obtain rfl : ad214 = ad216 := (by injection e216); replace hx216_0 := (HB.out.cell (World.block_lt_of_cell? w _ hx216_0)).trans hx216_0; replace hx216_1 := (HB.out.cell (World.block_lt_of_cell? w _ hx216_1)).trans hx216_1; replace hx216_2 := (HB.out.cell (World.block_lt_of_cell? w _ hx216_2)).trans hx216_2; have HR216_1 := Aside0.mk hi216_1; have HC216_1 := Aside0.mk hl216_1; clear hi216_1 hl216_1; replace p216 := eq_true p216; replace q216 := eq_true q216) | (go_at_call 27; (with_reducible refine (carlingref04_Line.calls k1 ((rd_T34 l0 x5_1).f0) _ _ ((rd_T34 l0 x5_1).f1) ((rd_T34 l0 x5_1).f2) t217 _ ?side1 ?side2 A6.out).mono ?_); (case side1 => repeat (first | exact (Kd.C_below HR216_1.out HB.out) | (with_reducible refine Kd.C_alloc ?_ _) | (with_reducible refine Kd.C_drewN ?_ _) | (with_reducible refine Kd.C_drew ?_))); (case side2 => exact HC216_1.out); rintro e w9 ⟨rfl, hb⟩; have n0_ := Aside0.mk (below_step (by repeat (first | (with_reducible first | exact HB.out | apply below_alloc | apply pw_below_drewN | apply below_drew1) | exact HB.out)) hb); clear HB; have HB := n0_; clear n0_; (try clear hb); (try clear hb2); (try clear hk); (try clear hi))))
              go_roundg k1
              case measure => have := HK1.out; omega
              case rel => exact ⟨(x4_1 ++ t217), (wrap64 (x5_1 + 1)), (by first | rfl | (simp; done) | (simp [*]; done)), (by first | rfl | (simp; done) | (simp [*]; done)), H', ⟨by have := HK1.out; omega⟩, ⟨by repeat (first | (with_reducible first | exact HB.out | apply below_alloc | apply pw_below_drewN | apply below_drew1) | exact HB.out)⟩⟩
            · rw [if_neg c7] at H
              exact absurd H (by simp)
          · replace c5 := Bool.eq_false_iff.mpr c5
            subst c5
            have H1 : (some ((⟨#[]⟩ : ByteArray), 6)) = some (r1, r2) := by rw [if_neg (show ¬ (false = true) by decide)] at H; exact H
            clear H
            have H := H1
            clear H1
            simp only [Option.some.injEq, Prod.mk.injEq] at H
            obtain ⟨rfl, rfl⟩ := H
            have p214 : 0 ≤ (x5_1 : Int) := of_decide_eq_true (by first | (with_reducible assumption) | assumption)
            have q214 : x5_1 < (l0.length : Int) := of_decide_eq_true (by first | (with_reducible assumption) | assumption)
            obtain ⟨ad214, A214_1, c214_1, e214, hx214_0, hx214_1, hx214_2, hl214_1, hi214_1⟩ := at_T34 HR0.out x5_1 p214 q214
            cases e214
            replace hx214_0 := (HB.out.cell (World.block_lt_of_cell? w _ hx214_0)).trans hx214_0
            replace hx214_1 := (HB.out.cell (World.block_lt_of_cell? w _ hx214_1)).trans hx214_1
            replace hx214_2 := (HB.out.cell (World.block_lt_of_cell? w _ hx214_2)).trans hx214_2
            have HR214_1 := Aside0.mk hi214_1
            have HC214_1 := Aside0.mk hl214_1
            clear hi214_1 hl214_1
            replace p214 := eq_true p214
            replace q214 := eq_true q214
            go_wp2_with (first | (go_at_call 26; (with_reducible refine (carlingref04_Right.calls k1 ((rd_T34 l0 x5_1).f0) _ _ ((rd_T34 l0 x5_1).f1) ((rd_T34 l0 x5_1).f2) false _ ?side1 ?side2 A4.out).mono ?_); (case side1 => repeat (first | exact (Kd.C_below HR214_1.out HB.out) | (with_reducible refine Kd.C_alloc ?_ _) | (with_reducible refine Kd.C_drewN ?_ _) | (with_reducible refine Kd.C_drew ?_))); (case side2 => exact HC214_1.out); rintro e w10 ⟨rfl, hb⟩; have n0_ := Aside0.mk (below_step (by repeat (first | (with_reducible first | exact HB.out | apply below_alloc | apply pw_below_drewN | apply below_drew1) | exact HB.out)) hb); clear HB; have HB := n0_; clear n0_; (try clear hb); (try clear hb2); (try clear hk); (try clear hi)))
            repeat (go_quiet (first | (go_at_call 26; (with_reducible refine (carlingref04_Right.calls k1 ((rd_T34 l0 x5_1).f0) _ _ ((rd_T34 l0 x5_1).f1) ((rd_T34 l0 x5_1).f2) false _ ?side1 ?side2 A4.out).mono ?_); (case side1 => repeat (first | exact (Kd.C_below HR214_1.out HB.out) | (with_reducible refine Kd.C_alloc ?_ _) | (with_reducible refine Kd.C_drewN ?_ _) | (with_reducible refine Kd.C_drew ?_))); (case side2 => exact HC214_1.out); rintro e w10 ⟨rfl, hb⟩; have n0_ := Aside0.mk (below_step (by repeat (first | (with_reducible first | exact HB.out | apply below_alloc | apply pw_below_drewN | apply below_drew1) | exact HB.out)) hb); clear HB; have HB := n0_; clear n0_; (try clear hb); (try clear hb2); (try clear hk); (try clear hi))); try go_wp2_with (first | (go_at_call 26; (with_reducible refine (carlingref04_Right.calls k1 ((rd_T34 l0 x5_1).f0) _ _ ((rd_T34 l0 x5_1).f1) ((rd_T34 l0 x5_1).f2) false _ ?side1 ?side2 A4.out).mono ?_); (case side1 => repeat (first | exact (Kd.C_below HR214_1.out HB.out) | (with_reducible refine Kd.C_alloc ?_ _) | (with_reducible refine Kd.C_drewN ?_ _) | (with_reducible refine Kd.C_drew ?_))); (case side2 => exact HC214_1.out); rintro e w10 ⟨rfl, hb⟩; have n0_ := Aside0.mk (below_step (by repeat (first | (with_reducible first | exact HB.out | apply below_alloc | apply pw_below_drewN | apply below_drew1) | exact HB.out)) hb); clear HB; have HB := n0_; clear n0_; (try clear hb); (try clear hb2); (try clear hk); (try clear hi))))
            go_ret2
            exact ⟨by first | rfl | (simp [errW_none, errW_some] <;> rfl) | (simp [*, errW_none, errW_some] <;> rfl), by repeat (first | (with_reducible first | exact HB.out | apply below_alloc | apply pw_below_drewN | apply below_drew1) | exact HB.out)⟩
        · rw [if_neg c3] at H
          exact absurd H (by simp)
      · rw [if_neg c2] at H
        have c2b0 : decide (x5_1 < (l0.length : Int)) = false := decide_eq_false c2
        clear c2
        have H' := Aside0.mk H
        clear H
        go_wp2
        repeat (go_quiet (fail); try go_wp2)
        go_loopg [6] k1 (fun kq v6 w' => ∃ (x6_2 : Int), v6 = .int .i64 x6_2 ∧ Aside0 (carlingref04_Text.l1 kq l0 x4_1 x6_2 = some (r1, r2)) ∧ Aside0 (kq ≤ k1) ∧ Aside0 (Below w.heap.size w w'))
        case atStart => exact ⟨(0), (by first | rfl | (simp; done) | (simp [*]; done)), H', ⟨Nat.le_refl _⟩, ⟨by repeat (first | (with_reducible first | exact HB.out | apply below_alloc | apply pw_below_drewN | apply below_drew1) | exact HB.out)⟩⟩
        case round =>
          clear H'
          try clear c1
          try clear c2
          try clear c2b0
          try clear p2
          try clear q2
          try clear hx2
          try clear c3
          try clear c3b0
          try clear c5
          try clear p6
          try clear c7
          try clear c7b0
          try clear c7b1
          try clear c7b2
          try clear hx214_0
          try clear hx214_1
          try clear hx214_2
          try clear hx216_0
          try clear hx216_1
          try clear hx216_2
          try clear p214
          try clear p216
          try clear q214
          try clear q216
          obtain ⟨x6_2, rfl, HA, HK2, HB⟩ := hrel
          cases gk with
          | zero => exact absurd HA.out (by simp [carlingref04_Text.l1])
          | succ k2 =>
            have H := HA.out
            clear HA
            simp only [carlingref04_Text.l1] at H
            by_cases c11 : x6_2 < (l0.length : Int)
            · rw [if_pos c11] at H
              have c11b0 : decide (x6_2 < (l0.length : Int)) = true := decide_eq_true c11
              clear c11
              have H' := Aside0.mk H
              clear H
              go_wp2
              repeat (go_quiet (fail); try go_wp2)
              go_loopg [7] k2 (fun kq v7 w' => ∃ (x7_3 : Int), v7 = .int .i64 x7_3 ∧ Aside0 (carlingref04_Text.l2 kq l0 x4_1 x6_2 x7_3 = some (r1, r2)) ∧ Aside0 (kq ≤ k2) ∧ Aside0 (Below w.heap.size w w'))
              case atStart => exact ⟨(0), (by first | rfl | (simp; done) | (simp [*]; done)), H', ⟨Nat.le_refl _⟩, ⟨by repeat (first | (with_reducible first | exact HB.out | apply below_alloc | apply pw_below_drewN | apply below_drew1) | exact HB.out)⟩⟩
              case round =>
                clear H'
                try clear c1
                try clear c2
                try clear c2b0
                try clear p2
                try clear q2
                try clear hx2
                try clear c3
                try clear c3b0
                try clear c5
                try clear p6
                try clear c7
                try clear c7b0
                try clear c7b1
                try clear c7b2
                try clear c11
                try clear c11b0
                try clear hx214_0
                try clear hx214_1
                try clear hx214_2
                try clear hx216_0
                try clear hx216_1
                try clear hx216_2
                try clear p2
                try clear p214
                try clear p216
                try clear p6
                try clear q2
                try clear q214
                try clear q216
                obtain ⟨x7_3, rfl, HA, HK3, HB⟩ := hrel
                cases gk with
                | zero => exact absurd HA.out (by simp [carlingref04_Text.l2])
                | succ k3 =>
                  have H := HA.out
                  clear HA
                  simp only [carlingref04_Text.l2] at H
                  by_cases c12 : x7_3 < x6_2
                  · rw [if_pos c12] at H
                    have c12b0 : decide (x7_3 < x6_2) = true := decide_eq_true c12
                    clear c12
                    by_cases c13 : 0 ≤ x6_2
                    · rw [if_pos c13] at H
                      have c13b0 : decide (0 ≤ x6_2) = true := decide_eq_true c13
                      clear c13
                      by_cases c14 : x6_2 < (l0.length : Int)
                      · rw [if_pos c14] at H
                        have c14b0 : decide (x6_2 < (l0.length : Int)) = true := decide_eq_true c14
                        clear c14
                        by_cases c15 : 0 ≤ x7_3
                        · rw [if_pos c15] at H
                          have c15b0 : decide (0 ≤ x7_3) = true := decide_eq_true c15
                          clear c15
                          by_cases c16 : x7_3 < (l0.length : Int)
                          · rw [if_pos c16] at H
                            have c16b0 : decide (x7_3 < (l0.length : Int)) = true := decide_eq_true c16
                            clear c16
                            by_cases c17 : ((rd_T34 l0 x6_2).f0).toList = ((rd_T34 l0 x7_3).f0).toList
                            · rw [if_pos c17] at H
                              have c17b0 : (((rd_T34 l0 x6_2).f0).toList == ((rd_T34 l0 x7_3).f0).toList) = true := beq_iff_eq.mpr c17
                              have c17b1 : (((rd_T34 l0 x6_2).f0).toList != ((rd_T34 l0 x7_3).f0).toList) = false := bne_eq_false_iff_eq.mpr c17
                              clear c17
                              simp only [Option.some.injEq, Prod.mk.injEq] at H
                              obtain ⟨rfl, rfl⟩ := H
                              have p218 : 0 ≤ (x6_2 : Int) := of_decide_eq_true (by first | (with_reducible assumption) | assumption)
                              have q218 : x6_2 < (l0.length : Int) := of_decide_eq_true (by first | (with_reducible assumption) | assumption)
                              obtain ⟨ad218, A218_1, c218_1, e218, hx218_0, hx218_1, hx218_2, hl218_1, hi218_1⟩ := at_T34 HR0.out x6_2 p218 q218
                              cases e218
                              replace hx218_0 := (HB.out.cell (World.block_lt_of_cell? w _ hx218_0)).trans hx218_0
                              replace hx218_1 := (HB.out.cell (World.block_lt_of_cell? w _ hx218_1)).trans hx218_1
                              replace hx218_2 := (HB.out.cell (World.block_lt_of_cell? w _ hx218_2)).trans hx218_2
                              have HR218_1 := Aside0.mk hi218_1
                              have HC218_1 := Aside0.mk hl218_1
                              clear hi218_1 hl218_1
                              replace p218 := eq_true p218
                              replace q218 := eq_true q218
                              have p219 : 0 ≤ (x7_3 : Int) := of_decide_eq_true (by first | (with_reducible assumption) | assumption)
                              have q219 : x7_3 < (l0.length : Int) := of_decide_eq_true (by first | (with_reducible assumption) | assumption)
                              obtain ⟨ad219, A219_1, c219_1, e219, hx219_0, hx219_1, hx219_2, hl219_1, hi219_1⟩ := at_T34 HR0.out x7_3 p219 q219
                              obtain rfl : ad218 = ad219 := (by injection e219)
                              replace hx219_0 := (HB.out.cell (World.block_lt_of_cell? w _ hx219_0)).trans hx219_0
                              replace hx219_1 := (HB.out.cell (World.block_lt_of_cell? w _ hx219_1)).trans hx219_1
                              replace hx219_2 := (HB.out.cell (World.block_lt_of_cell? w _ hx219_2)).trans hx219_2
                              have HR219_1 := Aside0.mk hi219_1
                              have HC219_1 := Aside0.mk hl219_1
                              clear hi219_1 hl219_1
                              replace p219 := eq_true p219
                              replace q219 := eq_true q219
                              go_wp2
                              repeat (go_quiet (fail); try go_wp2)
                              go_ret2
                              exact ⟨by first | rfl | (simp [errW_none, errW_some] <;> rfl) | (simp [*, errW_none, errW_some] <;> rfl), by repeat (first | (with_reducible first | exact HB.out | apply below_alloc | apply pw_below_drewN | apply below_drew1) | exact HB.out)⟩
                            · rw [if_neg c17] at H
                              have c17b0 : (((rd_T34 l0 x6_2).f0).toList == ((rd_T34 l0 x7_3).f0).toList) = false := beq_eq_false_iff_ne.mpr c17
                              have c17b1 : (((rd_T34 l0 x6_2).f0).toList != ((rd_T34 l0 x7_3).f0).toList) = true := bne_iff_ne.mpr c17
                              have H' := Aside0.mk H
                              clear H
                              have p218 : 0 ≤ (x6_2 : Int) := of_decide_eq_true (by first | (with_reducible assumption) | assumption)
                              have q218 : x6_2 < (l0.length : Int) := of_decide_eq_true (by first | (with_reducible assumption) | assumption)
                              obtain ⟨ad218, A218_1, c218_1, e218, hx218_0, hx218_1, hx218_2, hl218_1, hi218_1⟩ := at_T34 HR0.out x6_2 p218 q218
                              cases e218
                              replace hx218_0 := (HB.out.cell (World.block_lt_of_cell? w _ hx218_0)).trans hx218_0
                              replace hx218_1 := (HB.out.cell (World.block_lt_of_cell? w _ hx218_1)).trans hx218_1
                              replace hx218_2 := (HB.out.cell (World.block_lt_of_cell? w _ hx218_2)).trans hx218_2
                              have HR218_1 := Aside0.mk hi218_1
                              have HC218_1 := Aside0.mk hl218_1
                              clear hi218_1 hl218_1
                              replace p218 := eq_true p218
                              replace q218 := eq_true q218
                              have p219 : 0 ≤ (x7_3 : Int) := of_decide_eq_true (by first | (with_reducible assumption) | assumption)
                              have q219 : x7_3 < (l0.length : Int) := of_decide_eq_true (by first | (with_reducible assumption) | assumption)
                              obtain ⟨ad219, A219_1, c219_1, e219, hx219_0, hx219_1, hx219_2, hl219_1, hi219_1⟩ := at_T34 HR0.out x7_3 p219 q219
                              obtain rfl : ad218 = ad219 := (by injection e219)
                              replace hx219_0 := (HB.out.cell (World.block_lt_of_cell? w _ hx219_0)).trans hx219_0
                              replace hx219_1 := (HB.out.cell (World.block_lt_of_cell? w _ hx219_1)).trans hx219_1
                              replace hx219_2 := (HB.out.cell (World.block_lt_of_cell? w _ hx219_2)).trans hx219_2
                              have HR219_1 := Aside0.mk hi219_1
                              have HC219_1 := Aside0.mk hl219_1
                              clear hi219_1 hl219_1
                              replace p219 := eq_true p219
                              replace q219 := eq_true q219
                              go_wp2
                              repeat (go_quiet (fail); try go_wp2)
                              go_roundg k3
                              case measure => have := HK1.out; have := HK2.out; have := HK3.out; omega
                              case rel => exact ⟨(wrap64 (x7_3 + 1)), (by first | rfl | (simp; done) | (simp [*]; done)), H', ⟨by have := HK1.out; have := HK2.out; have := HK3.out; omega⟩, ⟨by repeat (first | (with_reducible first | exact HB.out | apply below_alloc | apply pw_below_drewN | apply below_drew1) | exact HB.out)⟩⟩
                          · rw [if_neg c16] at H
                            exact absurd H (by simp)
                        · rw [if_neg c15] at H
                          exact absurd H (by simp)
                      · rw [if_neg c14] at H
                        exact absurd H (by simp)
                    · rw [if_neg c13] at H
                      exact absurd H (by simp)
                  · rw [if_neg c12] at H
                    have c12b0 : decide (x7_3 < x6_2) = false := decide_eq_false c12
                    clear c12
                    have H' := Aside0.mk H
                    clear H
                    go_wp2
                    repeat (go_quiet (fail); try go_wp2)
                    go_roundg k3
                    case measure => have := HK1.out; have := HK2.out; have := HK3.out; omega
                    case rel => exact ⟨(wrap64 (x6_2 + 1)), (by first | rfl | (simp; done) | (simp [*]; done)), H', ⟨by have := HK1.out; have := HK2.out; have := HK3.out; omega⟩, ⟨by repeat (first | (with_reducible first | exact HB.out | apply below_alloc | apply pw_below_drewN | apply below_drew1) | exact HB.out)⟩⟩
            · rw [if_neg c11] at H
              have c11b0 : decide (x6_2 < (l0.length : Int)) = false := decide_eq_false c11
              clear c11
              simp only [Option.some.injEq, Prod.mk.injEq] at H
              obtain ⟨rfl, rfl⟩ := H
              go_wp2
              repeat (go_quiet (fail); try go_wp2)
              go_ret2
              exact ⟨by first | rfl | (simp [errW_none, errW_some] <;> rfl) | (simp [*, errW_none, errW_some] <;> rfl), by repeat (first | (with_reducible first | exact HB.out | apply below_alloc | apply pw_below_drewN | apply below_drew1) | exact HB.out)⟩

end Go.Proofs.YtappdmioncdefaaDoor.Q
