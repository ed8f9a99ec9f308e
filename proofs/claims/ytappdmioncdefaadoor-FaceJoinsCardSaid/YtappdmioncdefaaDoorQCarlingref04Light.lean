-- WRITTEN BY A PROGRAM OF THIS SESSION
import Derived.Test.YtappdmioncdefaaDoorQ0
namespace Go.Proofs.YtappdmioncdefaaDoor.Q
open Go.RowKit Go.Proofs.YtappdmioncdefaaDoorW.PrintWords Go.Proofs.YtappdmioncdefaaDoorW.PrintLast Go.Proofs.YtappdmioncdefaaDoorW.PrintMore
attribute [local go_sem] max2_int min2_int max_two min_two max_three min_three max_four min_four   -- for this text's walks alone
set_option linter.unusedVariables false
set_option linter.unusedSimpArgs false

/-! ### carlingref04_Light: function 11 -/
def carlingref04_Light.l0 : Nat → List (S34) → Int → Option (Bool)
  | 0, _, _ => none
  | k + 1, x0, x3 => if x3 < (x0.length : Int) then (if 0 ≤ x3 then (if (((rd_T34 x0 x3).f0).size : Int) > 200 then (some false) else (if (((rd_T34 x0 x3).f1).length : Int) > 50 then (some false) else (carlingref04_Light.l0 k x0 (wrap64 (x3 + 1))))) else (none)) else (some true)
def carlingref04_Light.f (k : Nat) (l0 : List (S34)) : Option (Bool) := if (l0.length : Int) > 200 then (some false) else (carlingref04_Light.l0 k l0 0)
theorem carlingref04_Light.mono_l : ∀ k, (∀ y0 y1, LeO (carlingref04_Light.l0 k y0 y1) (carlingref04_Light.l0 (k + 1) y0 y1))
  | 0 => fun _ _ r h => by simp [carlingref04_Light.l0] at h
  | k + 1 => by
    have ih0 := carlingref04_Light.mono_l k
    · intro y0 y1
      unfold carlingref04_Light.l0
      repeat' first
      | (with_reducible exact ih0 _ _)
      | (with_reducible exact LeO.refl _)
      | (with_reducible exact LeO.none _)
      | (with_reducible refine LeO.ite ?_ ?_)
      | (with_reducible refine LeO.bind ?_ (fun _ => ?_))
      | exact ih0 _ _
      | exact LeO.none _
      | refine LeO.ite ?_ ?_
      | refine LeO.bind ?_ (fun _ => ?_)
theorem carlingref04_Light.mono : ∀ a0 k, LeO (carlingref04_Light.f k a0) (carlingref04_Light.f (k + 1) a0) := by
  intro a0 k
  have ih0 := carlingref04_Light.mono_l k
  unfold carlingref04_Light.f
  repeat' first
      | (with_reducible exact ih0 _ _)
      | (with_reducible exact LeO.refl _)
      | (with_reducible exact LeO.none _)
      | (with_reducible refine LeO.ite ?_ ?_)
      | (with_reducible refine LeO.bind ?_ (fun _ => ?_))
      | exact ih0 _ _
      | exact LeO.none _
      | refine LeO.ite ?_ ?_
      | refine LeO.bind ?_ (fun _ => ?_)
set_option maxHeartbeats 8000000 in
set_option maxRecDepth 100000 in
theorem carlingref04_Light.calls (k : Nat) (A0 : Option Addr) (c0 : Nat) (l0 : List (S34)) (r : Bool) (w : World) (hr0 : Kd.C k34 w A0 l0.length l0) (hc0 : l0.length ≤ c0) (h : carlingref04_Light.f k l0 = some r) :
    Calls Tryd.prog 11 #[.slice A0 l0.length c0] w fun e w' => e = .returned (.bool r) ∧ Drawn0 w w' := by
  have HR0 := Aside0.mk hr0
  have HC0 := Aside0.mk hc0
  clear hr0 hc0
  have H : (if (l0.length : Int) > 200 then (some false) else (carlingref04_Light.l0 k l0 0)) = some r := h
  clear h
  by_cases c2 : (l0.length : Int) > 200
  · rw [if_pos c2] at H
    have c2b0 : decide (200 < (l0.length : Int)) = true := decide_eq_true c2
    have c2b1 : decide (200 < l0.length) = true := decide_eq_true (by omega)
    clear c2
    obtain rfl := Option.some.inj H
    go_enter Tryd.func11, Tryd.ntmps11
    go_wp2
    go_ret
    exact ⟨by first | rfl | (simp; done) | (simp [*]; done), by repeat (first | exact Drawn0.refl _ | apply Drawn0.step)⟩
  · rw [if_neg c2] at H
    have c2b0 : decide (200 < (l0.length : Int)) = false := decide_eq_false c2
    have c2b1 : decide (200 < l0.length) = false := decide_eq_false (by omega)
    clear c2
    have H' := Aside0.mk H
    clear H
    go_enter Tryd.func11, Tryd.ntmps11
    go_wp2
    go_loopg [3] k (fun kq v3 w' => ∃ (x3_1 : Int), v3 = .int .i64 x3_1 ∧ Aside0 (carlingref04_Light.l0 kq l0 x3_1 = some r) ∧ Aside0 (kq ≤ k) ∧ Drawn0 w w')
    case atStart => exact ⟨(0), (by first | rfl | (simp; done) | (simp [*]; done)), H', ⟨Nat.le_refl _⟩, by repeat (first | exact Drawn0.refl _ | apply Drawn0.step)⟩
    case round =>
      clear H'
      try clear c1
      try clear c2
      try clear c2b0
      try clear c2b1
      try clear p2
      obtain ⟨x3_1, rfl, HA, HK1, ⟨m1, rfl⟩⟩ := hrel
      cases gk with
      | zero => exact absurd HA.out (by simp [carlingref04_Light.l0])
      | succ k1 =>
        have H := HA.out
        clear HA
        simp only [carlingref04_Light.l0] at H
        by_cases c3 : x3_1 < (l0.length : Int)
        · rw [if_pos c3] at H
          have c3b0 : decide (x3_1 < (l0.length : Int)) = true := decide_eq_true c3
          clear c3
          by_cases c4 : 0 ≤ x3_1
          · rw [if_pos c4] at H
            have c4b0 : decide (0 ≤ x3_1) = true := decide_eq_true c4
            clear c4
            by_cases c5 : (((rd_T34 l0 x3_1).f0).size : Int) > 200
            · rw [if_pos c5] at H
              have c5b0 : decide (200 < (((rd_T34 l0 x3_1).f0).size : Int)) = true := decide_eq_true c5
              have c5b1 : decide (200 < ((rd_T34 l0 x3_1).f0).size) = true := decide_eq_true (by omega)
              clear c5
              obtain rfl := Option.some.inj H
              have p194 : 0 ≤ (x3_1 : Int) := of_decide_eq_true (by first | (with_reducible assumption) | assumption)
              have q194 : x3_1 < (l0.length : Int) := of_decide_eq_true (by first | (with_reducible assumption) | assumption)
              obtain ⟨ad194, A194_1, c194_1, e194, hx194_0, hx194_1, hx194_2, hl194_1, hi194_1⟩ := at_T34 HR0.out x3_1 p194 q194
              cases e194
              have HR194_1 := Aside0.mk hi194_1
              have HC194_1 := Aside0.mk hl194_1
              clear hi194_1 hl194_1
              replace p194 := eq_true p194
              replace q194 := eq_true q194
              go_wp2
              go_ret
              exact ⟨by first | rfl | (simp; done) | (simp [*]; done), by repeat (first | exact Drawn0.refl _ | apply Drawn0.step)⟩
            · rw [if_neg c5] at H
              have c5b0 : decide (200 < (((rd_T34 l0 x3_1).f0).size : Int)) = false := decide_eq_false c5
              have c5b1 : decide (200 < ((rd_T34 l0 x3_1).f0).size) = false := decide_eq_false (by omega)
              clear c5
              by_cases c6 : (((rd_T34 l0 x3_1).f1).length : Int) > 50
              · rw [if_pos c6] at H
                have c6b0 : decide (50 < (((rd_T34 l0 x3_1).f1).length : Int)) = true := decide_eq_true c6
                have c6b1 : decide (50 < ((rd_T34 l0 x3_1).f1).length) = true := decide_eq_true (by omega)
                clear c6
                obtain rfl := Option.some.inj H
                have p194 : 0 ≤ (x3_1 : Int) := of_decide_eq_true (by first | (with_reducible assumption) | assumption)
                have q194 : x3_1 < (l0.length : Int) := of_decide_eq_true (by first | (with_reducible assumption) | assumption)
                obtain ⟨ad194, A194_1, c194_1, e194, hx194_0, hx194_1, hx194_2, hl194_1, hi194_1⟩ := at_T34 HR0.out x3_1 p194 q194
                cases e194
                have HR194_1 := Aside0.mk hi194_1
                have HC194_1 := Aside0.mk hl194_1
                clear hi194_1 hl194_1
                replace p194 := eq_true p194
                replace q194 := eq_true q194
                have p195 : 0 ≤ (x3_1 : Int) := of_decide_eq_true (by first | (with_reducible assumption) | assumption)
                have q195 : x3_1 < (l0.length : Int) := of_decide_eq_true (by first | (with_reducible assumption) | assumption)
                obtain ⟨ad195, A195_1, c195_1, e195, hx195_0, hx195_1, hx195_2, hl195_1, hi195_1⟩ := at_T34 HR0.out x3_1 p195 q195
                obtain rfl : ad194 = ad195 := (by injection e195)
                have HR195_1 := Aside0.mk hi195_1
                have HC195_1 := Aside0.mk hl195_1
                clear hi195_1 hl195_1
                replace p195 := eq_true p195
                replace q195 := eq_true q195
                have ea_ := Option.some.inj (hx194_1.symm.trans hx195_1)
                injection ea_ with ea_ en_ ec_
                subst ea_
                subst ec_
                clear en_
                go_wp2
                go_ret
                exact ⟨by first | rfl | (simp; done) | (simp [*]; done), by repeat (first | exact Drawn0.refl _ | apply Drawn0.step)⟩
              · rw [if_neg c6] at H
                have c6b0 : decide (50 < (((rd_T34 l0 x3_1).f1).length : Int)) = false := decide_eq_false c6
                have c6b1 : decide (50 < ((rd_T34 l0 x3_1).f1).length) = false := decide_eq_false (by omega)
                clear c6
                have H' := Aside0.mk H
                clear H
                have p194 : 0 ≤ (x3_1 : Int) := of_decide_eq_true (by first | (with_reducible assumption) | assumption)
                have q194 : x3_1 < (l0.length : Int) := of_decide_eq_true (by first | (with_reducible assumption) | assumption)
                obtain ⟨ad194, A194_1, c194_1, e194, hx194_0, hx194_1, hx194_2, hl194_1, hi194_1⟩ := at_T34 HR0.out x3_1 p194 q194
                cases e194
                have HR194_1 := Aside0.mk hi194_1
                have HC194_1 := Aside0.mk hl194_1
                clear hi194_1 hl194_1
                replace p194 := eq_true p194
                replace q194 := eq_true q194
                have p195 : 0 ≤ (x3_1 : Int) := of_decide_eq_true (by first | (with_reducible assumption) | assumption)
                have q195 : x3_1 < (l0.length : Int) := of_decide_eq_true (by first | (with_reducible assumption) | assumption)
                obtain ⟨ad195, A195_1, c195_1, e195, hx195_0, hx195_1, hx195_2, hl195_1, hi195_1⟩ := at_T34 HR0.out x3_1 p195 q195
                obtain rfl : ad194 = ad195 := (by injection e195)
                have HR195_1 := Aside0.mk hi195_1
                have HC195_1 := Aside0.mk hl195_1
                clear hi195_1 hl195_1
                replace p195 := eq_true p195
                replace q195 := eq_true q195
                have ea_ := Option.some.inj (hx194_1.symm.trans hx195_1)
                injection ea_ with ea_ en_ ec_
                subst ea_
                subst ec_
                clear en_
                go_wp2
                go_roundg k1
                case measure => have := HK1.out; omega
                case rel => exact ⟨(wrap64 (x3_1 + 1)), (by first | rfl | (simp; done) | (simp [*]; done)), H', ⟨by have := HK1.out; omega⟩, by repeat (first | exact Drawn0.refl _ | apply Drawn0.step)⟩
          · rw [if_neg c4] at H
            exact absurd H (by simp)
        · rw [if_neg c3] at H
          have c3b0 : decide (x3_1 < (l0.length : Int)) = false := decide_eq_false c3
          clear c3
          obtain rfl := Option.some.inj H
          go_wp2
          go_ret
          exact ⟨by first | rfl | (simp; done) | (simp [*]; done), by repeat (first | exact Drawn0.refl _ | apply Drawn0.step)⟩

end Go.Proofs.YtappdmioncdefaaDoor.Q
