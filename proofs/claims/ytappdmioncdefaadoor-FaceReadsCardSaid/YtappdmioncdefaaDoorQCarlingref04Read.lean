-- WRITTEN BY A PROGRAM OF THIS SESSION
import Derived.Test.YtappdmioncdefaaDoorQ0
import Derived.Test.YtappdmioncdefaaDoorQCarlingref04Text
import Derived.Test.YtappdmioncdefaaDoorQCarlingref04Typ
namespace Go.Proofs.YtappdmioncdefaaDoor.Q
open Go.RowKit Go.Proofs.YtappdmioncdefaaDoorW.PrintWords Go.Proofs.YtappdmioncdefaaDoorW.PrintLast Go.Proofs.YtappdmioncdefaaDoorW.PrintMore
attribute [local go_sem] max2_int min2_int max_two min_two max_three min_three max_four min_four   -- for this text's walks alone
set_option linter.unusedVariables false
set_option linter.unusedSimpArgs false

/-! ### carlingref04_Read: function 15 -/
mutual
def carlingref04_Read.l0 : Nat → ByteArray → List ByteArray → List (S34) → Int → Option ((List (S34)) × Int)
  | 0, _, _, _, _ => none
  | k + 1, x0, x4, x5, x6 => if x6 < (wrap64 ((x4.length : Int) - 1)) then (if 0 ≤ x6 then (if x6 < (x4.length : Int) then ((carlingref04_cut.f k (rdOf ByteArray.empty x4 x6) 32).bind fun t245 => (if (t245.length : Int) < 3 then (some (([] : List (S34)), 6)) else (if 0 < (t245.length : Int) then (if 0 ≤ (wrap64 ((t245.length : Int) - 1)) then (if (wrap64 ((t245.length : Int) - 1)) < (t245.length : Int) then (carlingref04_Read.l1 k x0 x4 x5 x6 t245 1 (rdOf ByteArray.empty t245 0) ([] : List (S46)) ((rdOf ByteArray.empty t245 (wrap64 ((t245.length : Int) - 1))).toList == ([115, 101, 99] : List UInt8))) else (none)) else (none)) else (none)))) else (none)) else (none)) else ((carlingref04_Text.f k x5).bind fun bt242 => (if bt242.2 = 0 then (if bt242.1.toList = x0.toList then (some (x5, 0)) else (some (([] : List (S34)), 6))) else (some (([] : List (S34)), 6))))
def carlingref04_Read.l1 : Nat → ByteArray → List ByteArray → List (S34) → Int → List ByteArray → Int → ByteArray → List (S46) → Bool → Option ((List (S34)) × Int)
  | 0, _, _, _, _, _, _, _, _, _ => none
  | k + 1, x0, x4, x5, x6, x7, x9, x251000, x251001, x251002 => if x9 < (wrap64 ((x7.length : Int) - 2)) then (if 0 ≤ x9 then (if x9 < (x7.length : Int) then ((carlingref04_typ.f k (rdOf ByteArray.empty x7 x9)).bind fun bt252 => (if x251001.length < 8796093022208 then (carlingref04_Read.l1 k x0 x4 x5 x6 x7 (wrap64 (x9 + 1)) x251000 (x251001 ++ [(⟨bt252.1, bt252.2⟩ : S46)]) x251002) else (none))) else (none)) else (none)) else (if x5.length < 2932031007402 then (carlingref04_Read.l0 k x0 x4 (x5 ++ [(⟨x251000, x251001, x251002⟩ : S34)]) (wrap64 (x6 + 1))) else (none))
end
def carlingref04_Read.f (k : Nat) (a0 : ByteArray) : Option ((List (S34)) × Int) := (carlingref04_cut.f k a0 10).bind fun t239 => (carlingref04_Read.l0 k a0 t239 ([] : List (S34)) 0)
theorem carlingref04_Read.mono_l : ∀ k, (∀ y0 y1 y2 y3, LeO (carlingref04_Read.l0 k y0 y1 y2 y3) (carlingref04_Read.l0 (k + 1) y0 y1 y2 y3)) ∧ (∀ y0 y1 y2 y3 y4 y5 y6 y7 y8, LeO (carlingref04_Read.l1 k y0 y1 y2 y3 y4 y5 y6 y7 y8) (carlingref04_Read.l1 (k + 1) y0 y1 y2 y3 y4 y5 y6 y7 y8))
  | 0 => ⟨fun _ _ _ _ r h => by simp [carlingref04_Read.l0] at h, fun _ _ _ _ _ _ _ _ _ r h => by simp [carlingref04_Read.l1] at h⟩
  | k + 1 => by
    obtain ⟨ih0, ih1⟩ := carlingref04_Read.mono_l k
    refine ⟨?_, ?_⟩
    · intro y0 y1 y2 y3
      unfold carlingref04_Read.l0
      repeat' first
      | (with_reducible exact ih0 _ _ _ _)
      | (with_reducible exact ih1 _ _ _ _ _ _ _ _ _)
      | (with_reducible exact carlingref04_Text.mono _ _)
      | (with_reducible exact carlingref04_cut.mono _ _ _)
      | (with_reducible exact carlingref04_typ.mono _ _)
      | (with_reducible exact LeO.refl _)
      | (with_reducible exact LeO.none _)
      | (with_reducible refine LeO.ite ?_ ?_)
      | (with_reducible refine LeO.bind ?_ (fun _ => ?_))
      | exact ih0 _ _ _ _
      | exact ih1 _ _ _ _ _ _ _ _ _
      | exact carlingref04_Text.mono _ _
      | exact carlingref04_cut.mono _ _ _
      | exact carlingref04_typ.mono _ _
      | exact LeO.none _
      | refine LeO.ite ?_ ?_
      | refine LeO.bind ?_ (fun _ => ?_)
    · intro y0 y1 y2 y3 y4 y5 y6 y7 y8
      unfold carlingref04_Read.l1
      repeat' first
      | (with_reducible exact ih0 _ _ _ _)
      | (with_reducible exact ih1 _ _ _ _ _ _ _ _ _)
      | (with_reducible exact carlingref04_Text.mono _ _)
      | (with_reducible exact carlingref04_cut.mono _ _ _)
      | (with_reducible exact carlingref04_typ.mono _ _)
      | (with_reducible exact LeO.refl _)
      | (with_reducible exact LeO.none _)
      | (with_reducible refine LeO.ite ?_ ?_)
      | (with_reducible refine LeO.bind ?_ (fun _ => ?_))
      | exact ih0 _ _ _ _
      | exact ih1 _ _ _ _ _ _ _ _ _
      | exact carlingref04_Text.mono _ _
      | exact carlingref04_cut.mono _ _ _
      | exact carlingref04_typ.mono _ _
      | exact LeO.none _
      | refine LeO.ite ?_ ?_
      | refine LeO.bind ?_ (fun _ => ?_)
theorem carlingref04_Read.mono : ∀ a0 k, LeO (carlingref04_Read.f k a0) (carlingref04_Read.f (k + 1) a0) := by
  intro a0 k
  obtain ⟨ih0, ih1⟩ := carlingref04_Read.mono_l k
  unfold carlingref04_Read.f
  repeat' first
      | (with_reducible exact ih0 _ _ _ _)
      | (with_reducible exact ih1 _ _ _ _ _ _ _ _ _)
      | (with_reducible exact carlingref04_Text.mono _ _)
      | (with_reducible exact carlingref04_cut.mono _ _ _)
      | (with_reducible exact carlingref04_typ.mono _ _)
      | (with_reducible exact LeO.refl _)
      | (with_reducible exact LeO.none _)
      | (with_reducible refine LeO.ite ?_ ?_)
      | (with_reducible refine LeO.bind ?_ (fun _ => ?_))
      | exact ih0 _ _ _ _
      | exact ih1 _ _ _ _ _ _ _ _ _
      | exact carlingref04_Text.mono _ _
      | exact carlingref04_cut.mono _ _ _
      | exact carlingref04_typ.mono _ _
      | exact LeO.none _
      | refine LeO.ite ?_ ?_
      | refine LeO.bind ?_ (fun _ => ?_)
def carlingref04_Read.T9 : Bool × List (List Nat × List Nat) := (true, [([], []), ([0], [0]), ([1], [1]), ([], []), ([], []), ([4], [4]), ([5], [5]), ([3, 6], [3, 6]), ([7], [7]), ([8], [8]), ([2, 9], [2, 9]), ([], []), ([11, 10, 0, 1, 2, 3, 4, 5, 6, 7, 8, 9, 10, 11], [10, 11])])
def carlingref04_Read.B9 : List Nat := [0, 1, 3, 0, 0, 16, 48, 120, 248, 504, 1023, 0, 4095]
theorem carlingref04_Read.tab9 : rtab .any (opsOf Tryd.f15 9) = carlingref04_Read.T9 := by kernel_rfl
theorem carlingref04_Read.bits9 : waitsOk carlingref04_Read.T9.2 carlingref04_Read.B9 = true := by kernel_rfl
def carlingref04_Read.T13 : Bool × List (List Nat × List Nat) := (true, [([], []), ([0], [0]), ([], []), ([], []), ([2, 3], [2, 3]), ([4], [4]), ([5], [5]), ([6], [6]), ([1, 7, 6], [1, 7]), ([0, 1, 2, 3, 4, 5, 6, 7, 8], []), ([9, 8, 8, 0, 1, 2, 3, 4, 5, 6, 7, 8], [8, 9])])
def carlingref04_Read.B13 : List Nat := [0, 1, 0, 0, 12, 28, 60, 124, 255, 511, 1023]
theorem carlingref04_Read.tab13 : rtab .any (opsOf Tryd.f15 13) = carlingref04_Read.T13 := by kernel_rfl
theorem carlingref04_Read.bits13 : waitsOk carlingref04_Read.T13.2 carlingref04_Read.B13 = true := by kernel_rfl
set_option maxHeartbeats 8000000 in
set_option maxRecDepth 100000 in
theorem carlingref04_Read.calls (k : Nat) (a0 : ByteArray) (r1 : List (S34)) (r2 : Int) (w : World) (h : carlingref04_Read.f k a0 = some (r1, r2)) :
    Calls Tryd.prog 15 #[.string a0] w fun e w' => ∃ v0_ : Value, e = .returned (.tuple #[v0_, .int .i64 r2]) ∧ Kd.S k34 34 w' w.heap.size (fun _ => True) v0_ r1 ∧ Below w.heap.size w w' := by
  have hu34 := Tryd.underlying34
  have HB := Aside0.mk (Below.refl w.heap.size w)
  have H : ((carlingref04_cut.f k a0 10).bind fun t239 => (carlingref04_Read.l0 k a0 t239 ([] : List (S34)) 0)) = some (r1, r2) := h
  clear h
  replace H := Option.bind_eq_some_iff.mp H
  obtain ⟨t239, A20, H⟩ := H
  replace H : (carlingref04_Read.l0 k a0 t239 ([] : List (S34)) 0) = some (r1, r2) := H
  have A2 := Aside0.mk A20
  clear A20
  have H' := Aside0.mk H
  clear H
  go_enter Tryd.func15, Tryd.ntmps15
  go_wp2_with (first | ((with_reducible refine gate_callee (f := 30) rfl ?_); refine goesL_ (some 13) rfl rfl Tryd.func30 (by kernel_rfl) rfl #[.string a0, .int .u8 10] rfl (by (try simp only [List.map_toArray, List.map_cons, List.map_nil]); first | done | rfl | (simp only [List.length_drop, List.length_take]; rfl)) ?_; (with_reducible refine (carlingref04_cut.calls k a0 10 t239 _ A2.out).mono ?_); rintro e w3 ⟨v240, rfl, ho0, hb⟩; refine ⟨_, rfl, ?_⟩; have n0_ := Aside0.mk (Kd.R_lower ho0 (below_size (by repeat (first | (with_reducible first | exact HB.out | apply below_alloc | apply pw_below_drewN | apply below_drew1) | exact HB.out)))); have n1_ := Aside0.mk (below_step (by repeat (first | (with_reducible first | exact HB.out | apply below_alloc | apply pw_below_drewN | apply below_drew1) | exact HB.out)) hb); clear HB; have HO241 := n0_; have HB := n1_; clear n0_ n1_; (try clear hb); (try clear hb2); (try clear hk); (try clear hi); (try clear ho0)))
  go_loopg [5, 6] k (fun kq v5 v6 w' => ∃ (x5_1 : List (S34)) (x6_1 : Int), v6 = .int .i64 x6_1 ∧ Aside0 (carlingref04_Read.l0 kq a0 t239 x5_1 x6_1 = some (r1, r2)) ∧ Aside0 (kq ≤ k) ∧ Aside0 (Kd.R Kd.string 9 w' w.heap.size (fun _ => True) v240 t239) ∧ Aside0 (Kd.S k34 34 w' w.heap.size (fun _ => True) v5 x5_1) ∧ Aside0 (Below w.heap.size w w'))
  case atStart => exact ⟨(([] : List (S34))), (0), (by first | rfl | (simp; done) | (simp [*]; done)), H', ⟨Nat.le_refl _⟩, ⟨by (with_reducible repeat (first | apply Kd.R_alloc | apply Kd.R_drewN | apply Kd.R_drew)); exact HO241.out⟩, ⟨by first | exact Kd.S_nil _ _ _ _ _ | exact Kd.N_nil _ _ _ _ _ | exact Kd.V_nil _ _ _ _ _ | exact Kd.Q_nil _ _ _ _ _ | exact Kd.R_nil _ _ _ _ _⟩, ⟨by repeat (first | (with_reducible first | exact HB.out | apply below_alloc | apply pw_below_drewN | apply below_drew1) | exact HB.out)⟩⟩
  case round =>
    clear H'
    try clear c1
    try clear p2
    try clear c3
    obtain ⟨x5_1, x6_1, rfl, HA, HK1, HO_4, HO_5, HB⟩ := hrel
    cases gk with
    | zero => exact absurd HA.out (by simp [carlingref04_Read.l0])
    | succ k1 =>
      have H := HA.out
      clear HA
      simp only [carlingref04_Read.l0] at H
      by_cases c4 : x6_1 < (wrap64 ((t239.length : Int) - 1))
      · rw [if_pos c4] at H
        have c4b0 : decide (x6_1 < (wrap64 ((t239.length : Int) - 1))) = true := decide_eq_true c4
        clear c4
        by_cases c5 : 0 ≤ x6_1
        · rw [if_pos c5] at H
          have c5b0 : decide (0 ≤ x6_1) = true := decide_eq_true c5
          clear c5
          by_cases c6 : x6_1 < (t239.length : Int)
          · rw [if_pos c6] at H
            have c6b0 : decide (x6_1 < (t239.length : Int)) = true := decide_eq_true c6
            clear c6
            replace H := Option.bind_eq_some_iff.mp H
            obtain ⟨t245, A70, H⟩ := H
            replace H : (if (t245.length : Int) < 3 then (some (([] : List (S34)), 6)) else (if 0 < (t245.length : Int) then (if 0 ≤ (wrap64 ((t245.length : Int) - 1)) then (if (wrap64 ((t245.length : Int) - 1)) < (t245.length : Int) then (carlingref04_Read.l1 k1 a0 t239 x5_1 x6_1 t245 1 (rdOf ByteArray.empty t245 0) ([] : List (S46)) ((rdOf ByteArray.empty t245 (wrap64 ((t245.length : Int) - 1))).toList == ([115, 101, 99] : List UInt8))) else (none)) else (none)) else (none))) = some (r1, r2) := H
            have A7 := Aside0.mk A70
            clear A70
            by_cases c8 : (t245.length : Int) < 3
            · rw [if_pos c8] at H
              have c8b0 : decide ((t245.length : Int) < 3) = true := decide_eq_true c8
              have c8b1 : decide (t245.length < 3) = true := decide_eq_true (by omega)
              clear c8
              simp only [Option.some.injEq, Prod.mk.injEq] at H
              obtain ⟨rfl, rfl⟩ := H
              obtain ⟨Ao9, co9, eo9⟩ := Kd.R_slice HO_4.out
              subst eo9
              have p244 : 0 ≤ (x6_1 : Int) := of_decide_eq_true (by first | (with_reducible assumption) | assumption)
              have q244 : x6_1 < (t239.length : Int) := of_decide_eq_true (by first | (with_reducible assumption) | assumption)
              obtain ⟨ad244, e244, hx244_0⟩ := Kd.at_string (Kd.R_reads' HO_4.out).2.2 x6_1 p244 q244
              cases e244
              replace p244 := eq_true p244
              replace q244 := eq_true q244
              go_wp2_with (first | ((with_reducible refine gate_callee (f := 30) rfl ?_); refine goesL_ (some 25) rfl rfl Tryd.func30 (by kernel_rfl) rfl #[.string (rdOf ByteArray.empty t239 x6_1), .int .u8 32] rfl (by (try simp only [List.map_toArray, List.map_cons, List.map_nil]); first | done | rfl | (simp only [List.length_drop, List.length_take]; rfl)) ?_; (with_reducible refine (carlingref04_cut.calls k1 (rdOf ByteArray.empty t239 x6_1) 32 t245 _ A7.out).mono ?_); rintro e w10 ⟨v246, rfl, ho0, hb⟩; refine ⟨_, rfl, ?_⟩; have n0_ := Aside0.mk (Kd.R_elder' (by (with_reducible repeat (first | apply Kd.R_alloc | apply Kd.R_drewN | apply Kd.R_drew)); exact HO_4.out) (Kd.R_base ho0) hb); have n1_ := Aside0.mk (Kd.S_below (by (with_reducible repeat (first | apply Kd.S_alloc | apply Kd.S_drewN | apply Kd.S_drew)); exact HO_5.out) hb); have n2_ := Aside0.mk (Kd.R_lower (Kd.R_new' ho0 (Kd.R_lt (by (with_reducible repeat (first | apply Kd.R_alloc | apply Kd.R_drewN | apply Kd.R_drew)); exact HO_4.out))) (below_size (by repeat (first | (with_reducible first | exact HB.out | apply below_alloc | apply pw_below_drewN | apply below_drew1) | exact HB.out)))); have n3_ := Aside0.mk (below_step (by repeat (first | (with_reducible first | exact HB.out | apply below_alloc | apply pw_below_drewN | apply below_drew1) | exact HB.out)) hb); clear HO_4; clear HO_5; clear HB; have HO_4 := n0_; have HO_5 := n1_; have HO247 := n2_; have HB := n3_; clear n0_ n1_ n2_ n3_; (try clear hb); (try clear hb2); (try clear hk); (try clear hi); (try clear ho0); obtain ⟨Ao11, co11, eo11⟩ := Kd.R_slice HO247.out; subst eo11))
              go_ret2
              exact ⟨_, by first | rfl | (simp [errW_none, errW_some] <;> rfl) | (simp [*, errW_none, errW_some] <;> rfl), by first | exact Kd.S_nil _ _ _ _ _ | exact Kd.N_nil _ _ _ _ _ | exact Kd.V_nil _ _ _ _ _ | exact Kd.Q_nil _ _ _ _ _ | exact Kd.R_nil _ _ _ _ _, by repeat (first | (with_reducible first | exact HB.out | apply below_alloc | apply pw_below_drewN | apply below_drew1) | exact HB.out)⟩
            · rw [if_neg c8] at H
              have c8b0 : decide ((t245.length : Int) < 3) = false := decide_eq_false c8
              have c8b1 : decide (t245.length < 3) = false := decide_eq_false (by omega)
              clear c8
              by_cases c12 : 0 < (t245.length : Int)
              · rw [if_pos c12] at H
                have c12b0 : decide (0 < (t245.length : Int)) = true := decide_eq_true c12
                have c12b1 : decide (0 < t245.length) = true := decide_eq_true (by omega)
                clear c12
                obtain ⟨ji13, hji13⟩ : ∃ j_ : Int, (wrap64 ((t245.length : Int) - 1)) = j_ := ⟨_, rfl⟩
                replace H : (if 0 ≤ (ji13) then (if (ji13) < (t245.length : Int) then (carlingref04_Read.l1 k1 a0 t239 x5_1 x6_1 t245 1 (rdOf ByteArray.empty t245 0) ([] : List (S46)) ((rdOf ByteArray.empty t245 (ji13)).toList == ([115, 101, 99] : List UInt8))) else (none)) else (none)) = some (r1, r2) := by first | (rw [hji13] at H; exact H) | (simp only [hji13] at H ⊢; exact H)
                (try rw [hji13] at A7)
                have hji13w : (IntKind.i64.wrap ((t245.length : Int) - 1)) = ji13 := (i64_w _).trans hji13
                by_cases c14 : 0 ≤ (ji13)
                · rw [if_pos c14] at H
                  have c14b0 : decide (0 ≤ (ji13)) = true := decide_eq_true c14
                  clear c14
                  by_cases c15 : (ji13) < (t245.length : Int)
                  · rw [if_pos c15] at H
                    have c15b0 : decide ((ji13) < (t245.length : Int)) = true := decide_eq_true c15
                    clear c15
                    have H' := Aside0.mk H
                    clear H
                    obtain ⟨Ao16, co16, eo16⟩ := Kd.R_slice HO_4.out
                    subst eo16
                    have p244 : 0 ≤ (x6_1 : Int) := of_decide_eq_true (by first | (with_reducible assumption) | assumption)
                    have q244 : x6_1 < (t239.length : Int) := of_decide_eq_true (by first | (with_reducible assumption) | assumption)
                    obtain ⟨ad244, e244, hx244_0⟩ := Kd.at_string (Kd.R_reads' HO_4.out).2.2 x6_1 p244 q244
                    cases e244
                    replace p244 := eq_true p244
                    replace q244 := eq_true q244
                    try go_wp2_with (first | ((with_reducible refine gate_callee (f := 30) rfl ?_); refine goesL_ (some 25) rfl rfl Tryd.func30 (by kernel_rfl) rfl #[.string (rdOf ByteArray.empty t239 x6_1), .int .u8 32] rfl (by (try simp only [List.map_toArray, List.map_cons, List.map_nil]); first | done | rfl | (simp only [List.length_drop, List.length_take]; rfl)) ?_; (with_reducible refine (carlingref04_cut.calls k1 (rdOf ByteArray.empty t239 x6_1) 32 t245 _ A7.out).mono ?_); rintro e w17 ⟨v246, rfl, ho0, hb⟩; refine ⟨_, rfl, ?_⟩; have n0_ := Aside0.mk (Kd.R_elder' (by (with_reducible repeat (first | apply Kd.R_alloc | apply Kd.R_drewN | apply Kd.R_drew)); exact HO_4.out) (Kd.R_base ho0) hb); have n1_ := Aside0.mk (Kd.S_below (by (with_reducible repeat (first | apply Kd.S_alloc | apply Kd.S_drewN | apply Kd.S_drew)); exact HO_5.out) hb); have n2_ := Aside0.mk (Kd.R_lower (Kd.R_new' ho0 (Kd.R_lt (by (with_reducible repeat (first | apply Kd.R_alloc | apply Kd.R_drewN | apply Kd.R_drew)); exact HO_4.out))) (below_size (by repeat (first | (with_reducible first | exact HB.out | apply below_alloc | apply pw_below_drewN | apply below_drew1) | exact HB.out)))); have n3_ := Aside0.mk (below_step (by repeat (first | (with_reducible first | exact HB.out | apply below_alloc | apply pw_below_drewN | apply below_drew1) | exact HB.out)) hb); clear HO_4; clear HO_5; clear HB; have HO_4 := n0_; have HO_5 := n1_; have HO247 := n2_; have HB := n3_; clear n0_ n1_ n2_ n3_; (try clear hb); (try clear hb2); (try clear hk); (try clear hi); (try clear ho0); obtain ⟨Ao18, co18, eo18⟩ := Kd.R_slice HO247.out; subst eo18))
                    have n0_ := Aside0.mk (Kd.R_drew HO_4.out)
                    have n1_ := Aside0.mk (Kd.S_drew HO_5.out)
                    have n2_ := Aside0.mk (Kd.R_drew HO247.out)
                    have n3_ := Aside0.mk (below_drew1 HB.out)
                    clear HO_4
                    clear HO_5
                    clear HO247
                    clear HB
                    have HO_4 := n0_
                    have HO_5 := n1_
                    have HO247 := n2_
                    have HB := n3_
                    clear n0_ n1_ n2_ n3_
                    have p248 : 0 ≤ (0 : Int) := (by omega)
                    have q248 : 0 < (t245.length : Int) := of_decide_eq_true (by first | (with_reducible assumption) | assumption)
                    obtain ⟨ad248, e248, hx248_0⟩ := Kd.at_string (Kd.R_reads' HO247.out).2.2 0 p248 q248
                    cases e248
                    have qi248 : (0 < t245.length) = True := eq_true (by omega)
                    (try rw [show ((0 : Int)).toNat = 0 from rfl] at hx248_0)
                    (try rw [Addr.add_zero'] at hx248_0)
                    replace p248 := eq_true p248
                    replace q248 := eq_true q248
                    have p249 : 0 ≤ ((ji13) : Int) := of_decide_eq_true (by first | (with_reducible assumption) | assumption)
                    have q249 : (ji13) < (t245.length : Int) := of_decide_eq_true (by first | (with_reducible assumption) | assumption)
                    obtain ⟨ad249, e249, hx249_0⟩ := Kd.at_string (Kd.R_reads' HO247.out).2.2 (ji13) p249 q249
                    obtain rfl : ad248 = ad249 := (by injection e249)
                    replace p249 := eq_true p249
                    replace q249 := eq_true q249
                    refine start_ (n := 13) (S := fun w' => w'.cell? ad248 = some (.string (rdOf ByteArray.empty t245 0)) ∧ w'.cell? (ad248.add ((ji13)).toNat) = some (.string (rdOf ByteArray.empty t245 (ji13)))) (ds := []) #[false, false, false, false, false, false, false, false, false, false, false, false, false] (by kernel_rfl) rfl rfl ⟨hx248_0, hx249_0⟩ (fun hHeld => ?_); refine with_tabW carlingref04_Read.tab9 carlingref04_Read.bits9 (fun HT_ HW_ => ?_)
                    generalize w17.drew = w19 at HO_4 HO_5 HO247 HB hx248_0 hx249_0 hHeld ⊢
                    refine pure_ (i := 0) (N := some 29) (v := ?_) (a' := ?_) #[true, false, false, false, false, false, false, false, false, false, false, false, false] rfl rfl (any_of HT_.out (by kernel_rfl)) (fun _ _ _ h => h) (Or.inl ⟨by rfl, ?_⟩) ?_ ?_
                    rotate_left
                    · intro w'
                      go_simp
                      with_reducible rfl
                    rotate_left
                    · simp only [Act.put, List.setIfInBounds_toArray, List.set_cons_zero, List.set_cons_succ, i64_w, i32_w]
                      rfl
                    refine pure_ (i := 1) (N := some 30) (v := ?_) (a' := ?_) #[true, true, false, false, false, false, false, false, false, false, false, false, false] rfl rfl (any_of HT_.out (by kernel_rfl)) (fun _ _ _ h => h) (Or.inl ⟨by rfl, ?_⟩) ?_ ?_
                    rotate_left
                    · intro w'
                      go_simp
                      with_reducible rfl
                    rotate_left
                    · simp only [Act.put, List.setIfInBounds_toArray, List.set_cons_zero, List.set_cons_succ, i64_w, i32_w]
                      rfl
                    refine pure_ (i := 3) (N := some 32) (v := ?_) (a' := ?_) #[true, true, false, true, false, false, false, false, false, false, false, false, false] rfl rfl (any_of HT_.out (by kernel_rfl)) (fun _ _ _ h => h) (Or.inl ⟨by rfl, ?_⟩) ?_ ?_
                    rotate_left
                    · intro w'
                      go_simp
                      with_reducible rfl
                    rotate_left
                    · simp only [Act.put, List.setIfInBounds_toArray, List.set_cons_zero, List.set_cons_succ, i64_w, i32_w]
                      rfl
                    refine pure_ (i := 4) (N := some 33) (v := ?_) (a' := ?_) #[true, true, false, true, true, false, false, false, false, false, false, false, false] rfl rfl (any_of HT_.out (by kernel_rfl)) (fun _ _ _ h => h) (Or.inl ⟨by rfl, ?_⟩) ?_ ?_
                    rotate_left
                    · intro w'
                      go_simp
                      with_reducible rfl
                    rotate_left
                    · simp only [Act.put, List.setIfInBounds_toArray, List.set_cons_zero, List.set_cons_succ, i64_w, i32_w]
                      rfl
                    refine pure_ (i := 5) (N := some 34) (v := ?_) (a' := ?_) #[true, true, false, true, true, true, false, false, false, false, false, false, false] rfl rfl (any_of HT_.out (by kernel_rfl)) (fun _ _ _ h => h) (Or.inl ⟨by rfl, ?_⟩) ?_ ?_
                    rotate_left
                    · intro w'
                      go_simp
                      with_reducible rfl
                    rotate_left
                    · simp only [Act.put, List.setIfInBounds_toArray, List.set_cons_zero, List.set_cons_succ, i64_w, i32_w]
                      rfl
                    refine pure_ (i := 6) (N := some 35) (v := ?_) (a' := ?_) #[true, true, false, true, true, true, true, false, false, false, false, false, false] rfl rfl (any_of HT_.out (by kernel_rfl)) (fun _ _ _ h => h) (Or.inl ⟨by rfl, ?_⟩) ?_ ?_
                    rotate_left
                    · intro w'
                      go_simp
                      with_reducible rfl
                    rotate_left
                    · simp only [Act.put, List.setIfInBounds_toArray, List.set_cons_zero, List.set_cons_succ, i64_w, i32_w]
                      rfl
                    refine pure_ (i := 7) (N := some 36) (v := ?_) (a' := ?_) #[true, true, false, true, true, true, true, true, false, false, false, false, false] rfl rfl (any_of HT_.out (by kernel_rfl)) (fun _ _ _ h => h) (Or.inl ⟨by rfl, ?_⟩) ?_ ?_
                    rotate_left
                    · intro w'
                      go_simp
                      with_reducible rfl
                    rotate_left
                    · simp only [Act.put, List.setIfInBounds_toArray, List.set_cons_zero, List.set_cons_succ, i64_w, i32_w]
                      rfl
                    refine take_ (i := 2) (N := some 31) (v := ?_) (a' := ?_) #[true, true, true, true, true, true, true, true, false, false, false, false, false] rfl rfl (take_ofW HT_.out HW_.out (by kernel_rfl)) (fun _ _ _ h => h) (Or.inl ⟨by rfl, ?_⟩) hHeld ?_ ?_
                    rotate_left
                    · rintro w' ⟨s0, s1⟩
                      go_simp
                      with_reducible rfl
                    rotate_left
                    · simp only [Act.put, List.setIfInBounds_toArray, List.set_cons_zero, List.set_cons_succ, i64_w, i32_w]
                      rfl
                    refine take_ (i := 8) (N := some 37) (v := ?_) (a' := ?_) #[true, true, true, true, true, true, true, true, true, false, false, false, false] rfl rfl (take_ofW HT_.out HW_.out (by kernel_rfl)) (fun _ _ _ h => h) (Or.inl ⟨by rfl, ?_⟩) hHeld ?_ ?_
                    rotate_left
                    · rintro w' ⟨s0, s1⟩
                      go_simp
                      with_reducible rfl
                    rotate_left
                    · simp only [Act.put, List.setIfInBounds_toArray, List.set_cons_zero, List.set_cons_succ, i64_w, i32_w]
                      rfl
                    refine pure_ (i := 9) (N := some 38) (v := ?_) (a' := ?_) #[true, true, true, true, true, true, true, true, true, true, false, false, false] rfl rfl (any_of HT_.out (by kernel_rfl)) (fun _ _ _ h => h) (Or.inl ⟨by rfl, ?_⟩) ?_ ?_
                    rotate_left
                    · intro w'
                      go_simp
                      with_reducible rfl
                    rotate_left
                    · simp only [Act.put, List.setIfInBounds_toArray, List.set_cons_zero, List.set_cons_succ, i64_w, i32_w]
                      rfl
                    refine pure_ (i := 10) (N := some 39) (v := ?_) (a' := ?_) #[true, true, true, true, true, true, true, true, true, true, true, false, false] rfl rfl (any_of HT_.out (by kernel_rfl)) (fun _ _ _ h => h) (Or.inl ⟨by rfl, ?_⟩) ?_ ?_
                    rotate_left
                    · intro w'
                      go_simp
                      with_reducible rfl
                    rotate_left
                    · simp only [Act.put, List.setIfInBounds_toArray, List.set_cons_zero, List.set_cons_succ, i64_w, i32_w]
                      rfl
                    refine one_ (i := 11) (N := some 8) #[true, true, true, true, true, true, true, true, true, true, true, true, false] rfl rfl (one_of HT_.out (by kernel_rfl)) (by decide) (fun K hK => ?_)
                    refine box_step ?hg (N := 8) ?hd (cs := #[.string (⟨#[]⟩ : ByteArray), .slice none 0 0, .bool false]) (t := 34) ?hr ?_; (case hd => rfl); (case hg => rfl); (case hr => first | (go_simp; done) | (go_simp; rfl))
                    intro gb250 hg w20 hbox hb
                    have HS0_ := (hb.cell (World.block_lt_of_cell? _ _ (hHeld.1))).trans (hHeld.1)
                    have HS1_ := (hb.cell (World.block_lt_of_cell? _ _ (hHeld.2))).trans (hHeld.2)
                    have n0_ := Aside0.mk (Kd.R_below (by (with_reducible repeat (first | apply Kd.R_alloc | apply Kd.R_drewN | apply Kd.R_drew)); exact HO_4.out) hb)
                    have n1_ := Aside0.mk (Kd.S_below (Kd.S_elderB (by (with_reducible repeat (first | apply Kd.S_alloc | apply Kd.S_drewN | apply Kd.S_drew)); exact HO_5.out) gb250 (Nat.le_of_eq hg.symm)) hb)
                    have n2_ := Aside0.mk (Kd.R_below (by (with_reducible repeat (first | apply Kd.R_alloc | apply Kd.R_drewN | apply Kd.R_drew)); exact HO247.out) hb)
                    have n3_ := Aside0.mk (below_step (by repeat (first | (with_reducible first | exact HB.out | apply below_alloc | apply pw_below_drewN | apply below_drew1) | exact HB.out)) hb)
                    have n4_ := Aside0.mk (hbox)
                    have n5_ := Aside0.mk ((by rw [hg]; exact (below_size (by repeat (first | (with_reducible first | exact HB.out | apply below_alloc | apply pw_below_drewN | apply below_drew1) | exact HB.out))) : w.heap.size ≤ gb250))
                    have n6_ := Aside0.mk ((by rw [hg]; exact (below_size (by repeat (first | (with_reducible first | exact HB.out | apply below_alloc | apply pw_below_drewN | apply below_drew1) | exact HB.out))) : w.heap.size ≤ gb250))
                    clear HO_4
                    clear HO_5
                    clear HO247
                    clear HB
                    have HO_4 := n0_
                    have HO_5 := n1_
                    have HO247 := n2_
                    have HB := n3_
                    have BK250 := n4_
                    have GW250 := n5_
                    have GE250 := n6_
                    clear n0_ n1_ n2_ n3_ n4_ n5_ n6_
                    clear hb hbox hg
                    refine hK.out _ _ ⟨HS0_, HS1_⟩ (fun hHeld => ?_)
                    clear hK K
                    refine norm_ (a' := ?_) ?_ ?_
                    rotate_left
                    · show Act.put _ (some 8) _ = _
                      simp only [Act.put, List.setIfInBounds_toArray, List.set_cons_zero, List.set_cons_succ, i64_w, i32_w]
                      rfl
                    refine one_ (i := 12) (N := none) #[true, true, true, true, true, true, true, true, true, true, true, true, true] rfl rfl (one_of HT_.out (by kernel_rfl)) (by decide) (fun K hK => ?_)
                    have hs21 : w20.cell? ⟨gb250, 0, none⟩ = some (.string (⟨#[]⟩ : ByteArray)) := (blk_cell BK250.out 0).trans rfl
                    have hfs21 := blk_frozen BK250.out 0
                    have hs22 : w20.cell? ⟨gb250, 1, none⟩ = some (.slice none 0 0) := (blk_cell BK250.out 1).trans rfl
                    have hfs22 := blk_frozen BK250.out 1
                    have hs23 : w20.cell? ⟨gb250, 2, none⟩ = some (.bool false) := (blk_cell BK250.out 2).trans rfl
                    have hfs23 := blk_frozen BK250.out 2
                    refine skip_ (w1 := ?_) (by rfl) rfl ?_ ?_
                    rotate_left
                    · go_simp
                      rfl
                    refine hK.out _ _ ⟨((cell_far (p := ⟨gb250, _, none⟩) (by first | exact Kd.own_blk (Kd.R_ne HO247.out BK250.out (by decide)) | (rw [add_block]; exact Kd.own_blk (Kd.R_ne HO247.out BK250.out (by decide))) | (show (Addr.add _ _).block ≠ _; rw [add_block]; exact Kd.own_blk (Kd.R_ne HO247.out BK250.out (by decide))) | (dsimp only; exact Kd.own_blk (Kd.R_ne HO247.out BK250.out (by decide)))) _).trans (((cell_far (p := ⟨gb250, _, none⟩) (by first | exact Kd.own_blk (Kd.R_ne HO247.out BK250.out (by decide)) | (rw [add_block]; exact Kd.own_blk (Kd.R_ne HO247.out BK250.out (by decide))) | (show (Addr.add _ _).block ≠ _; rw [add_block]; exact Kd.own_blk (Kd.R_ne HO247.out BK250.out (by decide))) | (dsimp only; exact Kd.own_blk (Kd.R_ne HO247.out BK250.out (by decide)))) _).trans (((cell_far (p := ⟨gb250, _, none⟩) (by first | exact Kd.own_blk (Kd.R_ne HO247.out BK250.out (by decide)) | (rw [add_block]; exact Kd.own_blk (Kd.R_ne HO247.out BK250.out (by decide))) | (show (Addr.add _ _).block ≠ _; rw [add_block]; exact Kd.own_blk (Kd.R_ne HO247.out BK250.out (by decide))) | (dsimp only; exact Kd.own_blk (Kd.R_ne HO247.out BK250.out (by decide)))) _).trans (hHeld.1)))))), ((cell_far (p := ⟨gb250, _, none⟩) (by first | exact Kd.own_blk (Kd.R_ne HO247.out BK250.out (by decide)) | (rw [add_block]; exact Kd.own_blk (Kd.R_ne HO247.out BK250.out (by decide))) | (show (Addr.add _ _).block ≠ _; rw [add_block]; exact Kd.own_blk (Kd.R_ne HO247.out BK250.out (by decide))) | (dsimp only; exact Kd.own_blk (Kd.R_ne HO247.out BK250.out (by decide)))) _).trans (((cell_far (p := ⟨gb250, _, none⟩) (by first | exact Kd.own_blk (Kd.R_ne HO247.out BK250.out (by decide)) | (rw [add_block]; exact Kd.own_blk (Kd.R_ne HO247.out BK250.out (by decide))) | (show (Addr.add _ _).block ≠ _; rw [add_block]; exact Kd.own_blk (Kd.R_ne HO247.out BK250.out (by decide))) | (dsimp only; exact Kd.own_blk (Kd.R_ne HO247.out BK250.out (by decide)))) _).trans (((cell_far (p := ⟨gb250, _, none⟩) (by first | exact Kd.own_blk (Kd.R_ne HO247.out BK250.out (by decide)) | (rw [add_block]; exact Kd.own_blk (Kd.R_ne HO247.out BK250.out (by decide))) | (show (Addr.add _ _).block ≠ _; rw [add_block]; exact Kd.own_blk (Kd.R_ne HO247.out BK250.out (by decide))) | (dsimp only; exact Kd.own_blk (Kd.R_ne HO247.out BK250.out (by decide)))) _).trans (hHeld.2))))))⟩ (fun hHeld => ?_)
                    clear hK K
                    refine done_ (done_of HT_.out (by kernel_rfl)) ?_
                    try go_wp2
                    go_loopg [9] k1 (fun kq v9 w' => ∃ (x9_2 : Int) (x251001_2 : List (S46)) (u251001 : Value), v9 = .int .i64 x9_2 ∧ Aside0 (carlingref04_Read.l1 kq a0 t239 x5_1 x6_1 t245 x9_2 (rdOf ByteArray.empty t245 0) x251001_2 ((rdOf ByteArray.empty t245 (ji13)).toList == ([115, 101, 99] : List UInt8)) = some (r1, r2)) ∧ Aside0 (kq ≤ k1) ∧ Aside0 (Kd.R Kd.string 9 w' w.heap.size (fun k_ => some k_ ≠ ((.slice (some ad248) t245.length co18) : Value).ownBlock) (.slice (some ad244) t239.length co16) t239) ∧ Aside0 (Kd.S k34 34 w' w.heap.size (fun k_ => some k_ ≠ (u251001 : Value).ownBlock ∧ k_ ≠ gb250) u5 x5_1) ∧ Aside0 (Kd.R Kd.string 9 w' w.heap.size (fun k_ => some k_ ≠ ((.slice (some ad244) t239.length co16) : Value).ownBlock) (.slice (some ad248) t245.length co18) t245) ∧ Aside0 (Kd.R k46 46 w' w.heap.size (fun _ => True) u251001 x251001_2) ∧ Aside0 (w'.heap[gb250]? = some (.cells #[.string (rdOf ByteArray.empty t245 0), u251001, .bool ((rdOf ByteArray.empty t245 (ji13)).toList == ([115, 101, 99] : List UInt8))] 34 (0, 0))) ∧ Aside0 (Below w.heap.size w w'))
                    case atStart => exact ⟨(1), (([] : List (S46))), (.slice none 0 0), (by first | rfl | (simp; done) | (simp [*]; done)), H', ⟨Nat.le_refl _⟩, ⟨by (with_reducible repeat (first | apply Kd.R_alloc | apply Kd.R_drewN | apply Kd.R_drew)); exact Kd.R_mono (Kd.R_far (p := ⟨gb250, 2, none⟩) (Kd.R_far (p := ⟨gb250, 1, none⟩) (Kd.R_far (p := ⟨gb250, 0, none⟩) (Kd.R_types HO_4.out BK250.out (by decide)) (fun _ hk => hk.2) (.string (rdOf ByteArray.empty t245 0))) (fun _ hk => hk.2) (.slice none 0 0)) (fun _ hk => hk.2) (.bool ((rdOf ByteArray.empty t245 (ji13)).toList == ([115, 101, 99] : List UInt8)))) (fun _ hk => hk.1.2)⟩, ⟨by (with_reducible repeat (first | apply Kd.S_alloc | apply Kd.S_drewN | apply Kd.S_drew)); exact Kd.S_mono (Kd.S_far (p := ⟨gb250, 2, none⟩) (Kd.S_far (p := ⟨gb250, 1, none⟩) (Kd.S_far (p := ⟨gb250, 0, none⟩) (Kd.S_mono HO_5.out (fun k_ hk => (⟨hk, hk.2⟩ : _ ∧ k_ ≠ gb250))) (fun _ hk => hk.2) (.string (rdOf ByteArray.empty t245 0))) (fun _ hk => hk.2) (.slice none 0 0)) (fun _ hk => hk.2) (.bool ((rdOf ByteArray.empty t245 (ji13)).toList == ([115, 101, 99] : List UInt8)))) (fun _ hk => ⟨(by simp [Value.ownBlock]), hk.1.2⟩)⟩, ⟨by (with_reducible repeat (first | apply Kd.R_alloc | apply Kd.R_drewN | apply Kd.R_drew)); exact Kd.R_mono (Kd.R_far (p := ⟨gb250, 2, none⟩) (Kd.R_far (p := ⟨gb250, 1, none⟩) (Kd.R_far (p := ⟨gb250, 0, none⟩) (Kd.R_types HO247.out BK250.out (by decide)) (fun _ hk => hk.2) (.string (rdOf ByteArray.empty t245 0))) (fun _ hk => hk.2) (.slice none 0 0)) (fun _ hk => hk.2) (.bool ((rdOf ByteArray.empty t245 (ji13)).toList == ([115, 101, 99] : List UInt8)))) (fun _ hk => hk.1.2)⟩, ⟨by first | exact Kd.R_nil _ _ _ _ _ | exact Kd.N_nil _ _ _ _ _ | exact Kd.V_nil _ _ _ _ _ | exact Kd.Q_nil _ _ _ _ _ | exact Kd.S_nil _ _ _ _ _⟩, ⟨by (with_reducible repeat (first | refine blk_drewN ?_ _ | refine blk_drew ?_ | refine blk_alloc ?_ _)); refine blk_put (cs := #[.string (rdOf ByteArray.empty t245 0), .slice none 0 0, .bool false]) ?_ 2 _ rfl; (with_reducible repeat (first | refine blk_drewN ?_ _ | refine blk_drew ?_ | refine blk_alloc ?_ _)); refine blk_put (cs := #[.string (rdOf ByteArray.empty t245 0), .slice none 0 0, .bool false]) ?_ 1 _ rfl; (with_reducible repeat (first | refine blk_drewN ?_ _ | refine blk_drew ?_ | refine blk_alloc ?_ _)); refine blk_put (cs := #[.string (⟨#[]⟩ : ByteArray), .slice none 0 0, .bool false]) ?_ 0 _ rfl; (with_reducible repeat (first | refine blk_drewN ?_ _ | refine blk_drew ?_ | refine blk_alloc ?_ _)); exact BK250.out⟩, ⟨by repeat (first | (with_reducible first | exact HB.out | apply below_alloc | apply pw_below_drewN | apply below_drew1 | refine below_set ?_ GE250.out) | exact HB.out)⟩⟩
                    case round =>
                      clear H'
                      try clear c1
                      try clear p2
                      try clear q2
                      try clear hx2
                      try clear qi2
                      try clear c3
                      try clear c4
                      try clear c4b0
                      try clear c5
                      try clear c5b0
                      try clear c6
                      try clear c6b0
                      try clear p6
                      try clear c8
                      try clear c8b0
                      try clear c8b1
                      try clear c12
                      try clear c12b0
                      try clear c12b1
                      try clear c14
                      try clear c14b0
                      try clear c15
                      try clear c15b0
                      try clear hx244_0
                      try clear hx248_0
                      try clear hx249_0
                      try clear p2
                      try clear p244
                      try clear p248
                      try clear p249
                      try clear q244
                      try clear q248
                      try clear q249
                      obtain ⟨x9_2, x251001_2, u251001, rfl, HA, HK2, HO_4, HO_5, HO_7, HO_251001, BK250, HB⟩ := hrel
                      cases gk with
                      | zero => exact absurd HA.out (by simp [carlingref04_Read.l1])
                      | succ k2 =>
                        have H := HA.out
                        clear HA
                        simp only [carlingref04_Read.l1] at H
                        by_cases c24 : x9_2 < (wrap64 ((t245.length : Int) - 2))
                        · rw [if_pos c24] at H
                          have c24b0 : decide (x9_2 < (wrap64 ((t245.length : Int) - 2))) = true := decide_eq_true c24
                          clear c24
                          by_cases c25 : 0 ≤ x9_2
                          · rw [if_pos c25] at H
                            have c25b0 : decide (0 ≤ x9_2) = true := decide_eq_true c25
                            clear c25
                            by_cases c26 : x9_2 < (t245.length : Int)
                            · rw [if_pos c26] at H
                              have c26b0 : decide (x9_2 < (t245.length : Int)) = true := decide_eq_true c26
                              clear c26
                              replace H := Option.bind_eq_some_iff.mp H
                              obtain ⟨⟨t252, t253⟩, A270, H⟩ := H
                              replace H : (if x251001_2.length < 8796093022208 then (carlingref04_Read.l1 k2 a0 t239 x5_1 x6_1 t245 (wrap64 (x9_2 + 1)) (rdOf ByteArray.empty t245 0) (x251001_2 ++ [(⟨t252, t253⟩ : S46)]) ((rdOf ByteArray.empty t245 (ji13)).toList == ([115, 101, 99] : List UInt8))) else (none)) = some (r1, r2) := H
                              have A27 := Aside0.mk A270
                              clear A270
                              by_cases c28 : x251001_2.length < 8796093022208
                              · rw [if_pos c28] at H
                                have LMc28 := Aside0.mk c28
                                clear c28
                                obtain ⟨y254, hy254⟩ : ∃ y_ : List (S46), y_ = (x251001_2 ++ [(⟨t252, t253⟩ : S46)]) := ⟨_, rfl⟩
                                replace H : (carlingref04_Read.l1 k2 a0 t239 x5_1 x6_1 t245 (wrap64 (x9_2 + 1)) (rdOf ByteArray.empty t245 0) y254 ((rdOf ByteArray.empty t245 (ji13)).toList == ([115, 101, 99] : List UInt8))) = some (r1, r2) := by first | (rw [hy254]; with_reducible exact H) | (have H2_ := (Option.bind_some _ _).symm.trans H; rw [hy254]; with_reducible exact H2_) | (have H2_ := (Option.bind_some _ _).symm.trans H; with_reducible exact H2_) | with_reducible exact H | (rw [hy254]; exact H) | exact H
                                have Ny254 := Aside0.mk hy254
                                clear hy254
                                have H' := Aside0.mk H
                                clear H
                                try go_wp2
                                have n0_ := Aside0.mk (Kd.R_drew HO_4.out)
                                have n1_ := Aside0.mk (Kd.S_drew HO_5.out)
                                have n2_ := Aside0.mk (Kd.R_drew HO_7.out)
                                have n3_ := Aside0.mk (Kd.R_drew HO_251001.out)
                                have n4_ := Aside0.mk (blk_drew BK250.out)
                                have n5_ := Aside0.mk (below_drew1 HB.out)
                                clear HO_4
                                clear HO_5
                                clear HO_7
                                clear HO_251001
                                clear BK250
                                clear HB
                                have HO_4 := n0_
                                have HO_5 := n1_
                                have HO_7 := n2_
                                have HO_251001 := n3_
                                have BK250 := n4_
                                have HB := n5_
                                clear n0_ n1_ n2_ n3_ n4_ n5_
                                have p251 : 0 ≤ (x9_2 : Int) := of_decide_eq_true (by first | (with_reducible assumption) | assumption)
                                have q251 : x9_2 < (t245.length : Int) := of_decide_eq_true (by first | (with_reducible assumption) | assumption)
                                obtain ⟨ad251, e251, hx251_0⟩ := Kd.at_string (Kd.R_reads' HO_7.out).2.2 x9_2 p251 q251
                                obtain rfl : ad248 = ad251 := (by injection e251)
                                replace p251 := eq_true p251
                                replace q251 := eq_true q251
                                refine start_ (n := 11) (S := fun w' => w'.cell? ⟨gb250, 0, none⟩ = some (.string (rdOf ByteArray.empty t245 0)) ∧ w'.cell? ⟨gb250, 1, none⟩ = some (u251001) ∧ w'.cell? ⟨gb250, 2, none⟩ = some (.bool ((rdOf ByteArray.empty t245 (ji13)).toList == ([115, 101, 99] : List UInt8))) ∧ w'.cell? (ad248.add (x9_2).toNat) = some (.string (rdOf ByteArray.empty t245 x9_2))) (ds := [8, 10]) #[false, false, false, false, false, false, false, false, false, false, false] (by kernel_rfl) rfl rfl ⟨(blk_cell BK250.out 0).trans rfl, (blk_cell BK250.out 1).trans rfl, (blk_cell BK250.out 2).trans rfl, hx251_0⟩ (fun hHeld => ?_); refine with_tabW carlingref04_Read.tab13 carlingref04_Read.bits13 (fun HT_ HW_ => ?_)
                                generalize wr.drew = w29 at HO_4 HO_5 HO_7 HO_251001 BK250 HB hx251_0 hHeld ⊢
                                refine pure_ (i := 0) (N := some 47) (v := ?_) (a' := ?_) #[true, false, false, false, false, false, false, false, false, false, false] rfl rfl (any_of HT_.out (by kernel_rfl)) (fun _ _ _ h => h) (Or.inl ⟨by rfl, ?_⟩) ?_ ?_
                                rotate_left
                                · intro w'
                                  go_simp
                                  with_reducible rfl
                                rotate_left
                                · simp only [Act.put, List.setIfInBounds_toArray, List.set_cons_zero, List.set_cons_succ, i64_w, i32_w]
                                  rfl
                                refine pure_ (i := 2) (N := some 49) (v := ?_) (a' := ?_) #[true, false, true, false, false, false, false, false, false, false, false] rfl rfl (any_of HT_.out (by kernel_rfl)) (fun _ _ _ h => h) (Or.inl ⟨by rfl, ?_⟩) ?_ ?_
                                rotate_left
                                · intro w'
                                  go_simp
                                  with_reducible rfl
                                rotate_left
                                · simp only [Act.put, List.setIfInBounds_toArray, List.set_cons_zero, List.set_cons_succ, i64_w, i32_w]
                                  rfl
                                refine pure_ (i := 3) (N := some 50) (v := ?_) (a' := ?_) #[true, false, true, true, false, false, false, false, false, false, false] rfl rfl (any_of HT_.out (by kernel_rfl)) (fun _ _ _ h => h) (Or.inl ⟨by rfl, ?_⟩) ?_ ?_
                                rotate_left
                                · intro w'
                                  go_simp
                                  with_reducible rfl
                                rotate_left
                                · simp only [Act.put, List.setIfInBounds_toArray, List.set_cons_zero, List.set_cons_succ, i64_w, i32_w]
                                  rfl
                                refine pure_ (i := 4) (N := some 51) (v := ?_) (a' := ?_) #[true, false, true, true, true, false, false, false, false, false, false] rfl rfl (any_of HT_.out (by kernel_rfl)) (fun _ _ _ h => h) (Or.inl ⟨by rfl, ?_⟩) ?_ ?_
                                rotate_left
                                · intro w'
                                  go_simp
                                  with_reducible rfl
                                rotate_left
                                · simp only [Act.put, List.setIfInBounds_toArray, List.set_cons_zero, List.set_cons_succ, i64_w, i32_w]
                                  rfl
                                refine take_ (i := 1) (N := some 48) (v := ?_) (a' := ?_) #[true, true, true, true, true, false, false, false, false, false, false] rfl rfl (take_ofW HT_.out HW_.out (by kernel_rfl)) (fun _ _ _ h => h) (Or.inl ⟨by rfl, ?_⟩) hHeld ?_ ?_
                                rotate_left
                                · rintro w' ⟨s0, s1, s2, s3⟩
                                  go_simp
                                  with_reducible rfl
                                rotate_left
                                · simp only [Act.put, List.setIfInBounds_toArray, List.set_cons_zero, List.set_cons_succ, i64_w, i32_w]
                                  rfl
                                refine take_ (i := 5) (N := some 52) (v := ?_) (a' := ?_) #[true, true, true, true, true, true, false, false, false, false, false] rfl rfl (take_ofW HT_.out HW_.out (by kernel_rfl)) (fun _ _ _ h => h) (Or.inl ⟨by rfl, ?_⟩) hHeld ?_ ?_
                                rotate_left
                                · rintro w' ⟨s0, s1, s2, s3⟩
                                  go_simp
                                  with_reducible rfl
                                rotate_left
                                · simp only [Act.put, List.setIfInBounds_toArray, List.set_cons_zero, List.set_cons_succ, i64_w, i32_w]
                                  rfl
                                refine one_ (i := 6) (N := some 53) #[true, true, true, true, true, true, true, false, false, false, false] rfl rfl (one_of HT_.out (by kernel_rfl)) (by decide) (fun K hK => ?_)
                                refine goes_ Tryd.func31 (by kernel_rfl) rfl #[.string (rdOf ByteArray.empty t245 x9_2)] (by rfl) rfl rfl (by (try simp only [List.map_toArray, List.map_cons, List.map_nil]); first | done | rfl | (simp only [List.length_drop, List.length_take]; rfl)) ?_
                                with_reducible refine (carlingref04_typ.calls k2 (rdOf ByteArray.empty t245 x9_2) t252 t253 _ A27.out).mono ?_
                                rintro e w30 ⟨rfl, hb⟩
                                have HS3_ := (hb.cell (World.block_lt_of_cell? _ _ (hHeld.2.2.2))).trans (hHeld.2.2.2)
                                refine ⟨_, rfl, ?_⟩
                                have n0_ := Aside0.mk (Kd.R_below (by (with_reducible repeat (first | apply Kd.R_alloc | apply Kd.R_drewN | apply Kd.R_drew)); exact HO_4.out) hb)
                                have n1_ := Aside0.mk (Kd.S_below (by (with_reducible repeat (first | apply Kd.S_alloc | apply Kd.S_drewN | apply Kd.S_drew)); exact HO_5.out) hb)
                                have n2_ := Aside0.mk (Kd.R_below (by (with_reducible repeat (first | apply Kd.R_alloc | apply Kd.R_drewN | apply Kd.R_drew)); exact HO_7.out) hb)
                                have n3_ := Aside0.mk (Kd.R_below (by (with_reducible repeat (first | apply Kd.R_alloc | apply Kd.R_drewN | apply Kd.R_drew)); exact HO_251001.out) hb)
                                have n4_ := Aside0.mk (blk_below (g := gb250) (o := .cells #[.string (rdOf ByteArray.empty t245 0), u251001, .bool ((rdOf ByteArray.empty t245 (ji13)).toList == ([115, 101, 99] : List UInt8))] 34 (0, 0)) (by (with_reducible repeat (first | refine blk_drewN ?_ _ | refine blk_drew ?_ | refine blk_alloc ?_ _)); exact BK250.out) hb)
                                have n5_ := Aside0.mk (below_step (by repeat (first | (with_reducible first | exact HB.out | apply below_alloc | apply pw_below_drewN | apply below_drew1 | refine below_set ?_ GE250.out) | exact HB.out)) hb)
                                clear HO_4
                                clear HO_5
                                clear HO_7
                                clear HO_251001
                                clear BK250
                                clear HB
                                have HO_4 := n0_
                                have HO_5 := n1_
                                have HO_7 := n2_
                                have HO_251001 := n3_
                                have BK250 := n4_
                                have HB := n5_
                                clear n0_ n1_ n2_ n3_ n4_ n5_
                                (try clear hb)
                                (try clear hb2)
                                (try clear hk)
                                (try clear hi)
                                refine hK.out _ _ ⟨(blk_cell BK250.out 0).trans rfl, (blk_cell BK250.out 1).trans rfl, (blk_cell BK250.out 2).trans rfl, HS3_⟩ (fun hHeld => ?_)
                                clear hK K
                                refine norm_ (a' := ?_) ?_ ?_
                                rotate_left
                                · show Act.put _ (some 53) _ = _
                                  simp only [Act.put, List.setIfInBounds_toArray, List.set_cons_zero, List.set_cons_succ, i64_w, i32_w]
                                  rfl
                                refine one_ (i := 7) (N := some 54) #[true, true, true, true, true, true, true, true, false, false, false] rfl rfl (one_of HT_.out (by kernel_rfl)) (by decide) (fun K hK => ?_)
                                refine value_ (w1 := ?_) (v := ?_) (by rfl) rfl ?_ ?_
                                rotate_left 2
                                · go_simp
                                  constructor
                                  · rfl
                                  · rfl
                                refine hK.out _ _ ⟨(blk_cell (blk_alloc BK250.out _) 0).trans rfl, (blk_cell (blk_alloc BK250.out _) 1).trans rfl, (blk_cell (blk_alloc BK250.out _) 2).trans rfl, (World.cell?_alloc_lt _ _ _ (World.block_lt_of_cell? _ _ (hHeld.2.2.2))).trans (hHeld.2.2.2)⟩ (fun hHeld => ?_)
                                clear hK K
                                refine norm_ (a' := ?_) ?_ ?_
                                rotate_left
                                · show Act.put _ (some 54) _ = _
                                  simp only [Act.put, List.setIfInBounds_toArray, List.set_cons_zero, List.set_cons_succ, i64_w, i32_w]
                                  rfl
                                refine last_ (i := 8) (N := some 55) #[true, true, true, true, true, true, true, true, true, false, false] rfl rfl (one_of HT_.out (by kernel_rfl)) (by decide) (fun K hK => ?_)
                                refine Kd.R_append_step k46 (w0 := w) w.heap.size (by rfl) (.tmp 48) (.tmp 54) 32 46 (.agg #[(.bool false), (.int .i64 0)]) 16 rfl Tryd.underlying32 info46 rfl (by decide) (by omega) u251001 x251001_2 (⟨t252, t253⟩ : S46) [.bool t252, .int .i64 t253] (fun _ => True) (fun _ => False) rfl rfl ?aP (fun _ hk => hk.elim) ?aF ?aO ?aB ?aS ?aL ?_
                                (case aP => exact k46_mkM _ _ _ (⟨t252, t253⟩ : S46))
                                (case aB => exact (by repeat (first | (with_reducible first | exact HB.out | apply below_alloc | apply pw_below_drewN | apply below_drew1 | refine below_set ?_ GE250.out) | exact HB.out)))
                                (case aF => exact (fun _ _ => trivial))
                                (case aO => exact (by (with_reducible repeat (first | apply Kd.R_alloc | apply Kd.R_drewN | apply Kd.R_drew)); exact HO_251001.out))
                                (case aS => exact (below_size (by repeat (first | (with_reducible first | exact HB.out | apply below_alloc | apply pw_below_drewN | apply below_drew1 | refine below_set ?_ GE250.out) | exact HB.out))))
                                (case aL => have := LMc28.out; omega)
                                intro v255 w31 ho hb hg hat
                                rw [← Ny254.out] at ho
                                have n0_ := Aside0.mk (Kd.R_over' (by (with_reducible repeat (first | apply Kd.R_alloc | apply Kd.R_drewN | apply Kd.R_drew)); exact HO_4.out) (Kd.R_typed (by (with_reducible repeat (first | apply Kd.R_alloc | apply Kd.R_drewN | apply Kd.R_drew)); exact HO_251001.out)) (by decide) hg)
                                have n1_ := Aside0.mk (Kd.S_after (ok := (fun k_ => k_ ≠ gb250)) (by (with_reducible repeat (first | apply Kd.S_alloc | apply Kd.S_drewN | apply Kd.S_drew)); exact Kd.S_mono HO_5.out (fun _ hk => ⟨hk.2, hk.1⟩)) hg hat)
                                have n2_ := Aside0.mk (Kd.R_over' (by (with_reducible repeat (first | apply Kd.R_alloc | apply Kd.R_drewN | apply Kd.R_drew)); exact HO_7.out) (Kd.R_typed (by (with_reducible repeat (first | apply Kd.R_alloc | apply Kd.R_drewN | apply Kd.R_drew)); exact HO_251001.out)) (by decide) hg)
                                have n3_ := Aside0.mk (blk_grown (g := gb250) (o := .cells #[.string (rdOf ByteArray.empty t245 0), u251001, .bool ((rdOf ByteArray.empty t245 (ji13)).toList == ([115, 101, 99] : List UInt8))] 34 (0, 0)) (by (with_reducible repeat (first | refine blk_drewN ?_ _ | refine blk_drew ?_ | refine blk_alloc ?_ _)); exact BK250.out) hg (Kd.R_ne HO_251001.out BK250.out (by decide)))
                                have n4_ := Aside0.mk (hb)
                                have n5_ := Aside0.mk (ho)
                                clear HO_4
                                clear HO_5
                                clear HO_7
                                clear BK250
                                clear HB
                                clear HO_251001
                                have HO_4 := n0_
                                have HO_5 := n1_
                                have HO_7 := n2_
                                have BK250 := n3_
                                have HB := n4_
                                have HO256 := n5_
                                clear n0_ n1_ n2_ n3_ n4_ n5_
                                clear ho hb hg hat
                                obtain ⟨Ao32, co32, eo32⟩ := Kd.R_slice HO256.out
                                (first | subst eo32 | (injection eo32 with f1_ f2_ f3_; have f4_ := f1_.symm; have f5_ := f3_.symm; clear f1_ f2_ f3_; subst f4_; subst f5_))
                                refine hK.out _ _ ?_
                                clear hK K
                                refine norm_ (a' := ?_) ?_ ?_
                                rotate_left
                                · show Act.put _ (some 55) _ = _
                                  simp only [Act.put, List.setIfInBounds_toArray, List.set_cons_zero, List.set_cons_succ, i64_w, i32_w]
                                  rfl
                                refine pure_ (i := 9) (N := some 56) (v := ?_) (a' := ?_) #[true, true, true, true, true, true, true, true, true, true, false] rfl rfl (any_of HT_.out (by kernel_rfl)) (fun _ _ _ h => h) (Or.inl ⟨by rfl, ?_⟩) ?_ ?_
                                rotate_left
                                · intro w'
                                  go_simp
                                  with_reducible rfl
                                rotate_left
                                · simp only [Act.put, List.setIfInBounds_toArray, List.set_cons_zero, List.set_cons_succ, i64_w, i32_w]
                                  rfl
                                refine last_ (i := 10) (N := none) #[true, true, true, true, true, true, true, true, true, true, true] rfl rfl (one_of HT_.out (by kernel_rfl)) (by decide) (fun K hK => ?_)
                                have hs33 : w31.cell? ⟨gb250, 1, none⟩ = some (u251001) := (blk_cell BK250.out 1).trans rfl
                                have hfs33 := blk_frozen BK250.out 1
                                refine skip_ (w1 := ?_) (by rfl) rfl ?_ ?_
                                rotate_left
                                · go_simp
                                  rfl
                                refine hK.out _ _ ?_
                                clear hK K
                                refine done_ (done_of HT_.out (by kernel_rfl)) ?_
                                try go_wp2
                                go_roundg k2
                                case measure => have := HK1.out; have := HK2.out; omega
                                case rel => exact ⟨(wrap64 (x9_2 + 1)), (y254), (.slice Ao32 y254.length co32), (by first | rfl | (simp; done) | (simp [*]; done)), H', ⟨by have := HK1.out; have := HK2.out; omega⟩, ⟨by (with_reducible repeat (first | apply Kd.R_alloc | apply Kd.R_drewN | apply Kd.R_drew)); exact Kd.R_mono (Kd.R_far (p := ⟨gb250, 1, none⟩) (Kd.R_types HO_4.out BK250.out (by decide)) (fun _ hk => hk.2) (.slice Ao32 y254.length co32)) (fun _ hk => hk.1)⟩, ⟨by (with_reducible repeat (first | apply Kd.S_alloc | apply Kd.S_drewN | apply Kd.S_drew)); exact Kd.S_mono (Kd.S_far (p := ⟨gb250, 1, none⟩) (Kd.S_mono HO_5.out (fun k_ hk => (⟨hk, hk.1⟩ : _ ∧ k_ ≠ gb250))) (fun _ hk => hk.2) (.slice Ao32 y254.length co32)) (fun _ hk => ⟨hk.1.2, hk.1.1⟩)⟩, ⟨by (with_reducible repeat (first | apply Kd.R_alloc | apply Kd.R_drewN | apply Kd.R_drew)); exact Kd.R_mono (Kd.R_far (p := ⟨gb250, 1, none⟩) (Kd.R_types HO_7.out BK250.out (by decide)) (fun _ hk => hk.2) (.slice Ao32 y254.length co32)) (fun _ hk => hk.1)⟩, ⟨by (with_reducible repeat (first | apply Kd.R_alloc | apply Kd.R_drewN | apply Kd.R_drew)); exact Kd.R_mono (Kd.R_far (p := ⟨gb250, 1, none⟩) (Kd.R_types HO256.out BK250.out (by decide)) (fun _ hk => hk.2) (.slice Ao32 y254.length co32)) (fun _ hk => trivial)⟩, ⟨by (with_reducible repeat (first | refine blk_drewN ?_ _ | refine blk_drew ?_ | refine blk_alloc ?_ _)); refine blk_put (cs := #[.string (rdOf ByteArray.empty t245 0), u251001, .bool ((rdOf ByteArray.empty t245 (ji13)).toList == ([115, 101, 99] : List UInt8))]) ?_ 1 _ rfl; (with_reducible repeat (first | refine blk_drewN ?_ _ | refine blk_drew ?_ | refine blk_alloc ?_ _)); exact BK250.out⟩, ⟨by repeat (first | (with_reducible first | exact HB.out | apply below_alloc | apply pw_below_drewN | apply below_drew1 | refine below_set ?_ GE250.out) | exact HB.out)⟩⟩
                              · rw [if_neg c28] at H
                                exact absurd H (by simp)
                            · rw [if_neg c26] at H
                              exact absurd H (by simp)
                          · rw [if_neg c25] at H
                            exact absurd H (by simp)
                        · rw [if_neg c24] at H
                          have c24b0 : decide (x9_2 < (wrap64 ((t245.length : Int) - 2))) = false := decide_eq_false c24
                          clear c24
                          by_cases c34 : x5_1.length < 2932031007402
                          · rw [if_pos c34] at H
                            have LMc34 := Aside0.mk c34
                            clear c34
                            obtain ⟨y257, hy257⟩ : ∃ y_ : List (S34), y_ = (x5_1 ++ [(⟨(rdOf ByteArray.empty t245 0), x251001_2, ((rdOf ByteArray.empty t245 (ji13)).toList == ([115, 101, 99] : List UInt8))⟩ : S34)]) := ⟨_, rfl⟩
                            replace H : (carlingref04_Read.l0 k2 a0 t239 y257 (wrap64 (x6_1 + 1))) = some (r1, r2) := by first | (rw [hy257]; with_reducible exact H) | (have H2_ := (Option.bind_some _ _).symm.trans H; rw [hy257]; with_reducible exact H2_) | (have H2_ := (Option.bind_some _ _).symm.trans H; with_reducible exact H2_) | with_reducible exact H | (rw [hy257]; exact H) | exact H
                            have Ny257 := Aside0.mk hy257
                            clear hy257
                            have H' := Aside0.mk H
                            clear H
                            have hcz35_0 : wr.cell? ⟨gb250, 0, none⟩ = some (.string (rdOf ByteArray.empty t245 0)) := (blk_cell BK250.out 0).trans rfl
                            have hcz35_1 : wr.cell? ⟨gb250, 1, none⟩ = some (u251001) := (blk_cell BK250.out 1).trans rfl
                            have hcz35_2 : wr.cell? ⟨gb250, 2, none⟩ = some (.bool ((rdOf ByteArray.empty t245 (ji13)).toList == ([115, 101, 99] : List UInt8))) := (blk_cell BK250.out 2).trans rfl
                            have hfz35_0 := blk_frozen BK250.out 0
                            have hfz35_1 := blk_frozen BK250.out 1
                            have hfz35_2 := blk_frozen BK250.out 2
                            obtain ⟨Ao37, co37, eo37⟩ := Kd.R_slice HO_251001.out
                            subst eo37
                            go_wp2_with (first | ((with_reducible refine gate_builtin (b := .append) (xs := #[.tmp 57, .tmp 59]) rfl ?_); at_builtin; refine Kd.S_append k34 (w0 := w) w.heap.size rfl (.tmp 57) (.tmp 59) 22 34 (.agg #[(.string ⟨#[]⟩), (.slice none 0 0), (.bool false)]) 48 rfl Tryd.underlying22 info34 rfl (by decide) (by omega) u5 x5_1 (⟨(rdOf ByteArray.empty t245 0), x251001_2, ((rdOf ByteArray.empty t245 (ji13)).toList == ([115, 101, 99] : List UInt8))⟩ : S34) [.string (rdOf ByteArray.empty t245 0), .slice Ao37 x251001_2.length co37, .bool ((rdOf ByteArray.empty t245 (ji13)).toList == ([115, 101, 99] : List UInt8))] (fun k_ => k_ ≠ gb250) (fun k_ => some k_ = (.slice Ao37 x251001_2.length co37 : Value).ownBlock) rfl rfl ?aP (fun k_ hk_ => ((Kd.R_mono (ok' := fun k_ => ((fun k_ => k_ ≠ gb250)) k_ ∧ some k_ ≠ (u5 : Value).ownBlock) (Kd.R_types (Kd.R_apart' (HO_251001.out) (Kd.S_typed HO_5.out) (by decide)) BK250.out (by decide)) (fun k_ hk => ⟨hk.2, hk.1.2⟩))).1 k_ hk_.symm) ?aF ?aO ?aB ?aS ?aL ?_; (case aP => exact k34_mkM _ _ _ (⟨(rdOf ByteArray.empty t245 0), x251001_2, ((rdOf ByteArray.empty t245 (ji13)).toList == ([115, 101, 99] : List UInt8))⟩ : S34) (Kd.R_mono (Kd.R_tight rfl (Kd.R_mono (ok' := fun k_ => ((fun k_ => k_ ≠ gb250)) k_ ∧ some k_ ≠ (u5 : Value).ownBlock) (Kd.R_types (Kd.R_apart' (HO_251001.out) (Kd.S_typed HO_5.out) (by decide)) BK250.out (by decide)) (fun k_ hk => ⟨hk.2, hk.1.2⟩))) (fun _ h_ => h_))); (case aB => exact (by repeat (first | (with_reducible first | exact HB.out | apply below_alloc | apply pw_below_drewN | apply below_drew1 | refine below_set ?_ GE250.out) | exact HB.out))); (case aF => exact (fun k_ hk => Kd.freshB (g := gb250) (o := .cells #[.string (rdOf ByteArray.empty t245 0), .slice Ao37 x251001_2.length co37, .bool ((rdOf ByteArray.empty t245 (ji13)).toList == ([115, 101, 99] : List UInt8))] 34 (0, 0)) (by (with_reducible repeat (first | refine blk_drewN ?_ _ | refine blk_drew ?_ | refine blk_alloc ?_ _)); exact BK250.out) k_ hk)); (case aO => exact (by (with_reducible repeat (first | apply Kd.S_alloc | apply Kd.S_drewN | apply Kd.S_drew)); exact Kd.S_mono HO_5.out (fun k_ hk => ⟨hk.2, fun e_ => hk.1 e_⟩))); (case aS => exact (below_size (by repeat (first | (with_reducible first | exact HB.out | apply below_alloc | apply pw_below_drewN | apply below_drew1 | refine below_set ?_ GE250.out) | exact HB.out)))); (case aL => have := LMc34.out; omega); intro v258 w36 ho hb hg hat; rw [← Ny257.out] at ho; have n0_ := Aside0.mk (Kd.R_over' (by (with_reducible repeat (first | apply Kd.R_alloc | apply Kd.R_drewN | apply Kd.R_drew)); exact HO_4.out) (Kd.S_typed (by (with_reducible repeat (first | apply Kd.S_alloc | apply Kd.S_drewN | apply Kd.S_drew)); exact HO_5.out)) (by decide) hg); have n1_ := Aside0.mk (Kd.R_over' (by (with_reducible repeat (first | apply Kd.R_alloc | apply Kd.R_drewN | apply Kd.R_drew)); exact HO_7.out) (Kd.S_typed (by (with_reducible repeat (first | apply Kd.S_alloc | apply Kd.S_drewN | apply Kd.S_drew)); exact HO_5.out)) (by decide) hg); have n2_ := Aside0.mk (blk_grown (g := gb250) (o := .cells #[.string (rdOf ByteArray.empty t245 0), .slice Ao37 x251001_2.length co37, .bool ((rdOf ByteArray.empty t245 (ji13)).toList == ([115, 101, 99] : List UInt8))] 34 (0, 0)) (by (with_reducible repeat (first | refine blk_drewN ?_ _ | refine blk_drew ?_ | refine blk_alloc ?_ _)); exact BK250.out) hg (Kd.S_away HO_5.out (fun _ hk => hk.2))); have n3_ := Aside0.mk (hb); have n4_ := Aside0.mk (ho); clear HO_4; clear HO_7; clear BK250; clear HB; clear HO_5; clear HO_251001; have HO_4 := n0_; have HO_7 := n1_; have BK250 := n2_; have HB := n3_; have HO259 := n4_; clear n0_ n1_ n2_ n3_ n4_; clear ho hb hg hat))
                            go_roundg k2
                            case measure => have := HK1.out; have := HK2.out; omega
                            case rel => exact ⟨(y257), (wrap64 (x6_1 + 1)), (by first | rfl | (simp; done) | (simp [*]; done)), H', ⟨by have := HK1.out; have := HK2.out; omega⟩, ⟨by (with_reducible repeat (first | apply Kd.R_alloc | apply Kd.R_drewN | apply Kd.R_drew)); exact Kd.R_mono HO_4.out (fun _ hk => trivial)⟩, ⟨by (with_reducible repeat (first | apply Kd.S_alloc | apply Kd.S_drewN | apply Kd.S_drew)); exact Kd.S_mono HO259.out (fun _ hk => trivial)⟩, ⟨by repeat (first | (with_reducible first | exact HB.out | apply below_alloc | apply pw_below_drewN | apply below_drew1 | refine below_set ?_ GE250.out) | exact HB.out)⟩⟩
                          · rw [if_neg c34] at H
                            exact absurd H (by simp)
                  · rw [if_neg c15] at H
                    exact absurd H (by simp)
                · rw [if_neg c14] at H
                  exact absurd H (by simp)
              · rw [if_neg c12] at H
                exact absurd H (by simp)
          · rw [if_neg c6] at H
            exact absurd H (by simp)
        · rw [if_neg c5] at H
          exact absurd H (by simp)
      · rw [if_neg c4] at H
        have c4b0 : decide (x6_1 < (wrap64 ((t239.length : Int) - 1))) = false := decide_eq_false c4
        clear c4
        replace H := Option.bind_eq_some_iff.mp H
        obtain ⟨⟨t242, t243⟩, A380, H⟩ := H
        replace H : (if t243 = 0 then (if t242.toList = a0.toList then (some (x5_1, 0)) else (some (([] : List (S34)), 6))) else (some (([] : List (S34)), 6))) = some (r1, r2) := H
        have A38 := Aside0.mk A380
        clear A380
        by_cases c39 : t243 = 0
        · rw [if_pos c39] at H
          have c39b0 : (t243 == 0) = true := beq_iff_eq.mpr c39
          have c39b1 : (t243 != 0) = false := bne_eq_false_iff_eq.mpr c39
          clear c39
          by_cases c40 : t242.toList = a0.toList
          · rw [if_pos c40] at H
            have c40b0 : (t242.toList == a0.toList) = true := beq_iff_eq.mpr c40
            have c40b1 : (t242.toList != a0.toList) = false := bne_eq_false_iff_eq.mpr c40
            clear c40
            simp only [Option.some.injEq, Prod.mk.injEq] at H
            obtain ⟨rfl, rfl⟩ := H
            obtain ⟨Ao41, co41, eo41⟩ := Kd.R_slice HO_4.out
            subst eo41
            obtain ⟨Ao42, co42, eo42⟩ := Kd.S_slice HO_5.out
            subst eo42
            go_wp2_with (first | ((with_reducible refine gate_callee (f := 13) rfl ?_); refine goesL_ (some 63) rfl rfl Tryd.func13 (by kernel_rfl) rfl #[.slice Ao42 x5_1.length co42] rfl (by (try simp only [List.map_toArray, List.map_cons, List.map_nil]); first | done | rfl | (simp only [List.length_drop, List.length_take]; rfl)) ?_; (with_reducible refine (carlingref04_Text.calls k1 _ _ x5_1 t242 t243 _ ?side1 ?side2 A38.out).mono ?_); (case side1 => repeat (first | exact (Kd.S_reads' HO_5.out).2.2 | (with_reducible refine Kd.C_alloc ?_ _) | (with_reducible refine Kd.C_drewN ?_ _) | (with_reducible refine Kd.C_drew ?_))); (case side2 => exact (Kd.S_reads' HO_5.out).2.1); rintro e w43 ⟨rfl, hb⟩; refine ⟨_, rfl, ?_⟩; have n0_ := Aside0.mk (Kd.R_below (by (with_reducible repeat (first | apply Kd.R_alloc | apply Kd.R_drewN | apply Kd.R_drew)); exact HO_4.out) hb); have n1_ := Aside0.mk (Kd.S_below (by (with_reducible repeat (first | apply Kd.S_alloc | apply Kd.S_drewN | apply Kd.S_drew)); exact HO_5.out) hb); have n2_ := Aside0.mk (below_step (by repeat (first | (with_reducible first | exact HB.out | apply below_alloc | apply pw_below_drewN | apply below_drew1) | exact HB.out)) hb); clear HO_4; clear HO_5; clear HB; have HO_4 := n0_; have HO_5 := n1_; have HB := n2_; clear n0_ n1_ n2_; (try clear hb); (try clear hb2); (try clear hk); (try clear hi)))
            go_ret2
            exact ⟨_, by first | rfl | (simp [errW_none, errW_some] <;> rfl) | (simp [*, errW_none, errW_some] <;> rfl), by (with_reducible repeat (first | apply Kd.S_alloc | apply Kd.S_drewN | apply Kd.S_drew)); exact HO_5.out, by repeat (first | (with_reducible first | exact HB.out | apply below_alloc | apply pw_below_drewN | apply below_drew1) | exact HB.out)⟩
          · rw [if_neg c40] at H
            have c40b0 : (t242.toList == a0.toList) = false := beq_eq_false_iff_ne.mpr c40
            have c40b1 : (t242.toList != a0.toList) = true := bne_iff_ne.mpr c40
            simp only [Option.some.injEq, Prod.mk.injEq] at H
            obtain ⟨rfl, rfl⟩ := H
            obtain ⟨Ao44, co44, eo44⟩ := Kd.R_slice HO_4.out
            subst eo44
            obtain ⟨Ao45, co45, eo45⟩ := Kd.S_slice HO_5.out
            subst eo45
            go_wp2_with (first | ((with_reducible refine gate_callee (f := 13) rfl ?_); refine goesL_ (some 63) rfl rfl Tryd.func13 (by kernel_rfl) rfl #[.slice Ao45 x5_1.length co45] rfl (by (try simp only [List.map_toArray, List.map_cons, List.map_nil]); first | done | rfl | (simp only [List.length_drop, List.length_take]; rfl)) ?_; (with_reducible refine (carlingref04_Text.calls k1 _ _ x5_1 t242 t243 _ ?side1 ?side2 A38.out).mono ?_); (case side1 => repeat (first | exact (Kd.S_reads' HO_5.out).2.2 | (with_reducible refine Kd.C_alloc ?_ _) | (with_reducible refine Kd.C_drewN ?_ _) | (with_reducible refine Kd.C_drew ?_))); (case side2 => exact (Kd.S_reads' HO_5.out).2.1); rintro e w46 ⟨rfl, hb⟩; refine ⟨_, rfl, ?_⟩; have n0_ := Aside0.mk (Kd.R_below (by (with_reducible repeat (first | apply Kd.R_alloc | apply Kd.R_drewN | apply Kd.R_drew)); exact HO_4.out) hb); have n1_ := Aside0.mk (Kd.S_below (by (with_reducible repeat (first | apply Kd.S_alloc | apply Kd.S_drewN | apply Kd.S_drew)); exact HO_5.out) hb); have n2_ := Aside0.mk (below_step (by repeat (first | (with_reducible first | exact HB.out | apply below_alloc | apply pw_below_drewN | apply below_drew1) | exact HB.out)) hb); clear HO_4; clear HO_5; clear HB; have HO_4 := n0_; have HO_5 := n1_; have HB := n2_; clear n0_ n1_ n2_; (try clear hb); (try clear hb2); (try clear hk); (try clear hi)))
            go_ret2
            exact ⟨_, by first | rfl | (simp [errW_none, errW_some] <;> rfl) | (simp [*, errW_none, errW_some] <;> rfl), by first | exact Kd.S_nil _ _ _ _ _ | exact Kd.N_nil _ _ _ _ _ | exact Kd.V_nil _ _ _ _ _ | exact Kd.Q_nil _ _ _ _ _ | exact Kd.R_nil _ _ _ _ _, by repeat (first | (with_reducible first | exact HB.out | apply below_alloc | apply pw_below_drewN | apply below_drew1) | exact HB.out)⟩
        · rw [if_neg c39] at H
          have c39b0 : (t243 == 0) = false := beq_eq_false_iff_ne.mpr c39
          have c39b1 : (t243 != 0) = true := bne_iff_ne.mpr c39
          simp only [Option.some.injEq, Prod.mk.injEq] at H
          obtain ⟨rfl, rfl⟩ := H
          obtain ⟨Ao47, co47, eo47⟩ := Kd.R_slice HO_4.out
          subst eo47
          obtain ⟨Ao48, co48, eo48⟩ := Kd.S_slice HO_5.out
          subst eo48
          go_wp2_with (first | ((with_reducible refine gate_callee (f := 13) rfl ?_); refine goesL_ (some 63) rfl rfl Tryd.func13 (by kernel_rfl) rfl #[.slice Ao48 x5_1.length co48] rfl (by (try simp only [List.map_toArray, List.map_cons, List.map_nil]); first | done | rfl | (simp only [List.length_drop, List.length_take]; rfl)) ?_; (with_reducible refine (carlingref04_Text.calls k1 _ _ x5_1 t242 t243 _ ?side1 ?side2 A38.out).mono ?_); (case side1 => repeat (first | exact (Kd.S_reads' HO_5.out).2.2 | (with_reducible refine Kd.C_alloc ?_ _) | (with_reducible refine Kd.C_drewN ?_ _) | (with_reducible refine Kd.C_drew ?_))); (case side2 => exact (Kd.S_reads' HO_5.out).2.1); rintro e w49 ⟨rfl, hb⟩; refine ⟨_, rfl, ?_⟩; have n0_ := Aside0.mk (Kd.R_below (by (with_reducible repeat (first | apply Kd.R_alloc | apply Kd.R_drewN | apply Kd.R_drew)); exact HO_4.out) hb); have n1_ := Aside0.mk (Kd.S_below (by (with_reducible repeat (first | apply Kd.S_alloc | apply Kd.S_drewN | apply Kd.S_drew)); exact HO_5.out) hb); have n2_ := Aside0.mk (below_step (by repeat (first | (with_reducible first | exact HB.out | apply below_alloc | apply pw_below_drewN | apply below_drew1) | exact HB.out)) hb); clear HO_4; clear HO_5; clear HB; have HO_4 := n0_; have HO_5 := n1_; have HB := n2_; clear n0_ n1_ n2_; (try clear hb); (try clear hb2); (try clear hk); (try clear hi)))
          go_ret2
          exact ⟨_, by first | rfl | (simp [errW_none, errW_some] <;> rfl) | (simp [*, errW_none, errW_some] <;> rfl), by first | exact Kd.S_nil _ _ _ _ _ | exact Kd.N_nil _ _ _ _ _ | exact Kd.V_nil _ _ _ _ _ | exact Kd.Q_nil _ _ _ _ _ | exact Kd.R_nil _ _ _ _ _, by repeat (first | (with_reducible first | exact HB.out | apply below_alloc | apply pw_below_drewN | apply below_drew1) | exact HB.out)⟩

end Go.Proofs.YtappdmioncdefaaDoor.Q
