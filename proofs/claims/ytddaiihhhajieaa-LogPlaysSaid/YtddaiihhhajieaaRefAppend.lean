/- The walks of the document's Room and Append. -/
import Derived.Test.YtddaiihhhajieaaRefCalls
namespace Go.Proofs.Ytddaiihhhajieaa
open Go.RowKit Go.Maps

theorem rroom_any (q r : Nat) (L : Lg) (w : World) (h : RLogAt w q r L) (hp : L.pos ≤ 256) : Calls Try.prog 43 #[.pointer (some ⟨q, 0, none⟩)] w fun e w' => e = .returned (.int .i64 (256 - (L.pos : Int))) ∧ w = w' := by
  have c3 := h.c3
  have g1 : (L.pos : Int) ≤ 256 := by omega
  clear h
  go_enter Try.func43, Try.ntmps43
  go_wp2
  go_ret
  exact ⟨rfl, rfl⟩

set_option maxHeartbeats 4000000 in
set_option maxRecDepth 100000 in
theorem rappend_any (q r : Nat) (G : Foot) (D : Dk) (Lp : Puts) (L : Lg) (v : Value) (l : List ByteArray) (w : World) (hd : IsRef w r G D Lp) (ha : Agree D Lp) (hfi : D.Fine) (hl : RLogAt w q r L) (hg : ¬ G q) (hlen : Lp.length + D.wait.length < 1000000000000) (hf : LgFine L)
    (hv : IsStrs w v l) (hll : l.length ≤ 1000000000) :
    Calls Try.prog 41 #[.pointer (some ⟨q, 0, none⟩), v] w fun e w' => e = .returned (.int .i64 (appendL D L l).1) ∧ LeftQ w G r q (appendL D L l).2.1 (appendL D L l).2.2 (Lp.length + D.wait.length + 256) w' := by
  have h42 := rrenew_any q r G D Lp L v l w hd ha hfi hl hg hlen hf hv hll
  obtain ⟨f1, f2, f3, f4⟩ := hf
  obtain ⟨M, hM⟩ : ∃ M, M = Lp.length + D.wait.length + 256 := ⟨_, rfl⟩
  have hM1 : Lp.length + D.wait.length ≤ M := by omega
  rw [← hM] at h42 ⊢
  obtain ⟨R, hR⟩ : ∃ R, R = appendL D L l := ⟨_, rfl⟩
  rw [← hR]
  unfold appendL at hR
  have c5 := hl.c5
  have c2 := hl.c2
  by_cases ho : L.over = true
  · rw [if_pos ho] at hR
    have e42 : renewL D L l = R := by unfold renewL; rw [if_pos ho, hR]
    rw [e42] at h42
    have H42 := Lib.hid h42
    rw [ho] at c5
    clear hd hl hg hR hv ha hfi hM hM1 h42 e42
    by_cases he : L.epoch = 0
    · rw [he] at c2
      have e0 : ((0 : Nat) : Int) = 0 := rfl
      rw [e0] at c2
      clear e0 he
      go_enter Try.func41, Try.ntmps41
      go_wp2_with (go_at_call 42; refine H42.out.mono ?_; rintro e1 w1 ⟨rfl, hK⟩)
      go_ret
      exact ⟨rfl, hK⟩
    · have p1 : ((L.epoch : Int) == 0) = false := by rw [beq_eq_false_iff_ne]; omega
      clear he
      go_enter Try.func41, Try.ntmps41
      go_wp2_with (go_at_call 42; refine H42.out.mono ?_; rintro e1 w1 ⟨rfl, hK⟩)
      go_ret
      exact ⟨rfl, hK⟩
  rw [if_neg ho] at hR
  rw [Bool.not_eq_true] at ho
  rw [ho] at c5
  by_cases he : L.epoch = 0
  · rw [if_pos he] at hR
    rw [← hR] at h42
    rw [he] at c2
    have e0 : ((0 : Nat) : Int) = 0 := rfl
    rw [e0] at c2
    have H42 := Lib.hid h42
    clear hd hl hg hR hv ha hfi hM hM1 h42 e0 he
    go_enter Try.func41, Try.ntmps41
    go_wp2_with (go_at_call 42; refine H42.out.mono ?_; rintro e1 w1 ⟨rfl, hK⟩)
    go_ret
    exact ⟨rfl, hK⟩
  rw [if_neg he] at hR
  have p1 : ((L.epoch : Int) == 0) = false := by rw [beq_eq_false_iff_ne]; omega
  have H65 := Lib.hid (rbytes_any v l hv hll)
  clear hv h42
  obtain ⟨sh, hsh⟩ : ∃ b, b = short l := ⟨_, rfl⟩
  unfold packV at H65
  rw [← hsh] at H65 hR
  have HSH := Lib.hid hsh
  clear hsh
  cases sh with
  | false =>
    rw [if_pos (.inl rfl)] at hR
    rw [if_neg (by simp)] at H65
    have K := Lib.hid (show ∀ W, Below w.heap.size w W → LeftQ w G r q R.2.1 R.2.2 M W by intro W hW; rw [hR]; exact leftQ_below hd ha hM1 hl hg hW)
    have E := Lib.hid (show R.1 = 20 by rw [hR])
    clear hd hl hg hR he ha hfi hM hM1
    go_enter Try.func41, Try.ntmps41
    go_wp2_with (go_at_call 65; refine H65.out.mono ?_; rintro e1 w1 ⟨rfl, hb1⟩)
    go_ret
    exact ⟨by rw [E.out]; rfl, K.out _ hb1⟩
  | true =>
    rw [if_pos rfl] at H65
    have hps := packTo_size l HSH.out.symm hll
    obtain ⟨S, hS⟩ : ∃ s, s = packTo l := ⟨_, rfl⟩
    rw [← hS] at H65 hR hps
    clear hS
    have h66 := fun W => rneed_any S (by omega) W
    obtain ⟨n, hn⟩ : ∃ n, n = needN S.size := ⟨_, rfl⟩
    rw [← hn] at hR h66
    have H66 := Lib.hid h66
    have H43 : Hid (∀ W, Below w.heap.size w W → Calls Try.prog 43 #[.pointer (some ⟨q, 0, none⟩)] W fun e w' => e = .returned (.int .i64 (256 - (L.pos : Int))) ∧ W = w') := fun W hW => rroom_any q r L W (hl.below hW) f2
    by_cases hbig : 256 - L.pos < n
    · rw [if_pos (.inr hbig)] at hR
      have K := Lib.hid (show ∀ W, Below w.heap.size w W → LeftQ w G r q R.2.1 R.2.2 M W by intro W hW; rw [hR]; exact leftQ_below hd ha hM1 hl hg hW)
      have E := Lib.hid (show R.1 = 20 by rw [hR])
      have q0 : (256 : Int) - (L.pos : Int) < (n : Int) := by omega
      clear hd hl hg hR h66 hn he ha hfi hM hM1 hps
      go_enter Try.func41, Try.ntmps41
      go_wp2_with (first
        | (go_at_call 65; refine H65.out.mono ?_; rintro e1 w1 ⟨rfl, hb1⟩)
        | (go_at_call 66; refine (H66.out _).mono ?_; rintro e2 w2 ⟨rfl, rfl⟩)
        | (go_at_call 43; refine (H43.out _ hb1).mono ?_; rintro e3 w3 ⟨rfl, rfl⟩))
      go_ret
      exact ⟨by rw [E.out]; rfl, K.out _ hb1⟩
    · rw [if_neg (by simp; omega)] at hR
      have q0 : ¬ (256 : Int) - (L.pos : Int) < (n : Int) := by omega
      simp only at hR
      have hcode := wrGroup_code D (side := L.side) (pos := L.pos) (epoch := L.epoch) (group := L.group) (s := S) (by omega)
      have h67 : ∀ W x, x = 256 * (L.side : Int) + (L.pos : Int) → Below w.heap.size w W → Calls Try.prog 67 #[.pointer (some ⟨q, 0, none⟩), .int .i64 x, .int .i64 L.epoch, .int .i64 L.group, .string S] W fun e w' =>
          e = .returned (.int .i64 (wcode (wrGroup D L.side L.pos L.epoch L.group S).1)) ∧ LeftQ w G r q (wrGroup D L.side L.pos L.epoch L.group S).2 (wover (wrGroup D L.side L.pos L.epoch L.group S).1 L) M w' := by
        rintro W x hx hW
        have h := rlwrite_any q r G D Lp L L.side L.pos L.epoch L.group S x hx W (hd.below hW) ha hfi (hl.below hW) hg hlen f1 f2 (by omega) f3 (by omega)
        rw [← hM] at h
        refine h.mono ?_
        rintro e w' ⟨h1, h2⟩
        exact ⟨h1, h2.after hW⟩
      obtain ⟨⟨a, D2⟩, hr⟩ : ∃ r, r = wrGroup D L.side L.pos L.epoch L.group S := ⟨_, rfl⟩
      rw [← hr] at h67 hR hcode
      simp only at hR h67 hcode
      rw [wcode_id hcode] at h67
      have H67 := Lib.hid h67
      have KA : Hid (∀ W, Below w.heap.size w W → W.cell? ⟨q, 1, none⟩ = some (.int .i64 (L.side : Int)) ∧ W.cell? ⟨q, 2, none⟩ = some (.int .i64 (L.epoch : Int)) ∧ W.cell? ⟨q, 3, none⟩ = some (.int .i64 (L.pos : Int)) ∧ W.cell? ⟨q, 4, none⟩ = some (.int .i64 (L.group : Int))) :=
        fun W hW => ⟨(hl.below hW).c1, (hl.below hW).c2, (hl.below hW).c3, (hl.below hW).c4⟩
      have KB : Hid (∀ W, LeftQ w G r q D2 (wover a L) M W → W.cell? ⟨q, 1, none⟩ = some (.int .i64 (L.side : Int)) ∧ W.cell? ⟨q, 2, none⟩ = some (.int .i64 (L.epoch : Int)) ∧ W.cell? ⟨q, 3, none⟩ = some (.int .i64 (L.pos : Int)) ∧ W.cell? ⟨q, 4, none⟩ = some (.int .i64 (L.group : Int)) ∧ W.frozen? ⟨q, 3, none⟩ = false ∧ W.frozen? ⟨q, 4, none⟩ = false) := by
        intro W hW
        have h := hW.log
        unfold wover at h
        split at h
        · exact ⟨h.c1, h.c2, h.c3, h.c4, h.fz 3, h.fz 4⟩
        · exact ⟨h.c1, h.c2, h.c3, h.c4, h.fz 3, h.fz 4⟩
      have KF : Hid (∀ w3, a = 0 → LeftQ w G r q D2 (wover a L) M w3 → R.1 = 0 ∧ LeftQ w G r q R.2.1 R.2.2 M ((w3.setCell ⟨q, 3, none⟩ (.int .i64 ((L.pos : Int) + (n : Int)))).setCell ⟨q, 4, none⟩ (.int .i64 ((L.group : Int) + 1))).drew) := by
        rintro w3 ha0 h
        rw [if_neg (by simpa using ha0)] at hR
        rw [hR]
        refine ⟨rfl, ?_⟩
        subst ha0
        rw [wover_zero] at h
        have h9 := (h.store 3 _ (fun h => h.set_pos (L.pos + n))).store 4 _ (fun h => h.set_group (L.group + 1))
        rw [ho] at h9
        exact h9.below (Below.refl _ _).drew
      have KN : Hid (∀ w3, a ≠ 0 → LeftQ w G r q D2 (wover a L) M w3 → R.1 = a ∧ LeftQ w G r q R.2.1 R.2.2 M w3) := by
        intro w3 ha0 h
        rw [if_pos ha0] at hR
        rw [hR]
        rw [wover_ne ha0] at h
        exact ⟨rfl, h⟩
      have g1 : IntKind.i64.wrap (256 * (L.side : Int)) = 256 * (L.side : Int) := IntWalk.i64_in _ (by omega)
      have g2 : IntKind.i64.wrap (256 * (L.side : Int) + (L.pos : Int)) = 256 * (L.side : Int) + (L.pos : Int) := IntWalk.i64_in _ (by omega)
      have HPS := Lib.hid hps
      have HQ := Lib.hid hbig
      have hn256 : n ≤ 256 := by omega
      clear hd hl hg h66 h67 hn hr hps hbig hR he ha hfi hM hM1 hcode
      by_cases ha : a = 0
      · go_enter Try.func41, Try.ntmps41
        go_wp2_with (first
          | (go_at_call 65; refine H65.out.mono ?_; rintro e1 w1 ⟨rfl, hb1⟩)
          | (go_at_call 66; refine (H66.out _).mono ?_; rintro e2 w2 ⟨rfl, rfl⟩)
          | (go_at_call 43; refine (H43.out _ hb1).mono ?_; rintro e3 w3 ⟨rfl, rfl⟩))
        have HB1 := Lib.hid hb1
        have Q0 := Lib.hid (KA.out _ (hb1.trans ((Below.refl _ _).drew.mono hb1.size)))
        clear c2 c5 hb1
        go_region_held3 (fun W => W.cell? ⟨q, 1, none⟩ = some (.int .i64 (L.side : Int)) ∧ W.cell? ⟨q, 2, none⟩ = some (.int .i64 (L.epoch : Int)) ∧ W.cell? ⟨q, 3, none⟩ = some (.int .i64 (L.pos : Int)) ∧ W.cell? ⟨q, 4, none⟩ = some (.int .i64 (L.group : Int))) (first | (with_reducible exact Q0.out) | (with_reducible exact ⟨y1, y2, y3, y4⟩))
          (first
           | (go_at_call 67; refine (H67.out _ _ rfl (HB1.out.trans ((Below.refl _ _).drew.mono HB1.out.size))).mono ?_; rintro e2 w2 ⟨rfl, hL3⟩; obtain ⟨y1, y2, y3, y4, y5, y6⟩ := KB.out _ hL3))
        all_goals
          have HL3 := Lib.hid hL3
          clear y1 y2 hL3
          go_wp2_with fail
          go_region_with (go_at_call 66; refine (H66.out _).mono ?_; rintro e4 w4 ⟨rfl, rfl⟩)
          all_goals
            have K := Lib.hid (KF.out w2 ha HL3.out)
            go_wp2_with fail
            go_ret
            exact ⟨by rw [K.out.1]; rfl, K.out.2⟩
      · have hb : (a == 0) = false := by rw [beq_eq_false_iff_ne]; exact ha
        go_enter Try.func41, Try.ntmps41
        go_wp2_with (first
          | (go_at_call 65; refine H65.out.mono ?_; rintro e1 w1 ⟨rfl, hb1⟩)
          | (go_at_call 66; refine (H66.out _).mono ?_; rintro e2 w2 ⟨rfl, rfl⟩)
          | (go_at_call 43; refine (H43.out _ hb1).mono ?_; rintro e3 w3 ⟨rfl, rfl⟩))
        have HB1 := Lib.hid hb1
        have Q0 := Lib.hid (KA.out _ (hb1.trans ((Below.refl _ _).drew.mono hb1.size)))
        clear c2 c5 hb1
        go_region_held3 (fun W => W.cell? ⟨q, 1, none⟩ = some (.int .i64 (L.side : Int)) ∧ W.cell? ⟨q, 2, none⟩ = some (.int .i64 (L.epoch : Int)) ∧ W.cell? ⟨q, 3, none⟩ = some (.int .i64 (L.pos : Int)) ∧ W.cell? ⟨q, 4, none⟩ = some (.int .i64 (L.group : Int))) (first | (with_reducible exact Q0.out) | (with_reducible exact ⟨y1, y2, y3, y4⟩))
          (first
           | (go_at_call 67; refine (H67.out _ _ rfl (HB1.out.trans ((Below.refl _ _).drew.mono HB1.out.size))).mono ?_; rintro e2 w2 ⟨rfl, hL3⟩; obtain ⟨y1, y2, y3, y4, y5, y6⟩ := KB.out _ hL3))
        all_goals
          have K := Lib.hid (KN.out w2 ha hL3)
          clear y1 y2 y3 y4 y5 y6 hL3
          go_wp2_with fail
          go_ret
          exact ⟨by rw [K.out.1]; rfl, K.out.2⟩
end Go.Proofs.Ytddaiihhhajieaa
