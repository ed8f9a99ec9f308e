/- The walk of Append. -/
import Derived.Test.YtddaiihhhajieaaLogCalls
namespace Go.Proofs.Ytddaiihhhajieaa
open Go.RowKit Go.Maps

set_option maxHeartbeats 4000000 in
set_option maxRecDepth 20000 in
theorem lappend_any (g d : Nat) (F : Foot) (D : Dk) (L : Lg) (v : Value) (l : List ByteArray) (w : World) (hd : IsDisk w d F D) (hl : LogAt w g d L) (hg : ¬ F g) (hlen : D.wait.length < 1000000000000) (hf : LgFine L)
    (hv : IsStrs w v l) (hll : l.length ≤ 1000000000) :
    Calls Try.prog 34 #[.pointer (some ⟨g, 0, none⟩), v] w fun e w' => e = .returned (.int .i64 (appendL D L l).1) ∧ LeftG w F d g (appendL D L l).2.1 (appendL D L l).2.2 w' := by
  have h38 := lrenew_any g d F D L v l w hd hl hg hlen hf hv hll
  obtain ⟨f1, f2, f3, f4⟩ := hf
  obtain ⟨R, hR⟩ : ∃ R, R = appendL D L l := ⟨_, rfl⟩
  rw [← hR]
  unfold appendL at hR
  have c5 := hl.c5
  by_cases ho : L.over = true
  · rw [if_pos ho] at hR
    have K := Lib.hid (show LeftG w F d g R.2.1 R.2.2 w by rw [hR]; exact leftG_below hd hl hg (Below.refl _ _))
    have E := Lib.hid (show R.1 = 23 by rw [hR])
    rw [ho] at c5
    clear hd hl hg hR hv h38
    go_enter Try.func34, Try.ntmps34
    go_wp2_with fail
    go_ret
    exact ⟨by rw [E.out]; rfl, K.out⟩
  rw [if_neg ho] at hR
  rw [Bool.not_eq_true] at ho
  rw [ho] at c5
  have c2 := hl.c2
  by_cases he : L.epoch = 0
  · rw [if_pos he] at hR
    rw [← hR] at h38
    rw [he] at c2
    have e0 : ((0 : Nat) : Int) = 0 := rfl
    rw [e0] at c2
    have H38 := Lib.hid h38
    clear hd hl hg hR hv h38 e0 he
    go_enter Try.func34, Try.ntmps34
    go_wp2_with (go_at_call 38; refine H38.out.mono ?_; rintro e1 w1 ⟨rfl, hK⟩)
    go_ret
    exact ⟨rfl, hK⟩
  rw [if_neg he] at hR
  have p1 : ((L.epoch : Int) == 0) = false := by rw [beq_eq_false_iff_ne]; omega
  have H60 := Lib.hid (pack_any v l hv hll)
  clear hv h38
  obtain ⟨sh, hsh⟩ : ∃ b, b = short l := ⟨_, rfl⟩
  unfold packV at H60
  rw [← hsh] at H60 hR
  have HSH := Lib.hid hsh
  clear hsh
  cases sh with
  | false =>
    rw [if_pos (.inl rfl)] at hR
    rw [if_neg (by simp)] at H60
    have K := Lib.hid (show ∀ W, Below w.heap.size w W → LeftG w F d g R.2.1 R.2.2 W by intro W hW; rw [hR]; exact leftG_below hd hl hg hW)
    have E := Lib.hid (show R.1 = 20 by rw [hR])
    clear hd hl hg hR he
    go_enter Try.func34, Try.ntmps34
    go_wp2_with (go_at_call 60; refine H60.out.mono ?_; rintro e1 w1 ⟨rfl, hb1⟩)
    go_ret
    exact ⟨by rw [E.out]; rfl, K.out _ hb1⟩
  | true =>
    rw [if_pos rfl] at H60
    have hps := packTo_size l HSH.out.symm hll
    obtain ⟨S, hS⟩ : ∃ s, s = packTo l := ⟨_, rfl⟩
    rw [← hS] at H60 hR hps
    clear hS
    have h61 := fun W => need_any S (by omega) W
    obtain ⟨n, hn⟩ : ∃ n, n = needN S.size := ⟨_, rfl⟩
    rw [← hn] at hR h61
    have H61 := Lib.hid h61
    have H35 : Hid (∀ W, Below w.heap.size w W → Calls Try.prog 35 #[.pointer (some ⟨g, 0, none⟩)] W fun e w' => e = .returned (.int .i64 (256 - (L.pos : Int))) ∧ W = w') := fun W hW => room_any g d L W (hl.below hW) f2
    by_cases hbig : 256 - L.pos < n
    · rw [if_pos (.inr hbig)] at hR
      have K := Lib.hid (show ∀ W, Below w.heap.size w W → LeftG w F d g R.2.1 R.2.2 W by intro W hW; rw [hR]; exact leftG_below hd hl hg hW)
      have E := Lib.hid (show R.1 = 20 by rw [hR])
      have q : (256 : Int) - (L.pos : Int) < (n : Int) := by omega
      clear hd hl hg hR h61 hn he
      go_enter Try.func34, Try.ntmps34
      go_wp2_with (first
        | (go_at_call 60; refine H60.out.mono ?_; rintro e1 w1 ⟨rfl, hb1⟩)
        | (go_at_call 61; refine (H61.out _).mono ?_; rintro e2 w2 ⟨rfl, rfl⟩)
        | (go_at_call 35; refine (H35.out _ hb1).mono ?_; rintro e3 w3 ⟨rfl, rfl⟩))
      go_ret
      exact ⟨by rw [E.out]; rfl, K.out _ hb1⟩
    · rw [if_neg (by simp; omega)] at hR
      have q : ¬ (256 : Int) - (L.pos : Int) < (n : Int) := by omega
      simp only at hR
      have h62 : ∀ W, Below w.heap.size w W → Calls Try.prog 62 #[.pointer (some ⟨g, 0, none⟩), .int .i64 L.side, .int .i64 L.pos, .agg #[.int .i64 (L.epoch : Int), .int .i64 (L.group : Int), .int .i64 0, .bool false, .int .i64 0], .string S] W fun e w' =>
          e = .returned (.int .i64 (wrGroup D L.side L.pos L.epoch L.group S).1) ∧ LeftG w F d g (wrGroup D L.side L.pos L.epoch L.group S).2 { L with over := (wrGroup D L.side L.pos L.epoch L.group S).1 != 0 } w' := by
        rintro W hW
        have h := lwrite_any g d F D L L.side L.pos L.epoch L.group S W (hd.below hW) (hl.below hW) hg hlen f1 f2 (by omega) (by omega) (by omega)
        refine h.mono ?_
        rintro e w' ⟨h1, h2⟩
        exact ⟨h1, h2.after hW⟩
      obtain ⟨⟨a, D2⟩, hr⟩ : ∃ r, r = wrGroup D L.side L.pos L.epoch L.group S := ⟨_, rfl⟩
      rw [← hr] at h62 hR
      simp only at hR h62
      have H62 := Lib.hid h62
      have KA : Hid (∀ W, Below w.heap.size w W → W.cell? ⟨g, 1, none⟩ = some (.int .i64 (L.side : Int)) ∧ W.cell? ⟨g, 2, none⟩ = some (.int .i64 (L.epoch : Int)) ∧ W.cell? ⟨g, 3, none⟩ = some (.int .i64 (L.pos : Int)) ∧ W.cell? ⟨g, 4, none⟩ = some (.int .i64 (L.group : Int))) :=
        fun W hW => ⟨(hl.below hW).c1, (hl.below hW).c2, (hl.below hW).c3, (hl.below hW).c4⟩
      have KB : Hid (∀ W, LeftG w F d g D2 { L with over := a != 0 } W → W.cell? ⟨g, 1, none⟩ = some (.int .i64 (L.side : Int)) ∧ W.cell? ⟨g, 2, none⟩ = some (.int .i64 (L.epoch : Int)) ∧ W.cell? ⟨g, 3, none⟩ = some (.int .i64 (L.pos : Int)) ∧ W.cell? ⟨g, 4, none⟩ = some (.int .i64 (L.group : Int))) :=
        fun W hW => ⟨hW.log.c1, hW.log.c2, hW.log.c3, hW.log.c4⟩
      have KF : Hid (∀ w3, a = 0 → LeftG w F d g D2 { L with over := a != 0 } w3 → R.1 = 0 ∧ LeftG w F d g R.2.1 R.2.2 ((w3.setCell ⟨g, 3, none⟩ (.int .i64 ((L.pos : Int) + (n : Int)))).setCell ⟨g, 4, none⟩ (.int .i64 ((L.group : Int) + 1))).drew) := by
        rintro w3 ha h
        rw [if_neg (by simpa using ha)] at hR
        rw [hR]
        refine ⟨rfl, ?_⟩
        subst ha
        obtain ⟨F', h1, h2, h3, h4⟩ := (h.store 3 _ (fun h => h.set_pos (L.pos + n))).store 4 _ (fun h => h.set_group (L.group + 1))
        exact ⟨F', h1.below (Below.refl _ _).drew, h2.below (Below.refl _ _).drew, h3, h4.drew⟩
      have KN : Hid (∀ w3, a ≠ 0 → LeftG w F d g D2 { L with over := a != 0 } w3 → R.1 = a ∧ LeftG w F d g R.2.1 R.2.2 w3) := by
        intro w3 ha h
        rw [if_pos ha] at hR
        rw [hR]
        have e1 : (a != 0) = true := by rw [bne_iff_ne]; exact ha
        rw [e1] at h
        exact ⟨rfl, h⟩
      have HPS := Lib.hid hps
      have HQ := Lib.hid hbig
      have hn256 : n ≤ 256 := by omega
      clear hd hl hg h61 h62 hn hr hps hbig hR he
      by_cases ha : a = 0
      · go_enter Try.func34, Try.ntmps34
        go_wp2_with (first
          | (go_at_call 60; refine H60.out.mono ?_; rintro e1 w1 ⟨rfl, hb1⟩)
          | (go_at_call 61; refine (H61.out _).mono ?_; rintro e2 w2 ⟨rfl, rfl⟩)
          | (go_at_call 35; refine (H35.out _ hb1).mono ?_; rintro e3 w3 ⟨rfl, rfl⟩))
        have HB1 := Lib.hid hb1
        have Q0 := Lib.hid (KA.out _ (hb1.trans ((Below.refl _ _).drew.mono hb1.size)))
        clear c2 c5 hb1
        go_region_held3 (fun W => W.cell? ⟨g, 1, none⟩ = some (.int .i64 (L.side : Int)) ∧ W.cell? ⟨g, 2, none⟩ = some (.int .i64 (L.epoch : Int)) ∧ W.cell? ⟨g, 3, none⟩ = some (.int .i64 (L.pos : Int)) ∧ W.cell? ⟨g, 4, none⟩ = some (.int .i64 (L.group : Int))) (first | (with_reducible exact Q0.out) | (with_reducible exact ⟨y1, y2, y3, y4⟩))
          (first
           | (go_at_call 62; refine (H62.out _ (HB1.out.trans ((Below.refl _ _).drew.mono HB1.out.size))).mono ?_; rintro e2 w2 ⟨rfl, hL3⟩; obtain ⟨y1, y2, y3, y4⟩ := KB.out _ hL3))
        all_goals
          have HL3 := Lib.hid hL3
          have f3' := HL3.out.log.fz 3
          have f4' := HL3.out.log.fz 4
          clear y1 y2 hL3
          go_wp2_with fail
          go_region_with (go_at_call 61; refine (H61.out _).mono ?_; rintro e4 w4 ⟨rfl, rfl⟩)
          all_goals
            have K := Lib.hid (KF.out w2 ha HL3.out)
            go_wp2_with fail
            go_ret
            exact ⟨by rw [K.out.1]; rfl, K.out.2⟩
      · have hb : (a != 0) = true := by rw [bne_iff_ne]; exact ha
        go_enter Try.func34, Try.ntmps34
        go_wp2_with (first
          | (go_at_call 60; refine H60.out.mono ?_; rintro e1 w1 ⟨rfl, hb1⟩)
          | (go_at_call 61; refine (H61.out _).mono ?_; rintro e2 w2 ⟨rfl, rfl⟩)
          | (go_at_call 35; refine (H35.out _ hb1).mono ?_; rintro e3 w3 ⟨rfl, rfl⟩))
        have HB1 := Lib.hid hb1
        have Q0 := Lib.hid (KA.out _ (hb1.trans ((Below.refl _ _).drew.mono hb1.size)))
        clear c2 c5 hb1
        go_region_held3 (fun W => W.cell? ⟨g, 1, none⟩ = some (.int .i64 (L.side : Int)) ∧ W.cell? ⟨g, 2, none⟩ = some (.int .i64 (L.epoch : Int)) ∧ W.cell? ⟨g, 3, none⟩ = some (.int .i64 (L.pos : Int)) ∧ W.cell? ⟨g, 4, none⟩ = some (.int .i64 (L.group : Int))) (first | (with_reducible exact Q0.out) | (with_reducible exact ⟨y1, y2, y3, y4⟩))
          (first
           | (go_at_call 62; refine (H62.out _ (HB1.out.trans ((Below.refl _ _).drew.mono HB1.out.size))).mono ?_; rintro e2 w2 ⟨rfl, hL3⟩; obtain ⟨y1, y2, y3, y4⟩ := KB.out _ hL3))
        all_goals
          have K := Lib.hid (KN.out w2 ha hL3)
          clear y1 y2 y3 y4 hL3
          go_wp2_with fail
          go_ret
          exact ⟨by rw [K.out.1]; rfl, K.out.2⟩
end Go.Proofs.Ytddaiihhhajieaa
