/- The walks of Renew and Append. -/
import Derived.Test.YtddaiihhhajieaaLogWrite
namespace Go.Proofs.Ytddaiihhhajieaa
open Go.RowKit Go.Maps

theorem packTo_size (l : List ByteArray) (h : short l = true) (hl : l.length ≤ 1000000000) : (packTo l).size ≤ 65537000000000 := by
  have h1 := packTo_le l l.length (Nat.le_refl _) (fun i hi _ => by
    have := List.all_eq_true.1 h (l[i]) (List.getElem_mem hi)
    simpa using this)
  rw [List.take_length] at h1
  omega
section
variable {w w' : World} {F : Foot} {d g : Nat} {D : Dk} {L : Lg}
theorem leftG_below (hd : IsDisk w d F D) (hl : LogAt w g d L) (hg : ¬ F g) (hb : Below w.heap.size w w') : LeftG w F d g D L w' :=
  ⟨F, hd.below hb, hl.below hb, hg, (Moves.refl _ _).below hb⟩
theorem LeftG.after {w0 : World} (hb : Below w0.heap.size w0 w) (h : LeftG w F d g D L w') : LeftG w0 F d g D L w' := by
  obtain ⟨F', h1, h2, h3, h4⟩ := h
  exact ⟨F', h1, h2, h3, ((Moves.refl _ _).below hb).trans h4⟩
/-- a store into the log's own block -/
theorem LeftG.store {w0 : World} {L' : Lg} (h : LeftG w0 F d g D L w) (i : Nat) (v : Value) (hs : LogAt w g d L → LogAt (w.setCell ⟨g, i, none⟩ v) g d L') : LeftG w0 F d g D L' (w.setCell ⟨g, i, none⟩ v) := by
  obtain ⟨F', h1, h2, h3, h4⟩ := h
  exact ⟨F', h1.stay fun j hj => Below.heap_setCell _ _ _ _ (by rintro rfl; exact h3 hj), hs h2, h3, h4.setCell (p := ⟨g, i, none⟩) (.inl (.inr rfl)) _⟩
theorem LeftG.log {w0 : World} (h : LeftG w0 F d g D L w) : LogAt w g d L := by
  obtain ⟨F', _, h2, _⟩ := h
  exact h2
end

structure LgFine (L : Lg) : Prop where
  side : L.side ≤ 1
  pos : L.pos ≤ 256
  group : L.group ≤ 4294967296
  epoch : L.epoch ≤ 1099511627776

set_option maxHeartbeats 4000000 in
set_option maxRecDepth 20000 in
theorem lrenew_any (g d : Nat) (F : Foot) (D : Dk) (L : Lg) (v : Value) (l : List ByteArray) (w : World) (hd : IsDisk w d F D) (hl : LogAt w g d L) (hg : ¬ F g) (hlen : D.wait.length < 1000000000000) (hf : LgFine L)
    (hv : IsStrs w v l) (hll : l.length ≤ 1000000000) :
    Calls Try.prog 38 #[.pointer (some ⟨g, 0, none⟩), v] w fun e w' => e = .returned (.int .i64 (renewL D L l).1) ∧ LeftG w F d g (renewL D L l).2.1 (renewL D L l).2.2 w' := by
  obtain ⟨f1, f2, f3, f4⟩ := hf
  obtain ⟨R, hR⟩ : ∃ R, R = renewL D L l := ⟨_, rfl⟩
  rw [← hR]
  unfold renewL at hR
  have c5 := hl.c5
  by_cases ho : L.over = true
  · rw [if_pos ho] at hR
    have K := Lib.hid (show LeftG w F d g R.2.1 R.2.2 w by rw [hR]; exact leftG_below hd hl hg (Below.refl _ _))
    have E := Lib.hid (show R.1 = 23 by rw [hR])
    rw [ho] at c5
    clear hd hl hg hR hv
    go_enter Try.func38, Try.ntmps38
    go_wp2_with fail
    go_ret
    exact ⟨by rw [E.out]; rfl, K.out⟩
  rw [if_neg ho] at hR
  rw [Bool.not_eq_true] at ho
  rw [ho] at c5
  have H60 := Lib.hid (pack_any v l hv hll)
  clear hv
  obtain ⟨sh, hsh⟩ : ∃ b, b = short l := ⟨_, rfl⟩
  unfold packV at H60
  rw [← hsh] at H60 hR
  have HSH := Lib.hid hsh
  clear hsh
  cases sh with
  | false =>
    rw [if_pos (.inl rfl)] at hR
    rw [if_neg (by simp)] at H60
    have K := Lib.hid (show ∀ W, Below w.heap.size w W → LeftG w F d g R.2.1 R.2.2 W by intro W hW; rw [hR]; exact leftG_below hd hl hg hW)
    have E := Lib.hid (show R.1 = 20 by rw [hR])
    clear hd hl hg hR
    go_enter Try.func38, Try.ntmps38
    go_wp2_with (go_at_call 60; refine H60.out.mono ?_; rintro e1 w1 ⟨rfl, hb1⟩)
    go_ret
    exact ⟨by rw [E.out]; rfl, K.out _ hb1⟩
  | true =>
    rw [if_pos rfl] at H60
    have hps := packTo_size l HSH.out.symm hll
    obtain ⟨S, hS⟩ : ∃ s, s = packTo l := ⟨_, rfl⟩
    rw [← hS] at H60 hR hps
    clear hS
    have h61 := fun W => need_any S (by omega) W
    obtain ⟨n, hn⟩ : ∃ n, n = needN S.size := ⟨_, rfl⟩
    rw [← hn] at hR h61
    have H61 := Lib.hid h61
    by_cases hbig : 256 < n
    · rw [if_pos (.inr hbig)] at hR
      have K := Lib.hid (show ∀ W, Below w.heap.size w W → LeftG w F d g R.2.1 R.2.2 W by intro W hW; rw [hR]; exact leftG_below hd hl hg hW)
      have E := Lib.hid (show R.1 = 20 by rw [hR])
      have q : (256 : Int) < (n : Int) := by omega
      clear hd hl hg hR h61 hn
      go_enter Try.func38, Try.ntmps38
      go_wp2_with (first | (go_at_call 60; refine H60.out.mono ?_; rintro e1 w1 ⟨rfl, hb1⟩) | (go_at_call 61; refine (H61.out _).mono ?_; rintro e2 w2 ⟨rfl, rfl⟩))
      go_ret
      exact ⟨by rw [E.out]; rfl, K.out _ hb1⟩
    · rw [if_neg (by simp; omega)] at hR
      have q : ¬ (256 : Int) < (n : Int) := by omega
      obtain ⟨sd, hsd⟩ : ∃ s, s = if L.epoch = 0 then 0 else 1 - L.side := ⟨_, rfl⟩
      have hsd1 : sd ≤ 1 := by rw [hsd]; split <;> omega
      simp only [← hsd] at hR
      have h62 : ∀ W x y, x = (sd : Int) → y = (L.epoch : Int) + 1 → Below w.heap.size w W → Calls Try.prog 62 #[.pointer (some ⟨g, 0, none⟩), .int .i64 x, .int .i64 0, .agg #[.int .i64 y, .int .i64 0, .int .i64 0, .bool false, .int .i64 0], .string S] W fun e w' =>
          e = .returned (.int .i64 (wrGroup D sd 0 (L.epoch + 1) 0 S).1) ∧ LeftG w F d g (wrGroup D sd 0 (L.epoch + 1) 0 S).2 { L with over := (wrGroup D sd 0 (L.epoch + 1) 0 S).1 != 0 } w' := by
        rintro W x y rfl rfl hW
        have h := lwrite_any g d F D L sd 0 (L.epoch + 1) 0 S W (hd.below hW) (hl.below hW) hg hlen hsd1 (by omega) (by omega) (by omega) (by omega)
        refine h.mono ?_
        rintro e w' ⟨h1, h2⟩
        exact ⟨h1, h2.after hW⟩
      obtain ⟨⟨a, D2⟩, hr⟩ : ∃ r, r = wrGroup D sd 0 (L.epoch + 1) 0 S := ⟨_, rfl⟩
      rw [← hr] at h62 hR
      simp only at hR h62
      have H62 := Lib.hid h62
      have KA : Hid (∀ W, Below w.heap.size w W → W.cell? ⟨g, 1, none⟩ = some (.int .i64 (L.side : Int)) ∧ W.cell? ⟨g, 2, none⟩ = some (.int .i64 (L.epoch : Int))) := fun W hW => ⟨(hl.below hW).c1, (hl.below hW).c2⟩
      have KF : Hid (∀ w3 (SD : Int), SD = (sd : Int) → a = 0 → LeftG w F d g D2 { L with over := a != 0 } w3 → R.1 = 0 ∧ LeftG w F d g R.2.1 R.2.2 ((((w3.setCell ⟨g, 1, none⟩ (.int .i64 SD)).setCell ⟨g, 2, none⟩ (.int .i64 ((L.epoch : Int) + 1))).setCell ⟨g, 3, none⟩ (.int .i64 (n : Int))).setCell ⟨g, 4, none⟩ (.int .i64 1)).drew) := by
        rintro w3 SD rfl ha h
        rw [if_neg (by simpa using ha)] at hR
        rw [hR]
        refine ⟨rfl, ?_⟩
        subst ha
        obtain ⟨F', h1, h2, h3, h4⟩ := (((h.store 1 _ (fun h => h.set_side sd)).store 2 _ (fun h => h.set_epoch (L.epoch + 1))).store 3 _ (fun h => h.set_pos n)).store 4 _ (fun h => h.set_group 1)
        exact ⟨F', h1.below (Below.refl _ _).drew, h2.below (Below.refl _ _).drew, h3, h4.drew⟩
      have KN : Hid (∀ w3, a ≠ 0 → LeftG w F d g D2 { L with over := a != 0 } w3 → R.1 = a ∧ LeftG w F d g R.2.1 R.2.2 w3) := by
        intro w3 ha h
        rw [if_pos ha] at hR
        rw [hR]
        have e1 : (a != 0) = true := by rw [bne_iff_ne]; exact ha
        rw [e1] at h
        exact ⟨rfl, h⟩
      have HWE := Lib.hid (show IntKind.i64.wrap ((L.epoch : Int) + 1) = (L.epoch : Int) + 1 from IntWalk.i64_in _ (by omega))
      have he : (L.epoch = 0 ∧ sd = 0) ∨ (L.epoch ≠ 0 ∧ (sd : Int) = 1 - (L.side : Int)) := by
        by_cases h0 : L.epoch = 0
        · exact .inl ⟨h0, by rw [hsd, if_pos h0]⟩
        · exact .inr ⟨h0, by rw [hsd, if_neg h0]; omega⟩
      have HPS := Lib.hid hps
      clear hd hl hg h61 h62 hn hr hsd hps hbig hR
      rcases he with ⟨he, rfl⟩ | ⟨he, hse⟩
      · have HX := Lib.hid (show (0 : Int) = ((0 : Nat) : Int) from rfl)
        have HY := Lib.hid (show (1 : Int) = (L.epoch : Int) + 1 by omega)
        have KA' : Hid (∀ W, Below w.heap.size w W → W.cell? ⟨g, 1, none⟩ = some (.int .i64 (L.side : Int)) ∧ W.cell? ⟨g, 2, none⟩ = some (.int .i64 0)) := fun W hW => by
          have := KA.out W hW
          rw [he] at this
          exact this
        have KA := KA'
        clear KA'
        have HE := Lib.hid he
        clear he
        by_cases ha : a = 0
        · go_enter Try.func38, Try.ntmps38
          go_wp2_with (first
            | (go_at_call 60; refine H60.out.mono ?_; rintro e1 w1 ⟨rfl, hb1⟩; obtain ⟨k1, k2⟩ := KA.out _ hb1)
            | (go_at_call 61; refine (H61.out _).mono ?_; rintro e2 w2 ⟨rfl, rfl⟩)
            | (go_at_call 62; refine (H62.out _ _ _ HX.out HY.out hb1).mono ?_; rintro e3 w3 ⟨rfl, hL3⟩; have HL3 := Lib.hid hL3; clear hL3; have c2' := HL3.out.log.c2; have c1' := HL3.out.log.c1; have c3' := HL3.out.log.c3; have c4' := HL3.out.log.c4; have f1' := HL3.out.log.fz 1; have f2' := HL3.out.log.fz 2; have f3' := HL3.out.log.fz 3; have f4' := HL3.out.log.fz 4))
          go_region_with (go_at_call 61; refine (H61.out _).mono ?_; rintro e4 w4 ⟨rfl, rfl⟩)
          all_goals
            rw [HWE.out]
            have K := Lib.hid (KF.out w3 _ HX.out ha HL3.out)
            go_wp2_with fail
            go_ret
            exact ⟨by rw [K.out.1]; rfl, K.out.2⟩
        · have hb : (a != 0) = true := by rw [bne_iff_ne]; exact ha
          go_enter Try.func38, Try.ntmps38
          go_wp2_with (first
            | (go_at_call 60; refine H60.out.mono ?_; rintro e1 w1 ⟨rfl, hb1⟩; obtain ⟨k1, k2⟩ := KA.out _ hb1)
            | (go_at_call 61; refine (H61.out _).mono ?_; rintro e2 w2 ⟨rfl, rfl⟩)
            | (go_at_call 62; refine (H62.out _ _ _ HX.out HY.out hb1).mono ?_; rintro e3 w3 ⟨rfl, hL3⟩; have HL3 := Lib.hid hL3; clear hL3))
          go_ret
          obtain ⟨r1, r2⟩ := KN.out _ ha HL3.out
          exact ⟨by rw [r1]; rfl, r2⟩
      · have p1 : ((L.epoch : Int) == 0) = false := by rw [beq_eq_false_iff_ne]; omega
        have HX := Lib.hid hse.symm
        clear hse
        by_cases ha : a = 0
        · go_enter Try.func38, Try.ntmps38
          go_wp2_with (first
            | (go_at_call 60; refine H60.out.mono ?_; rintro e1 w1 ⟨rfl, hb1⟩; obtain ⟨k1, k2⟩ := KA.out _ hb1)
            | (go_at_call 61; refine (H61.out _).mono ?_; rintro e2 w2 ⟨rfl, rfl⟩)
            | (go_at_call 62; refine (H62.out _ _ _ HX.out rfl hb1).mono ?_; rintro e3 w3 ⟨rfl, hL3⟩; have HL3 := Lib.hid hL3; clear hL3; have c1' := HL3.out.log.c1; have c2' := HL3.out.log.c2; have c3' := HL3.out.log.c3; have c4' := HL3.out.log.c4; have f1' := HL3.out.log.fz 1; have f2' := HL3.out.log.fz 2; have f3' := HL3.out.log.fz 3; have f4' := HL3.out.log.fz 4))
          go_region_with (go_at_call 61; refine (H61.out _).mono ?_; rintro e4 w4 ⟨rfl, rfl⟩)
          all_goals
            rw [HWE.out]
            have K := Lib.hid (KF.out w3 _ HX.out ha HL3.out)
            go_wp2_with fail
            go_ret
            exact ⟨by rw [K.out.1]; rfl, K.out.2⟩
        · have hb : (a != 0) = true := by rw [bne_iff_ne]; exact ha
          go_enter Try.func38, Try.ntmps38
          go_wp2_with (first
            | (go_at_call 60; refine H60.out.mono ?_; rintro e1 w1 ⟨rfl, hb1⟩; obtain ⟨k1, k2⟩ := KA.out _ hb1)
            | (go_at_call 61; refine (H61.out _).mono ?_; rintro e2 w2 ⟨rfl, rfl⟩)
            | (go_at_call 62; refine (H62.out _ _ _ HX.out rfl hb1).mono ?_; rintro e3 w3 ⟨rfl, hL3⟩; have HL3 := Lib.hid hL3; clear hL3))
          go_ret
          obtain ⟨r1, r2⟩ := KN.out _ ha HL3.out
          exact ⟨by rw [r1]; rfl, r2⟩
end Go.Proofs.Ytddaiihhhajieaa
