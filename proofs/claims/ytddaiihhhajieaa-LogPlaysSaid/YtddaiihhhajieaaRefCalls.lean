/- The walks of the document's Renew and Append. -/
import Derived.Test.YtddaiihhhajieaaRefWrite
namespace Go.Proofs.Ytddaiihhhajieaa
open Go.RowKit Go.Maps

theorem wr_code (D : Dk) (n : Nat) (hn : n < 512) (s : ByteArray) (hs : s.size = 64) : (D.wr n s).1 = 0 ∨ (D.wr n s).1 = 21 := by
  unfold Dk.wr
  split
  · exact .inr rfl
  split
  · omega
  split
  · exact .inr rfl
  · exact .inl rfl
theorem wrParts_code {side pos epoch group n : Nat} {s : ByteArray} (f : Nat) : ∀ (k : Nat) (D : Dk), 256 * side + pos + k + f ≤ 512 → (wrParts side pos epoch group n s f k D).1 = 0 ∨ (wrParts side pos epoch group n s f k D).1 = 21 := by
  induction f with
  | zero => exact fun _ _ _ => .inl rfl
  | succ f ih =>
    intro k D hb
    have h := wr_code D (256 * side + pos + k) (by omega) ((hdAt epoch group n s k).block (partOf s k)) (block_size _ _ (partOf_le s k))
    unfold wrParts
    simp only
    split
    · exact h
    · exact ih (k + 1) _ (by omega)
theorem wrGroup_code (D : Dk) {side pos epoch group : Nat} {s : ByteArray} (hb : 256 * side + pos + needN s.size ≤ 512) : (wrGroup D side pos epoch group s).1 = 0 ∨ (wrGroup D side pos epoch group s).1 = 21 := by
  have h := wrParts_code (side := side) (pos := pos) (epoch := epoch) (group := group) (n := needN s.size) (s := s) (needN s.size) 0 D (by omega)
  unfold wrGroup
  simp only
  split
  · exact h
  · unfold Dk.sync
    split
    · exact .inr rfl
    split
    · exact .inr rfl
    · exact .inl rfl
theorem wcode_id {a : Int} (h : a = 0 ∨ a = 21) : wcode a = a := by
  rcases h with rfl | rfl <;> rfl

section
variable {w w' : World} {G : Foot} {r q N : Nat} {D : Dk} {L : Lg} {Lp : Puts}
theorem leftQ_below (hd : IsRef w r G D Lp) (ha : Agree D Lp) (hN : Lp.length + D.wait.length ≤ N) (hl : RLogAt w q r L) (hg : ¬ G q) (hb : Below w.heap.size w w') : LeftQ w G r q D L N w' :=
  ⟨G, Lp, hd.below hb, ha, hN, hl.below hb, hg, (Moves.refl _ _).below hb⟩
theorem LeftQ.after {w0 : World} (hb : Below w0.heap.size w0 w) (h : LeftQ w G r q D L N w') : LeftQ w0 G r q D L N w' := by
  obtain ⟨G', Lp, h1, h2, h3, h4, h5, h6⟩ := h
  exact ⟨G', Lp, h1, h2, h3, h4, h5, ((Moves.refl _ _).below hb).trans h6⟩
theorem LeftQ.log {w0 : World} (h : LeftQ w0 G r q D L N w) : RLogAt w q r L := by
  obtain ⟨G', Lp, _, _, _, h4, _⟩ := h
  exact h4
theorem LeftQ.store {w0 : World} {L' : Lg} (h : LeftQ w0 G r q D L N w) (i : Nat) (v : Value) (hs : RLogAt w q r L → RLogAt (w.setCell ⟨q, i, none⟩ v) q r L') : LeftQ w0 G r q D L' N (w.setCell ⟨q, i, none⟩ v) := by
  obtain ⟨G', Lp, h1, h2, h3, h4, h5, h6⟩ := h
  exact ⟨G', Lp, h1.stay fun j hj => Below.heap_setCell _ _ _ _ (by rintro rfl; exact h5 hj), h2, h3, hs h4, h5, h6.setCell (p := ⟨q, i, none⟩) (.inl (.inr rfl)) _⟩
theorem LeftQ.below {w0 w'' : World} (h : LeftQ w0 G r q D L N w) (hb : Below w.heap.size w w'') : LeftQ w0 G r q D L N w'' := by
  obtain ⟨G', Lp, h1, h2, h3, h4, h5, h6⟩ := h
  exact ⟨G', Lp, h1.below hb, h2, h3, h4.below hb, h5, h6.below hb⟩
end

set_option maxHeartbeats 4000000 in
set_option maxRecDepth 100000 in
theorem rrenew_any (q r : Nat) (G : Foot) (D : Dk) (Lp : Puts) (L : Lg) (v : Value) (l : List ByteArray) (w : World) (hd : IsRef w r G D Lp) (ha : Agree D Lp) (hfi : D.Fine) (hl : RLogAt w q r L) (hg : ¬ G q) (hlen : Lp.length + D.wait.length < 1000000000000) (hf : LgFine L)
    (hv : IsStrs w v l) (hll : l.length ≤ 1000000000) :
    Calls Try.prog 42 #[.pointer (some ⟨q, 0, none⟩), v] w fun e w' => e = .returned (.int .i64 (renewL D L l).1) ∧ LeftQ w G r q (renewL D L l).2.1 (renewL D L l).2.2 (Lp.length + D.wait.length + 256) w' := by
  obtain ⟨f1, f2, f3, f4⟩ := hf
  obtain ⟨M, hM⟩ : ∃ M, M = Lp.length + D.wait.length + 256 := ⟨_, rfl⟩
  have hM1 : Lp.length + D.wait.length ≤ M := by omega
  rw [← hM]
  obtain ⟨R, hR⟩ : ∃ R, R = renewL D L l := ⟨_, rfl⟩
  rw [← hR]
  unfold renewL at hR
  have c5 := hl.c5
  by_cases ho : L.over = true
  · rw [if_pos ho] at hR
    have K := Lib.hid (show LeftQ w G r q R.2.1 R.2.2 M w by rw [hR]; exact leftQ_below hd ha hM1 hl hg (Below.refl _ _))
    have E := Lib.hid (show R.1 = 23 by rw [hR])
    rw [ho] at c5
    clear hd hl hg hR hv ha hfi hM hM1
    go_enter Try.func42, Try.ntmps42
    go_wp2_with fail
    go_ret
    exact ⟨by rw [E.out]; rfl, K.out⟩
  rw [if_neg ho] at hR
  rw [Bool.not_eq_true] at ho
  rw [ho] at c5
  have H65 := Lib.hid (rbytes_any v l hv hll)
  clear hv
  obtain ⟨sh, hsh⟩ : ∃ b, b = short l := ⟨_, rfl⟩
  unfold packV at H65
  rw [← hsh] at H65 hR
  have HSH := Lib.hid hsh
  clear hsh
  cases sh with
  | false =>
    rw [if_pos (.inl rfl)] at hR
    rw [if_neg (by simp)] at H65
    have K := Lib.hid (show ∀ W, Below w.heap.size w W → LeftQ w G r q R.2.1 R.2.2 M W by intro W hW; rw [hR]; exact leftQ_below hd ha hM1 hl hg hW)
    have E := Lib.hid (show R.1 = 20 by rw [hR])
    clear hd hl hg hR ha hfi hM hM1
    go_enter Try.func42, Try.ntmps42
    go_wp2_with (go_at_call 65; refine H65.out.mono ?_; rintro e1 w1 ⟨rfl, hb1⟩)
    go_ret
    exact ⟨by rw [E.out]; rfl, K.out _ hb1⟩
  | true =>
    rw [if_pos rfl] at H65
    have hps := packTo_size l HSH.out.symm hll
    obtain ⟨S, hS⟩ : ∃ s, s = packTo l := ⟨_, rfl⟩
    rw [← hS] at H65 hR hps
    clear hS
    have h66 := fun W => rneed_any S (by omega) W
    obtain ⟨n, hn⟩ : ∃ n, n = needN S.size := ⟨_, rfl⟩
    rw [← hn] at hR h66
    have H66 := Lib.hid h66
    by_cases hbig : 256 < n
    · rw [if_pos (.inr hbig)] at hR
      have K := Lib.hid (show ∀ W, Below w.heap.size w W → LeftQ w G r q R.2.1 R.2.2 M W by intro W hW; rw [hR]; exact leftQ_below hd ha hM1 hl hg hW)
      have E := Lib.hid (show R.1 = 20 by rw [hR])
      have q0 : (256 : Int) < (n : Int) := by omega
      clear hd hl hg hR h66 hn ha hfi hM hM1 hps
      go_enter Try.func42, Try.ntmps42
      go_wp2_with (first
        | (go_at_call 65; refine H65.out.mono ?_; rintro e1 w1 ⟨rfl, hb1⟩)
        | (go_at_call 66; refine (H66.out _).mono ?_; rintro e2 w2 ⟨rfl, rfl⟩))
      go_ret
      exact ⟨by rw [E.out]; rfl, K.out _ hb1⟩
    · rw [if_neg (by simp; omega)] at hR
      have q0 : ¬ (256 : Int) < (n : Int) := by omega
      obtain ⟨sd, hsd⟩ : ∃ s, s = if L.epoch = 0 then 0 else 1 - L.side := ⟨_, rfl⟩
      have hsd1 : sd ≤ 1 := by rw [hsd]; split <;> omega
      simp only [← hsd] at hR
      have hcode := wrGroup_code D (side := sd) (pos := 0) (epoch := L.epoch + 1) (group := 0) (s := S) (by omega)
      have h67 : ∀ W x y, x = 256 * (sd : Int) → y = (L.epoch : Int) + 1 → Below w.heap.size w W → Calls Try.prog 67 #[.pointer (some ⟨q, 0, none⟩), .int .i64 x, .int .i64 y, .int .i64 0, .string S] W fun e w' =>
          e = .returned (.int .i64 (wcode (wrGroup D sd 0 (L.epoch + 1) 0 S).1)) ∧ LeftQ w G r q (wrGroup D sd 0 (L.epoch + 1) 0 S).2 (wover (wrGroup D sd 0 (L.epoch + 1) 0 S).1 L) M w' := by
        rintro W x y hx rfl hW
        have h := rlwrite_any q r G D Lp L sd 0 (L.epoch + 1) 0 S x (by rw [hx]; simp) W (hd.below hW) ha hfi (hl.below hW) hg hlen hsd1 (by omega) (by omega) (by omega) (by omega)
        rw [← hM] at h
        refine h.mono ?_
        rintro e w' ⟨h1, h2⟩
        exact ⟨h1, h2.after hW⟩
      obtain ⟨⟨a, D2⟩, hr⟩ : ∃ r, r = wrGroup D sd 0 (L.epoch + 1) 0 S := ⟨_, rfl⟩
      rw [← hr] at h67 hR hcode
      simp only at hR h67 hcode
      rw [wcode_id hcode] at h67
      have H67 := Lib.hid h67
      have KA : Hid (∀ W, Below w.heap.size w W → W.cell? ⟨q, 1, none⟩ = some (.int .i64 (L.side : Int)) ∧ W.cell? ⟨q, 2, none⟩ = some (.int .i64 (L.epoch : Int))) := fun W hW => ⟨(hl.below hW).c1, (hl.below hW).c2⟩
      have KF : Hid (∀ w3 (SD : Int), SD = (sd : Int) → a = 0 → LeftQ w G r q D2 (wover a L) M w3 → R.1 = 0 ∧ LeftQ w G r q R.2.1 R.2.2 M ((((w3.setCell ⟨q, 1, none⟩ (.int .i64 SD)).setCell ⟨q, 2, none⟩ (.int .i64 ((L.epoch : Int) + 1))).setCell ⟨q, 3, none⟩ (.int .i64 (n : Int))).setCell ⟨q, 4, none⟩ (.int .i64 1))) := by
        rintro w3 SD rfl ha0 h
        rw [if_neg (by simpa using ha0)] at hR
        rw [hR]
        refine ⟨rfl, ?_⟩
        subst ha0
        rw [wover_zero] at h
        have h9 := (((h.store 1 _ (fun h => h.set_side sd)).store 2 _ (fun h => h.set_epoch (L.epoch + 1))).store 3 _ (fun h => h.set_pos n)).store 4 _ (fun h => h.set_group 1)
        rw [ho] at h9
        exact h9
      have KN : Hid (∀ w3, a ≠ 0 → LeftQ w G r q D2 (wover a L) M w3 → R.1 = a ∧ LeftQ w G r q R.2.1 R.2.2 M w3) := by
        intro w3 ha0 h
        rw [if_pos ha0] at hR
        rw [hR]
        rw [wover_ne ha0] at h
        exact ⟨rfl, h⟩
      have KL : Hid (∀ w3, a = 0 → LeftQ w G r q D2 (wover a L) M w3 → RLogAt w3 q r L) := by
        intro w3 ha0 h
        have := h.log
        rw [ha0, wover_zero] at this
        exact this
      have he : (L.epoch = 0 ∧ sd = 0) ∨ (L.epoch ≠ 0 ∧ (sd : Int) = 1 - (L.side : Int)) := by
        by_cases h0 : L.epoch = 0
        · exact .inl ⟨h0, by rw [hsd, if_pos h0]⟩
        · exact .inr ⟨h0, by rw [hsd, if_neg h0]; omega⟩
      have HPS := Lib.hid hps
      clear hd hl hg h66 h67 hn hr hsd hps hbig hR ha hfi hM hM1 hcode
      rcases he with ⟨he, rfl⟩ | ⟨he, hse⟩
      · have HX := Lib.hid (show (0 : Int) = ((0 : Nat) : Int) from rfl)
        have HX0 := Lib.hid (show (0 : Int) = 256 * ((0 : Nat) : Int) from rfl)
        have HY := Lib.hid (show (1 : Int) = (L.epoch : Int) + 1 by omega)
        have KA' : Hid (∀ W, Below w.heap.size w W → W.cell? ⟨q, 1, none⟩ = some (.int .i64 (L.side : Int)) ∧ W.cell? ⟨q, 2, none⟩ = some (.int .i64 0)) := fun W hW => by
          have := KA.out W hW
          rw [he] at this
          exact this
        have KA := KA'
        clear KA'
        have HE := Lib.hid he
        clear he
        by_cases ha : a = 0
        · go_enter Try.func42, Try.ntmps42
          go_wp2_with (first
            | (go_at_call 65; refine H65.out.mono ?_; rintro e1 w1 ⟨rfl, hb1⟩; obtain ⟨k1, k2⟩ := KA.out _ hb1)
            | (go_at_call 66; refine (H66.out _).mono ?_; rintro e2 w2 ⟨rfl, rfl⟩)
            | (go_at_call 67; refine (H67.out _ _ _ HX0.out HY.out hb1).mono ?_; rintro e3 w3 ⟨rfl, hL3⟩; have HL3 := Lib.hid hL3; have hlg := KL.out _ ha hL3; clear hL3; have c1' := hlg.c1; have c2' := hlg.c2; have c3' := hlg.c3; have c4' := hlg.c4; have f1' := hlg.fz 1; have f2' := hlg.fz 2; have f3' := hlg.fz 3; have f4' := hlg.fz 4; clear hlg))
          go_ret
          obtain ⟨r1, r2⟩ := KF.out _ _ HX.out ha HL3.out
          exact ⟨by rw [r1]; rfl, r2⟩
        · have hb : (a == 0) = false := by rw [beq_eq_false_iff_ne]; exact ha
          go_enter Try.func42, Try.ntmps42
          go_wp2_with (first
            | (go_at_call 65; refine H65.out.mono ?_; rintro e1 w1 ⟨rfl, hb1⟩; obtain ⟨k1, k2⟩ := KA.out _ hb1)
            | (go_at_call 66; refine (H66.out _).mono ?_; rintro e2 w2 ⟨rfl, rfl⟩)
            | (go_at_call 67; refine (H67.out _ _ _ HX0.out HY.out hb1).mono ?_; rintro e3 w3 ⟨rfl, hL3⟩; have HL3 := Lib.hid hL3; clear hL3))
          go_ret
          obtain ⟨r1, r2⟩ := KN.out _ ha HL3.out
          exact ⟨by rw [r1]; rfl, r2⟩
      · have p1 : ((L.epoch : Int) == 0) = false := by rw [beq_eq_false_iff_ne]; omega
        have HX := Lib.hid hse.symm
        have HX0 := Lib.hid (show 256 * (1 - (L.side : Int)) = 256 * (sd : Int) by rw [hse])
        clear hse
        by_cases ha : a = 0
        · go_enter Try.func42, Try.ntmps42
          go_wp2_with (first
            | (go_at_call 65; refine H65.out.mono ?_; rintro e1 w1 ⟨rfl, hb1⟩; obtain ⟨k1, k2⟩ := KA.out _ hb1)
            | (go_at_call 66; refine (H66.out _).mono ?_; rintro e2 w2 ⟨rfl, rfl⟩)
            | (go_at_call 67; refine (H67.out _ _ _ HX0.out rfl hb1).mono ?_; rintro e3 w3 ⟨rfl, hL3⟩; have HL3 := Lib.hid hL3; have hlg := KL.out _ ha hL3; clear hL3; have c1' := hlg.c1; have c2' := hlg.c2; have c3' := hlg.c3; have c4' := hlg.c4; have f1' := hlg.fz 1; have f2' := hlg.fz 2; have f3' := hlg.fz 3; have f4' := hlg.fz 4; clear hlg))
          go_ret
          obtain ⟨r1, r2⟩ := KF.out _ _ HX.out ha HL3.out
          exact ⟨by rw [r1]; rfl, r2⟩
        · have hb : (a == 0) = false := by rw [beq_eq_false_iff_ne]; exact ha
          go_enter Try.func42, Try.ntmps42
          go_wp2_with (first
            | (go_at_call 65; refine H65.out.mono ?_; rintro e1 w1 ⟨rfl, hb1⟩; obtain ⟨k1, k2⟩ := KA.out _ hb1)
            | (go_at_call 66; refine (H66.out _).mono ?_; rintro e2 w2 ⟨rfl, rfl⟩)
            | (go_at_call 67; refine (H67.out _ _ _ HX0.out rfl hb1).mono ?_; rintro e3 w3 ⟨rfl, hL3⟩; have HL3 := Lib.hid hL3; clear hL3))
          go_ret
          obtain ⟨r1, r2⟩ := KN.out _ ha HL3.out
          exact ⟨by rw [r1]; rfl, r2⟩
end Go.Proofs.Ytddaiihhhajieaa
