/- The walk of the document's write. -/
import Derived.Test.YtddaiihhhajieaaRefLog2
import Derived.Test.YtddaiihhhajieaaLogRenews
namespace Go.Proofs.Ytddaiihhhajieaa
open Go.RowKit Go.Maps

/-- the document's log in memory: it is of the disk r -/
def RLogAt (w : World) (q r : Nat) (L : Lg) : Prop :=
  Blk w q 68 #[.pointer (some ⟨r, 0, none⟩), .int .i64 (L.side : Int), .int .i64 (L.epoch : Int), .int .i64 (L.pos : Int), .int .i64 (L.group : Int), .bool L.over]
section
variable {w w' : World} {q r : Nat} {L : Lg}
theorem RLogAt.c0 (h : RLogAt w q r L) : w.cell? ⟨q, 0, none⟩ = some (.pointer (some ⟨r, 0, none⟩)) := (Blk.cell h 0).trans rfl
theorem RLogAt.c1 (h : RLogAt w q r L) : w.cell? ⟨q, 1, none⟩ = some (.int .i64 (L.side : Int)) := (Blk.cell h 1).trans rfl
theorem RLogAt.c2 (h : RLogAt w q r L) : w.cell? ⟨q, 2, none⟩ = some (.int .i64 (L.epoch : Int)) := (Blk.cell h 2).trans rfl
theorem RLogAt.c3 (h : RLogAt w q r L) : w.cell? ⟨q, 3, none⟩ = some (.int .i64 (L.pos : Int)) := (Blk.cell h 3).trans rfl
theorem RLogAt.c4 (h : RLogAt w q r L) : w.cell? ⟨q, 4, none⟩ = some (.int .i64 (L.group : Int)) := (Blk.cell h 4).trans rfl
theorem RLogAt.c5 (h : RLogAt w q r L) : w.cell? ⟨q, 5, none⟩ = some (.bool L.over) := (Blk.cell h 5).trans rfl
theorem RLogAt.fz (h : RLogAt w q r L) (k : Nat) : w.frozen? ⟨q, k, none⟩ = false := Blk.frozen h k
theorem RLogAt.lt (h : RLogAt w q r L) : q < w.heap.size := Blk.lt h
theorem RLogAt.stay (h : RLogAt w q r L) (hk : w'.heap[q]? = w.heap[q]?) : RLogAt w' q r L := Blk.stay h hk
theorem RLogAt.below (h : RLogAt w q r L) (hb : Below w.heap.size w w') : RLogAt w' q r L := h.stay (hb.block q h.lt)
theorem RLogAt.set_side (h : RLogAt w q r L) (x : Nat) : RLogAt (w.setCell ⟨q, 1, none⟩ (.int .i64 (x : Int))) q r { L with side := x } := Blk.set_ h 1 _
theorem RLogAt.set_epoch (h : RLogAt w q r L) (x : Nat) : RLogAt (w.setCell ⟨q, 2, none⟩ (.int .i64 (x : Int))) q r { L with epoch := x } := Blk.set_ h 2 _
theorem RLogAt.set_pos (h : RLogAt w q r L) (x : Nat) : RLogAt (w.setCell ⟨q, 3, none⟩ (.int .i64 (x : Int))) q r { L with pos := x } := Blk.set_ h 3 _
theorem RLogAt.set_group (h : RLogAt w q r L) (x : Nat) : RLogAt (w.setCell ⟨q, 4, none⟩ (.int .i64 (x : Int))) q r { L with group := x } := Blk.set_ h 4 _
theorem RLogAt.set_over (h : RLogAt w q r L) (x : Bool) : RLogAt (w.setCell ⟨q, 5, none⟩ (.bool x)) q r { L with over := x } := Blk.set_ h 5 _
end
theorem fine_wr {D : Dk} (h : D.Fine) (n : Int) (s : ByteArray) : (D.wr n s).2.Fine := by
  obtain ⟨h1, h2, h3⟩ := h
  unfold Dk.wr
  split
  · exact ⟨h1, h2, h3⟩
  split
  · exact ⟨h1, h2, h3⟩
  rename_i hb
  split
  · exact ⟨by show -1 ≤ max (D.arm - 1) (-1); omega, by show max (D.arm - 1) (-1) ≤ _; omega, h3⟩
  · refine ⟨by show -1 ≤ max (D.arm - 1) (-1); omega, by show max (D.arm - 1) (-1) ≤ _; omega, fun p hp => ?_⟩
    rcases List.mem_append.1 hp with hp | hp
    · exact h3 p hp
    · obtain rfl : p = (n.toNat, s) := by simpa using hp
      show n.toNat < 512
      omega
/-- what a call of the document's log leaves: its disk reads as D, with n blocks more laid at most -/
def LeftQ (w : World) (G : Foot) (r q : Nat) (D : Dk) (L : Lg) (N : Nat) (w' : World) : Prop :=
  ∃ G' Lp, IsRef w' r G' D Lp ∧ Agree D Lp ∧ Lp.length + D.wait.length ≤ N ∧ RLogAt w' q r L ∧ ¬ G' q ∧ Moves w w' (Un G (fun k => k = q)) (Un G' (fun k => k = q))

/-- the document's write tells 21 of every failure -/
def wcode (a : Int) : Int := if a ≠ 0 then 21 else 0
def wover (a : Int) (L : Lg) : Lg := if a ≠ 0 then { L with over := true } else L
theorem wcode_ne {a : Int} (h : a ≠ 0) : wcode a = 21 := if_pos h
theorem wover_ne {a : Int} (h : a ≠ 0) (L : Lg) : wover a L = { L with over := true } := if_pos h
theorem wcode_zero : wcode 0 = 0 := rfl
theorem wover_zero (L : Lg) : wover 0 L = L := rfl

set_option maxHeartbeats 4000000 in
set_option maxRecDepth 100000 in
theorem rlwrite_any (q r : Nat) (G : Foot) (D : Dk) (Lp : Puts) (L : Lg) (side pos epoch group : Nat) (s : ByteArray) (x0 : Int) (hx0 : x0 = 256 * (side : Int) + (pos : Int)) (w : World) (hd : IsRef w r G D Lp) (ha : Agree D Lp) (hfi : D.Fine) (hl : RLogAt w q r L) (hg : ¬ G q)
    (hlen : Lp.length + D.wait.length < 1000000000000) (hs : side ≤ 1) (hp : pos ≤ 256) (he : epoch ≤ 1099511627777) (hgr : group ≤ 4294967296) (hn : needN s.size ≤ 256) :
    Calls Try.prog 67 #[.pointer (some ⟨q, 0, none⟩), .int .i64 x0, .int .i64 epoch, .int .i64 group, .string s] w fun e w' =>
      e = .returned (.int .i64 (wcode (wrGroup D side pos epoch group s).1)) ∧ LeftQ w G r q (wrGroup D side pos epoch group s).2 (wover (wrGroup D side pos epoch group s).1 L) (Lp.length + D.wait.length + 256) w' := by
  obtain ⟨R, hR⟩ : ∃ R, R = wrGroup D side pos epoch group s := ⟨_, rfl⟩
  rw [← hR]
  obtain ⟨N, hN⟩ : ∃ N, N = needN s.size := ⟨_, rfl⟩
  have hR0 : R = wrRest side pos epoch group N s N 0 D := by rw [hR, hN]; rfl
  have h66 := fun W => rneed_any s (by have := needN_le (n := s.size); omega) W
  rw [← hN] at h66
  have H66 := Lib.hid h66
  have hN256 : N ≤ 256 := by omega
  have HN := Lib.hid hN
  have hx1 : 0 ≤ x0 ∧ x0 ≤ 512 := by omega
  have HX0 := Lib.hid hx0
  have HGQ := Lib.hid hg
  have HQL := Lib.hid hl.lt
  have I0 : Hid (IsRef w r G D Lp ∧ RLogAt w q r L ∧ Agree D Lp ∧ D.Fine) := ⟨hd, hl, ha, hfi⟩
  have HLN := Lib.hid hlen
  have HR := Lib.hid hR0
  clear hd hl ha hfi hg hR hR0 hN h66 hx0 hlen hn
  go_enter Try.func67, Try.ntmps67
  go_wp2_with (go_at_call 66; refine (H66.out _).mono ?_; rintro e1 w1 ⟨rfl, rfl⟩)
  go_loopw [12] (fun iv wr => ∃ k D1 G1, k ≤ N ∧ iv = .int .i64 (k : Nat) ∧ IsRef wr r G1 D1 Lp ∧ Agree D1 Lp ∧ D1.Fine ∧ RLogAt wr q r L ∧ ¬ G1 q ∧ Moves w wr G G1 ∧ D1.wait.length ≤ D.wait.length + k ∧ R = wrRest side pos epoch group N s (N - k) k D1) (fun iv _ => N - (intOf iv).toNat)
  case atStart => exact ⟨0, D, G, by omega, rfl, I0.out.1, I0.out.2.2.1, I0.out.2.2.2, I0.out.2.1, HGQ.out, Moves.refl _ _, by omega, HR.out⟩
  case round =>
    obtain ⟨k, D1, G1, hk, rfl, hd1, ha1, hf1, hl1, hnq, hm, hwl, hRk⟩ := hrel
    have c0 := hl1.c0
    have f5 := hl1.fz 5
    have c5 := hl1.c5
    by_cases hlt : k < N
    · have h52 : 52 * k ≤ s.size := by
        have := HN.out
        cases k with
        | zero => omega
        | succ k => have := need_lt (n := s.size) (k := k) (by omega); omega
      have hPs : (partOf s k).size = min (52 * k + 52) s.size - 52 * k := partOf_size s k
      obtain ⟨P, hP⟩ : ∃ P, P = partOf s k := ⟨_, rfl⟩
      rw [← hP] at hPs
      have hP52 : P.size ≤ 52 := by omega
      obtain ⟨Bk, hBk⟩ : ∃ b, b = (hdAt epoch group N s k).block (partOf s k) := ⟨_, rfl⟩
      have h87 : ∀ W bl S, bl = (k + 1 == N) → S = P → Calls Try.prog 87 #[.int .i64 epoch, .int .i64 group, .int .i64 k, .bool bl, .string S] W fun e w' => e = .returned (.string Bk) ∧ Below W.heap.size W w' := by
        rintro W bl S rfl hS
        rw [hS]
        have h := rblock_any epoch group k (k + 1 == N) P (by omega) (by omega) (by omega) hP52 W
        have e : (⟨epoch, group, k, k + 1 == N, P.size⟩ : Hd).block P = Bk := by rw [hBk, hP]; rfl
        rw [e] at h
        exact h
      obtain ⟨⟨a, D2⟩, hr⟩ : ∃ r, r = D1.wr ((256 * side + pos + k : Nat) : Int) Bk := ⟨_, rfl⟩
      have hRk' : R = (if a ≠ 0 then (a, D2) else wrRest side pos epoch group N s (N - (k + 1)) (k + 1) D2) := by
        rw [hRk]
        obtain ⟨f, hf⟩ : ∃ f, N - k = f + 1 := ⟨N - k - 1, by omega⟩
        have hf2 : N - (k + 1) = f := by omega
        rw [hf, hf2]
        unfold wrRest
        conv => lhs; unfold wrParts
        rw [← hBk, ← hr]
        by_cases ha : a ≠ 0
        · simp only [if_pos ha]
        · simp only [if_neg ha]
      have h56 : ∀ W x, x = 256 * (side : Int) + (pos : Int) + (k : Int) → Below wr.heap.size wr W → Calls Try.prog 56 #[.pointer (some ⟨r, 0, none⟩), .int .i64 x, .string Bk] W fun e w' => e = .returned (.int .i64 a) ∧ LeftR W G1 r D2 Lp w' := by
        rintro W x rfl hb
        have h := rwrite_any r G1 D1 Lp ((256 * side + pos + k : Nat) : Int) Bk W (hd1.below hb) hf1 (by have := HLN.out; omega)
        rw [← hr] at h
        have ec : ((256 * side + pos + k : Nat) : Int) = 256 * (side : Int) + (pos : Int) + (k : Int) := by omega
        rw [ec] at h
        exact h
      have hagree := agree_wr ha1 ((256 * side + pos + k : Nat) : Int) Bk
      have hfine2 := fine_wr hf1 ((256 * side + pos + k : Nat) : Int) Bk
      have hwl2 := wr_wait D1 ((256 * side + pos + k : Nat) : Int) Bk
      rw [← hr] at hagree hfine2 hwl2
      have HP2 : Hid (Agree D2 Lp ∧ D2.Fine ∧ D2.wait.length ≤ D.wait.length + (k + 1)) := ⟨hagree, hfine2, by simp only at hwl2; omega⟩
      have g1 : IntKind.i64.wrap (52 * (k : Int)) = 52 * (k : Int) := IntWalk.i64_in _ (by omega)
      have g2 : IntKind.i64.wrap (52 * (k : Int) + 52) = 52 * (k : Int) + 52 := IntWalk.i64_in _ (by omega)
      have g3 : IntKind.i64.wrap (x0 + (k : Int)) = x0 + (k : Int) := IntWalk.i64_in _ (by omega)
      have g4 : IntKind.i64.wrap ((N : Int) - 1) = (N : Int) - 1 := IntWalk.i64_in _ (by omega)
      have q1 : (0 : Int) ≤ 52 * (k : Int) := by omega
      have q2 : 52 * (k : Int) ≤ min (52 * (k : Int) + 52) (s.size : Int) := by omega
      have q3 : min (52 * (k : Int) + 52) (s.size : Int) ≤ (s.size : Int) := by omega
      have q4 : (k : Int) < (N : Int) := by omega
      have H56 := Lib.hid h56
      have H87 := Lib.hid h87
      have HRk := Lib.hid hRk'
      have HD1 := Lib.hid hd1
      have HL1 := Lib.hid hl1
      have HM := Lib.hid hm
      have HPe := Lib.hid (show s.extract (52 * (k : Int)).toNat (min (52 * (k : Int) + 52) (s.size : Int)).toNat = P by
        have e1 : (52 * (k : Int)).toNat = 52 * k := by omega
        have e2 : (min (52 * (k : Int) + 52) (s.size : Int)).toNat = min (52 * k + 52) s.size := by omega
        rw [hP, partOf_eq, e1, e2]
        ext1
        simp only [ByteArray.data_extract]
        apply Array.ext
        · have : s.data.size = s.size := rfl
          simp
        · intro i h1 h2; simp)
      have HXK := Lib.hid (show x0 + (k : Int) = 256 * (side : Int) + (pos : Int) + (k : Int) by rw [HX0.out])
      have HLA := Lib.hid (show ((k : Int) == (N : Int) - 1) = (k + 1 == N) by rw [Bool.eq_iff_iff, beq_iff_eq, beq_iff_eq]; omega)
      have B0 := Lib.hid ((Below.refl wr.heap.size wr).drew)
      have Q0 := Lib.hid (show wr.drew.cell? ⟨q, 0, none⟩ = some (.pointer (some ⟨r, 0, none⟩)) from c0)
      clear hd1 ha1 hf1 hl1 hm hRk hr hBk hRk' h56 h87 hagree hfine2 hwl2 hP hPs
      go_wp2_with fail
      go_region_held3 (fun W => W.cell? ⟨q, 0, none⟩ = some (.pointer (some ⟨r, 0, none⟩))) (first | (with_reducible exact Q0.out) | (with_reducible exact y0))
        (first
         | (go_at_call 87; refine (H87.out _ _ _ (by exact HLA.out) (by exact HPe.out)).mono ?_; rintro e1 w1 ⟨rfl, b1⟩; have b2 := Lib.hid (B0.out.trans (b1.mono B0.out.size)); have y0 := (HL1.out.below b2.out).c0)
         | (go_at_call 56; refine (H56.out _ _ (by exact HXK.out) b2.out).mono ?_; rintro e2 w2 ⟨rfl, G2, hd2, hm2⟩; have y0 := (HL1.out.stay ((hm2.keep _ (Nat.lt_of_lt_of_le HL1.out.lt b2.out.size) hnq).trans (b2.out.block _ HL1.out.lt))).c0))
      all_goals
        have HL2 := Lib.hid (HL1.out.stay ((hm2.keep _ (Nat.lt_of_lt_of_le HL1.out.lt b2.out.size) hnq).trans (b2.out.block _ HL1.out.lt)))
        have HM2 := Lib.hid ((HM.out.below b2.out).trans hm2)
        have HN2 : Hid (¬ G2 q) := fun hf => (hm2.fresh _ hf).elim hnq (fun h => by have := HL1.out.lt; have := b2.out.size; omega)
        have HD2 := Lib.hid hd2
        have f5' := HL2.out.fz 5
        have c5' := HL2.out.c5
        clear hm2 hd2 y0 c0 f5 c5
        by_cases ha : a = 0
        · subst ha
          have E := Lib.hid (HRk.out.trans (if_neg (by simp)))
          go_wp2_with fail
          go_roundw
          case rel => exact ⟨k + 1, D2, G2, by omega, by go_num, HD2.out, HP2.out.1, HP2.out.2.1, HL2.out, HN2.out, HM2.out, HP2.out.2.2, E.out⟩
          case measure => simp [intOf]; omega
        · have E := Lib.hid (HRk.out.trans (if_pos ha))
          have hb : (a != 0) = true := by rw [bne_iff_ne]; exact ha
          go_wp2_with fail
          go_ret
          rw [E.out]
          rw [wcode_ne ha, wover_ne ha]
          exact ⟨rfl, G2, Lp, HD2.out.stay (fun j hj => Below.heap_setCell _ _ _ _ (by rintro rfl; exact HN2.out hj)), HP2.out.1, by have := HP2.out.2.2; show Lp.length + D2.wait.length ≤ _; omega, HL2.out.set_over true, HN2.out, (HM2.out.beside (fun k => k = q)).setCell (p := ⟨q, 5, none⟩) (.inl (.inr rfl)) _⟩
    · obtain rfl : k = N := by omega
      have hRk' : R = D1.sync := by
        rw [hRk, Nat.sub_self]
        unfold wrRest wrParts
        simp
      have h57 := rsync_any r G1 D1 Lp wr hd1 hf1 (by have := HLN.out; omega)
      have hag := agree_sync ha1
      have hle := (sync_len D1 Lp).1
      obtain ⟨⟨a, D2⟩, hr⟩ : ∃ r, r = D1.sync := ⟨_, rfl⟩
      rw [← hr] at h57 hRk' hag hle
      simp only at h57 hag hle
      have H57 := Lib.hid h57
      have HR2 := Lib.hid hRk'
      have HM := Lib.hid hm
      have HL1 := Lib.hid hl1
      have HAG := Lib.hid hag
      have HLE := Lib.hid (show (syncL D1 Lp).length + D2.wait.length ≤ Lp.length + D.wait.length + 256 from Nat.le_trans hle (by omega))
      have q2 : ¬ (k : Int) < (k : Int) := by omega
      clear hd1 hl1 hm hRk hRk' h57 hr hag hle ha1 hf1 hlt
      by_cases ha : a = 0
      · subst ha
        go_wp2_with (go_at_call 57; refine H57.out.mono ?_; rintro e2 w2 ⟨rfl, G2, hd2, hm2⟩; have HD2 := Lib.hid hd2; have HM2 := Lib.hid hm2; have HL2 := Lib.hid (HL1.out.stay (hm2.keep _ HL1.out.lt hnq)); clear hd2 hm2)
        go_ret
        rw [HR2.out, wcode_zero, wover_zero]
        have hg2 : ¬ G2 q := fun hf => (HM2.out.fresh _ hf).elim hnq (fun h => by have := HL1.out.lt; omega)
        exact ⟨rfl, G2, _, HD2.out, HAG.out, HLE.out, HL2.out, hg2, (HM.out.trans HM2.out).beside _⟩
      · have hb : (a != 0) = true := by rw [bne_iff_ne]; exact ha
        go_wp2_with (go_at_call 57; refine H57.out.mono ?_; rintro e2 w2 ⟨rfl, G2, hd2, hm2⟩; have HD2 := Lib.hid hd2; have HM2 := Lib.hid hm2; have HL2 := Lib.hid (HL1.out.stay (hm2.keep _ HL1.out.lt hnq)); have f5' := HL2.out.fz 5; have c5' := HL2.out.c5; clear hd2 hm2)
        go_ret
        rw [HR2.out, wcode_ne ha, wover_ne ha]
        have hg2 : ¬ G2 q := fun hf => (HM2.out.fresh _ hf).elim hnq (fun h => by have := HL1.out.lt; omega)
        exact ⟨rfl, G2, _, HD2.out.stay (fun j hj => Below.heap_setCell _ _ _ _ (by rintro rfl; exact hg2 hj)), HAG.out, HLE.out, HL2.out.set_over true, hg2, ((HM.out.trans HM2.out).beside (fun k => k = q)).setCell (p := ⟨q, 5, none⟩) (.inl (.inr rfl)) _⟩
end Go.Proofs.Ytddaiihhhajieaa
