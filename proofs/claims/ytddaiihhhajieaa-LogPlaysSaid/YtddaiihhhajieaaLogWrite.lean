/- The walk of the log's write: the parts one by one, then a sync. -/
import Derived.Test.YtddaiihhhajieaaLogKeep
import Derived.Test.YtddaiihhhajieaaLogOpen
import Derived.Test.YtddaiihhhajieaaRefDoes
namespace Go.Proofs.Ytddaiihhhajieaa
open Go.RowKit Go.Maps

/-- what a call of the log leaves: the disk and the log's own block -/
def LeftG (w : World) (F : Foot) (d g : Nat) (D : Dk) (L : Lg) (w' : World) : Prop :=
  ∃ F', IsDisk w' d F' D ∧ LogAt w' g d L ∧ ¬ F' g ∧ Moves w w' (Un F (fun k => k = g)) (Un F' (fun k => k = g))
theorem needN_le {n : Nat} : n ≤ 52 * needN n := need_le n
/-- the parts from k on, and the sync -/
def wrRest (side pos epoch group n : Nat) (s : ByteArray) (f k : Nat) (D : Dk) : Int × Dk :=
  let r := wrParts side pos epoch group n s f k D
  if r.1 ≠ 0 then r else r.2.sync
theorem hdAt_fine (epoch group n : Nat) (s : ByteArray) (k : Nat) (he : epoch ≤ 9223372036854775807) (hg : group ≤ 9223372036854775807) (hk : k ≤ 9223372036854775807) : (hdAt epoch group n s k).Fine := by
  have h := partOf_le s k
  constructor
  all_goals
    dsimp only [hdAt]
    omega
theorem lblock_part (epoch group n : Nat) (s : ByteArray) (k : Nat) (he : epoch ≤ 9223372036854775807) (hg : group ≤ 9223372036854775807) (hk : k ≤ 9223372036854775807) (w : World) :
    Calls Try.prog 86 #[.agg #[.int .i64 epoch, .int .i64 group, .int .i64 k, .bool (k + 1 == n), .int .i64 ((partOf s k).size : Int)], .string (partOf s k)] w fun e w' => e = .returned (.string ((hdAt epoch group n s k).block (partOf s k))) ∧ Below w.heap.size w w' := by
  have h := lblock_any (hdAt epoch group n s k) (hdAt_fine epoch group n s k he hg hk) (partOf s k) (partOf_le s k) w
  dsimp only [hdAt] at h ⊢
  exact h
theorem wr_wait (D : Dk) (n : Int) (s : ByteArray) : (D.wr n s).2.wait.length ≤ D.wait.length + 1 := by
  unfold Dk.wr
  split
  · exact Nat.le_succ _
  split
  · exact Nat.le_succ _
  split
  · exact Nat.le_succ _
  · simp

set_option maxHeartbeats 4000000 in
set_option maxRecDepth 20000 in
theorem lwrite_any (g d : Nat) (F : Foot) (D : Dk) (L : Lg) (side pos epoch group : Nat) (s : ByteArray) (w : World) (hd : IsDisk w d F D) (hl : LogAt w g d L) (hg : ¬ F g)
    (hlen : D.wait.length < 1000000000000) (hs : side ≤ 1) (hp : pos ≤ 256) (he : epoch ≤ 9223372036854775807) (hgr : group ≤ 9223372036854775807) (hn : needN s.size ≤ 256) :
    Calls Try.prog 62 #[.pointer (some ⟨g, 0, none⟩), .int .i64 side, .int .i64 pos, .agg #[.int .i64 epoch, .int .i64 group, .int .i64 0, .bool false, .int .i64 0], .string s] w fun e w' =>
      e = .returned (.int .i64 (wrGroup D side pos epoch group s).1) ∧ LeftG w F d g (wrGroup D side pos epoch group s).2 { L with over := (wrGroup D side pos epoch group s).1 != 0 } w' := by
  obtain ⟨R, hR⟩ : ∃ R, R = wrGroup D side pos epoch group s := ⟨_, rfl⟩
  rw [← hR]
  obtain ⟨N, hN⟩ : ∃ N, N = needN s.size := ⟨_, rfl⟩
  have hR0 : R = wrRest side pos epoch group N s N 0 D := by rw [hR, hN]; rfl
  have h61 := fun W => need_any s (by have := needN_le (n := s.size); omega) W
  rw [← hN] at h61
  have H61 := Lib.hid h61
  have hN256 : N ≤ 256 := by omega
  have HN := Lib.hid hN
  have HR := Lib.hid hR0
  have hgl := hl.lt
  have hFl := hd.lt
  have HFG := Lib.hid hg
  have HFL := Lib.hid hFl
  have hb0 : Blk (w.alloc (.cells #[.int .i64 (epoch : Int), .int .i64 (group : Int), .int .i64 0, .bool false, .int .i64 0] 112)) w.heap.size 112 #[.int .i64 (epoch : Int), .int .i64 (group : Int), .int .i64 ((0 : Nat) : Int), .bool false, .int .i64 0] := Blk.new w 112 _
  have hbw : Below w.heap.size w (w.alloc (.cells #[.int .i64 (epoch : Int), .int .i64 (group : Int), .int .i64 0, .bool false, .int .i64 0] 112)) := (Below.refl _ _).alloc (Nat.le_refl _) _
  have hd0 := hd.below hbw
  have hl0 := hl.below hbw
  have hm0 : Moves w (w.alloc (.cells #[.int .i64 (epoch : Int), .int .i64 (group : Int), .int .i64 0, .bool false, .int .i64 0] 112)) F F := (Moves.refl w F).alloc _
  have I0 : Hid (Blk (w.alloc (.cells #[.int .i64 (epoch : Int), .int .i64 (group : Int), .int .i64 0, .bool false, .int .i64 0] 112)) w.heap.size 112 #[.int .i64 (epoch : Int), .int .i64 (group : Int), .int .i64 ((0 : Nat) : Int), .bool false, .int .i64 0] ∧
      IsDisk (w.alloc (.cells #[.int .i64 (epoch : Int), .int .i64 (group : Int), .int .i64 0, .bool false, .int .i64 0] 112)) d F D ∧ LogAt (w.alloc (.cells #[.int .i64 (epoch : Int), .int .i64 (group : Int), .int .i64 0, .bool false, .int .i64 0] 112)) g d L ∧
      Moves w (w.alloc (.cells #[.int .i64 (epoch : Int), .int .i64 (group : Int), .int .i64 0, .bool false, .int .i64 0] 112)) F F) := ⟨hb0, hd0, hl0, hm0⟩
  clear hb0 hbw hd0 hl0 hm0 hd hl hg hR hR0 hN hn h61
  go_enter Try.func62, Try.ntmps62
  go_wp2_with (go_at_call 61; refine (H61.out _).mono ?_; rintro e1 w1 ⟨rfl, rfl⟩)
  go_loopw [] (fun wr => ∃ k D1 F1 la lo, k ≤ N ∧ Blk wr w.heap.size 112 #[.int .i64 (epoch : Int), .int .i64 (group : Int), .int .i64 (k : Int), .bool la, .int .i64 lo] ∧ IsDisk wr d F1 D1 ∧ LogAt wr g d L ∧ ¬ F1 w.heap.size ∧
      Moves w wr F F1 ∧ D1.wait.length ≤ D.wait.length + k ∧ R = wrRest side pos epoch group N s (N - k) k D1) (fun wr => match wr.cell? ⟨w.heap.size, 2, none⟩ with | some (.int _ n) => N - n.toNat | _ => 0)
  case atStart => exact ⟨0, D, F, false, 0, by omega, I0.out.1, I0.out.2.1, I0.out.2.2.1, fun hk => absurd (HFL.out _ hk) (by omega), I0.out.2.2.2, by omega, HR.out⟩
  case round =>
    obtain ⟨k, D1, F1, la, lo, hk, hB, hd1, hl1, hne, hm, hwl, hRk⟩ := hrel
    have hgF1 : ¬ F1 g := by
      intro hk1
      rcases hm.fresh g hk1 with h1 | h1
      · exact HFG.out h1
      · omega
    have hlv : (loadVar 112 ⟨w.heap.size, 0, none⟩).run Try.prog wr = .ok (.agg #[.int .i64 (epoch : Int), .int .i64 (group : Int), .int .i64 (k : Int), .bool la, .int .i64 lo]) wr :=
      run_loadVar_row wr w.heap.size 112 112 _ (0, 0) _ hB Try.underlying112 rfl Try.size112
    have c0 := hl1.c0
    have z2 := (hB.cell 2).trans rfl
    have HZ2 := Lib.hid z2
    have z3 := (hB.cell 3).trans rfl
    have z4 := (hB.cell 4).trans rfl
    have f3 := hB.frozen 3
    have f4 := hB.frozen 4
    by_cases hlt : k < N
    · have h52 : 52 * k ≤ s.size := by
        have := HN.out
        cases k with
        | zero => omega
        | succ k => have := need_lt (n := s.size) (k := k) (by omega); omega
      have q1 : (52 : Int) * (k : Int) ≤ s.size := by omega
      have q2 : (k : Int) < (N : Int) := by omega
      have h86 := fun W => lblock_part epoch group N s k he hgr (by omega) W
      obtain ⟨Bk, hBk⟩ : ∃ b, b = (hdAt epoch group N s k).block (partOf s k) := ⟨_, rfl⟩
      rw [← hBk] at h86
      obtain ⟨⟨a, D2⟩, hr⟩ : ∃ r, r = D1.wr ((256 * side + pos + k : Nat) : Int) Bk := ⟨_, rfl⟩
      have hRk' : R = (if a ≠ 0 then (a, D2) else wrRest side pos epoch group N s (N - (k + 1)) (k + 1) D2) := by
        rw [hRk]
        obtain ⟨f, hf⟩ : ∃ f, N - k = f + 1 := ⟨N - k - 1, by omega⟩
        have hf2 : N - (k + 1) = f := by omega
        rw [hf, hf2]
        unfold wrRest
        conv => lhs; unfold wrParts
        rw [← hBk, ← hr]
        by_cases ha : a ≠ 0
        · simp only [if_pos ha]
        · simp only [if_neg ha]
      have hw2 : D2.wait.length ≤ D.wait.length + (k + 1) := by
        have h1 := wr_wait D1 ((256 * side + pos + k : Nat) : Int) Bk
        rw [← hr] at h1
        simp only at h1
        omega
      have h19 : ∀ W, IsDisk W d F1 D1 → Calls Try.prog 19 #[.pointer (some ⟨d, 0, none⟩), .int .i64 (256 * (side : Int) + (pos : Int) + (k : Int)), .string Bk] W fun e w' => e = .returned (.int .i64 a) ∧ Left W F1 d D2 w' := by
        intro W hW
        have h := write_any d F1 D1 ((256 * side + pos + k : Nat) : Int) Bk W hW (by omega)
        rw [← hr] at h
        have ec : ((256 * side + pos + k : Nat) : Int) = 256 * (side : Int) + (pos : Int) + (k : Int) := by omega
        rw [ec] at h
        exact h
      obtain ⟨P, hP⟩ : ∃ P, P = partOf s k := ⟨_, rfl⟩
      obtain ⟨l1, hl1'⟩ : ∃ b, b = (k + 1 == N) := ⟨_, rfl⟩
      rw [← hP, ← hl1'] at h86
      have hlast : ((k : Int) == (N : Int) - 1) = l1 := by
        rw [hl1', Bool.eq_iff_iff, beq_iff_eq, beq_iff_eq]; omega
      have hPs : (partOf s k).size = min (52 * k + 52) s.size - 52 * k := partOf_size s k
      have hPe : partOf s k = (s.extract (52 * k) s.size).extract 0 (min 52 (s.extract (52 * k) s.size).size) := rfl
      rw [← hP] at hPs hPe
      have KW : Hid (∀ WR, WR = (wr.setCell ⟨w.heap.size, 3, none⟩ (.bool l1)).setCell ⟨w.heap.size, 4, none⟩ (.int .i64 (P.size : Int)) →
          Blk WR w.heap.size 112 #[.int .i64 (epoch : Int), .int .i64 (group : Int), .int .i64 (k : Int), .bool l1, .int .i64 (P.size : Int)] ∧ IsDisk WR d F1 D1 ∧ LogAt WR g d L ∧ Moves w WR F F1) := by
        rintro WR rfl
        refine ⟨(hB.set_ 3 _).set_ 4 _, hd1.stay fun j hj => ?_, hl1.stay ?_, (hm.setCell (p := ⟨w.heap.size, 3, none⟩) (.inr (Nat.le_refl _)) _).setCell (p := ⟨w.heap.size, 4, none⟩) (.inr (Nat.le_refl _)) _⟩
        · exact (Below.heap_setCell _ _ _ _ (by rintro rfl; exact hne hj)).trans (Below.heap_setCell _ _ _ _ (by rintro rfl; exact hne hj))
        · exact (Below.heap_setCell _ _ _ _ (by show g ≠ w.heap.size; omega)).trans (Below.heap_setCell _ _ _ _ (by show g ≠ w.heap.size; omega))
      have H86 := Lib.hid h86
      have H19 : Hid (∀ W x, x = 256 * (side : Int) + (pos : Int) + (k : Int) → IsDisk W d F1 D1 → Calls Try.prog 19 #[.pointer (some ⟨d, 0, none⟩), .int .i64 x, .string Bk] W fun e w' => e = .returned (.int .i64 a) ∧ Left W F1 d D2 w') := by
        rintro W x rfl hW
        exact h19 W hW
      have HWX := Lib.hid (show IntKind.i64.wrap (IntKind.i64.wrap (IntKind.i64.wrap (256 * (side : Int)) + (pos : Int)) + (k : Int)) = 256 * (side : Int) + (pos : Int) + (k : Int) by
        have hk2 : (k : Int) ≤ 256 := by omega
        rw [IntWalk.i64_in (256 * (side : Int)) (by omega), IntWalk.i64_in (256 * (side : Int) + (pos : Int)) (by omega), IntWalk.i64_in _ (by omega)])
      have HRk := Lib.hid hRk'
      have HW2 := Lib.hid hw2
      have HLA := Lib.hid hlast
      have HNE := Lib.hid hne
      clear hd1 hl1 hm hRk hr hBk h86 hRk' hw2 h19 hl1' hlast hB hne hP hlv
      · have EP := Lib.hid (show (s.extract (52 * k) s.size).extract 0 (min 52 ((s.size - 52 * k : Nat) : Int)).toNat = P by
          rw [hPe]
          congr 1
          rw [ByteArray.size_extract]
          omega)
        have ES := Lib.hid (show min (min 52 ((s.size - 52 * k : Nat) : Int)).toNat (s.size - 52 * k) = P.size by omega)
        clear hPs hPe
        go_wp2_with fail
        rw [EP.out, ES.out, HLA.out]
        obtain ⟨WR, hWR⟩ : ∃ WR, WR = (wr.setCell ⟨w.heap.size, 3, none⟩ (.bool l1)).setCell ⟨w.heap.size, 4, none⟩ (.int .i64 (P.size : Int)) := ⟨_, rfl⟩
        rw [← hWR]
        obtain ⟨kb, kd, kl, km⟩ := KW.out WR hWR
        clear hWR
        have QB : Hid (∀ W, Below WR.heap.size WR W → Blk W w.heap.size 112 #[.int .i64 (epoch : Int), .int .i64 (group : Int), .int .i64 (k : Int), .bool l1, .int .i64 (P.size : Int)] ∧ LogAt W g d L ∧ IsDisk W d F1 D1 ∧ Moves w W F F1) :=
          fun W hW => ⟨kb.below hW kb.lt, kl.below hW, kd.below hW, km.below hW⟩
        have B0 := Lib.hid ((Below.refl WR.heap.size WR).drew)
        have QC : Hid (∀ W, Below WR.heap.size WR W → W.cell? ⟨g, 0, none⟩ = some (.pointer (some ⟨d, 0, none⟩)) ∧ W.cell? ⟨w.heap.size, 0, none⟩ = some (.int .i64 (epoch : Int)) ∧ W.cell? ⟨w.heap.size, 1, none⟩ = some (.int .i64 (group : Int)) ∧ W.cell? ⟨w.heap.size, 2, none⟩ = some (.int .i64 (k : Int)) ∧
            W.cell? ⟨w.heap.size, 3, none⟩ = some (.bool l1) ∧ W.cell? ⟨w.heap.size, 4, none⟩ = some (.int .i64 (P.size : Int))) :=
          fun W hW => ⟨(QB.out _ hW).2.1.c0, ((QB.out _ hW).1.cell 0).trans rfl, ((QB.out _ hW).1.cell 1).trans rfl, ((QB.out _ hW).1.cell 2).trans rfl, ((QB.out _ hW).1.cell 3).trans rfl, ((QB.out _ hW).1.cell 4).trans rfl⟩
        have Q0 := Lib.hid (QC.out _ B0.out)
        have QE : Hid (∀ W W2 F2, Below WR.heap.size WR W → Moves W W2 F1 F2 → Blk W2 w.heap.size 112 #[.int .i64 (epoch : Int), .int .i64 (group : Int), .int .i64 (k : Int), .bool l1, .int .i64 (P.size : Int)] ∧ LogAt W2 g d L ∧ Moves w W2 F F2 ∧ ¬ F2 w.heap.size ∧ ¬ F2 g) := by
          intro W W2 F2 hW hM
          obtain ⟨r1, r2, r3, r4⟩ := QB.out _ hW
          have hBlt := r1.lt
          refine ⟨r1.stay (hM.keep _ hBlt HNE.out), r2.stay (hM.keep _ r2.lt hgF1), r4.trans hM, fun hf => ?_, fun hf => ?_⟩
          · exact (hM.fresh _ hf).elim HNE.out (fun h => by omega)
          · exact (hM.fresh _ hf).elim hgF1 (fun h => by have := r2.lt; omega)
        have QD : Hid (∀ W W2 F2, Below WR.heap.size WR W → Moves W W2 F1 F2 → W2.cell? ⟨g, 0, none⟩ = some (.pointer (some ⟨d, 0, none⟩)) ∧ W2.cell? ⟨w.heap.size, 0, none⟩ = some (.int .i64 (epoch : Int)) ∧ W2.cell? ⟨w.heap.size, 1, none⟩ = some (.int .i64 (group : Int)) ∧ W2.cell? ⟨w.heap.size, 2, none⟩ = some (.int .i64 (k : Int)) ∧
            W2.cell? ⟨w.heap.size, 3, none⟩ = some (.bool l1) ∧ W2.cell? ⟨w.heap.size, 4, none⟩ = some (.int .i64 (P.size : Int))) :=
          fun W W2 F2 hW hM => have q := QE.out W W2 F2 hW hM; ⟨q.2.1.c0, (q.1.cell 0).trans rfl, (q.1.cell 1).trans rfl, (q.1.cell 2).trans rfl, (q.1.cell 3).trans rfl, (q.1.cell 4).trans rfl⟩
        clear c0 z2 z3 z4 f3 f4 kb kd kl km
        go_region_held3 (fun W => W.cell? ⟨g, 0, none⟩ = some (.pointer (some ⟨d, 0, none⟩)) ∧ W.cell? ⟨w.heap.size, 0, none⟩ = some (.int .i64 (epoch : Int)) ∧ W.cell? ⟨w.heap.size, 1, none⟩ = some (.int .i64 (group : Int)) ∧ W.cell? ⟨w.heap.size, 2, none⟩ = some (.int .i64 (k : Int)) ∧
            W.cell? ⟨w.heap.size, 3, none⟩ = some (.bool l1) ∧ W.cell? ⟨w.heap.size, 4, none⟩ = some (.int .i64 (P.size : Int))) (first | (with_reducible exact Q0.out) | (with_reducible exact ⟨y0, y1, y2, y3, y4, y5⟩))
          (first
           | (go_at_call 86; refine (H86.out _).mono ?_; rintro e1 w1 ⟨rfl, b1⟩; have b2 := Lib.hid (B0.out.trans (b1.mono B0.out.size)); obtain ⟨y0, y1, y2, y3, y4, y5⟩ := QC.out _ b2.out)
           | (go_at_call 19; refine (H19.out _ _ HWX.out (QB.out _ b2.out).2.2.1).mono ?_; rintro e2 w2 ⟨rfl, F2, hd2, hm2⟩; obtain ⟨y0, y1, y2, y3, y4, y5⟩ := QD.out _ _ _ b2.out hm2))
        all_goals
          obtain ⟨r1, r2, r3, r4, r5⟩ := QE.out _ _ _ b2.out hm2
          have f2 := r1.frozen 2
          have f5 := r2.fz 5
          have c5 := r2.c5
          have HD2 := Lib.hid hd2
          have HG2 := Lib.hid r3
          have HN2 := Lib.hid (⟨r4, r5⟩ : _ ∧ _)
          have HL2 := Lib.hid r2
          have HB2 := Lib.hid r1
          clear r1 r2 r3 r4 r5 hd2 hm2 y0 y1 y3 y4 y5 b1
          by_cases ha : a = 0
          · subst ha
            have E := Lib.hid (HRk.out.trans (if_neg (by simp)))
            go_wp2_with fail
            go_roundw
            case rel => exact ⟨k + 1, D2, F2, l1, (P.size : Int), by omega, HB2.out.set_ 2 _, HD2.out.stay fun j hj => Below.heap_setCell _ _ _ _ (by rintro rfl; exact HN2.out.1 hj), HL2.out.stay (Below.heap_setCell _ _ _ _ (by show g ≠ w.heap.size; omega)), HN2.out.1, HG2.out.setCell (p := ⟨w.heap.size, 2, none⟩) (.inr (Nat.le_refl _)) _, HW2.out, E.out⟩
            case measure =>
              have h2 : (w2.setCell ⟨w.heap.size, 2, none⟩ (.int .i64 ((k : Int) + 1))).cell? ⟨w.heap.size, 2, none⟩ = some (.int .i64 ((k : Int) + 1)) := ((HB2.out.set_ 2 _).cell 2).trans rfl
              rw [h2, HZ2.out]
              show N - ((k : Int) + 1).toNat < N - (k : Int).toNat
              omega
          · have E := Lib.hid (HRk.out.trans (if_pos ha))
            go_wp2_with fail
            go_ret
            rw [E.out]
            have e1 : (a != 0) = true := by rw [bne_iff_ne]; exact ha
            refine ⟨rfl, F2, HD2.out.stay fun j hj => Below.heap_setCell _ _ _ _ (by rintro rfl; exact HN2.out.2 hj), ?_, HN2.out.2, (HG2.out.beside (fun k => k = g)).setCell (p := ⟨g, 5, none⟩) (.inl (.inr rfl)) _⟩
            show LogAt _ g d { L with over := (a != 0) }
            rw [e1]
            exact HL2.out.set_over true
    · obtain rfl : k = N := by omega
      have hRk' : R = D1.sync := by
        rw [hRk, Nat.sub_self]
        unfold wrRest wrParts
        simp
      have h24 := sync_any d F1 D1 wr hd1 (by omega)
      obtain ⟨⟨a, D2⟩, hr⟩ : ∃ r, r = D1.sync := ⟨_, rfl⟩
      rw [← hr] at h24 hRk'
      have H24 := Lib.hid h24
      have HR2 := Lib.hid hRk'
      have HM := Lib.hid hm
      have HL1 := Lib.hid hl1
      clear hd1 hl1 hm hRk hRk' h24 hr hB
      have q2 : ¬ (k : Int) < (k : Int) := by omega
      go_wp2_with (go_at_call 24; refine H24.out.mono ?_; rintro e2 w2 ⟨rfl, F2, hd2, hm2⟩; have HD2 := Lib.hid hd2; have HM2 := Lib.hid hm2; have HL2 := Lib.hid (HL1.out.stay (hm2.keep _ HL1.out.lt hgF1)); have c5 := HL2.out.c5; have f5 := HL2.out.fz 5; clear hd2 hm2)
      go_ret
      rw [HR2.out]
      have hg2 : ¬ F2 g := fun hf => (HM2.out.fresh _ hf).elim hgF1 (fun h => by have := HL1.out.lt; omega)
      exact ⟨rfl, F2, HD2.out.stay fun j hj => Below.heap_setCell _ _ _ _ (by rintro rfl; exact hg2 hj), HL2.out.set_over (a != 0), hg2, ((HM.out.trans HM2.out).beside (fun k => k = g)).setCell (p := ⟨g, 5, none⟩) (.inl (.inr rfl)) _⟩
end Go.Proofs.Ytddaiihhhajieaa
