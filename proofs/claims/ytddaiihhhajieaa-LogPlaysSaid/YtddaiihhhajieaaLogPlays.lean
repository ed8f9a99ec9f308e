/- The walk of LogPlays. -/
import Derived.Test.YtddaiihhhajieaaLogPlay
import Derived.Test.YtddaiihhhajieaaDiskPlays
import Derived.Test.YtddaiihhhajieaaLogAgain
import Derived.BigQuiet
import Derived.Deep.QuietTactic
namespace Go.Proofs.Ytddaiihhhajieaa
open Go.RowKit Go.Maps

theorem Play.below {w0 w w' : World} {d g r q i : Nat} {D : Dk} {L : Lg} (h : Play w0 w d g r q D L i) (hb : Below w.heap.size w w') : Play w0 w' d g r q D L i := by
  obtain ⟨Lp, F, G, h⟩ := h
  exact ⟨Lp, F, G, h.duo.below hb, h.agree, h.full, h.small, h.long, h.turns⟩
theorem full_append {D : Dk} (h : Full D) (L : Lg) (l : List ByteArray) : Full (appendL D L l).2.1 := full_appendL h L l
/-- both disks and logs just made and opened -/
theorem opened_new : opened Dk.new = (Lg.none, []) := keeps_opened keeps_new

/-- the program's log opened anew, the document's beside -/
theorem duoB_open33 {w : World} {d g r q B : Nat} {cs : Array Value} {L1 L2 : Lg} {Lp' : Puts} (D' : Dk) (hlen : D'.wait.length < 1099511627776) (hw : Whole D') (ho : D'.off = false) (W : World) (F1 G1 : Foot)
    (h : DuoB w W d g r q B cs D' L1 D' Lp' L2 F1 G1) : Calls Try.prog 33 #[.pointer (some ⟨d, 0, none⟩)] W fun e w' => ∃ g' v, e = .returned (.tuple #[.pointer (some ⟨g', 0, none⟩), v, .int .i64 0]) ∧
      DuoB w w' d g' r q B cs D' (opened D').1 D' Lp' L2 F1 G1 ∧ w'.ownsRow 0 9 1 v (opened D').2.length (strsV (opened D').2) :=
  (lopen_any d F1 D' W h.duo.disk hlen hw ho).mono fun _ _ ⟨g', v, h1, h2, h3, h4, h5⟩ => ⟨g', v, h1, duoB_log h h2 h3 h4, base_zero h5⟩
theorem duoB_open40 {w : World} {d g r q B : Nat} {cs : Array Value} {L1 L2 : Lg} {Lp' : Puts} (D' : Dk) (ha : Agree D' Lp') (hlen : Lp'.length + D'.wait.length < 1099511627776) (hw : Whole D') (ho : D'.off = false) (W : World) (F1 G1 : Foot)
    (h : DuoB w W d g r q B cs D' L1 D' Lp' L2 F1 G1) : Calls Try.prog 40 #[.pointer (some ⟨r, 0, none⟩)] W fun e w' => ∃ q' v, e = .returned (.tuple #[.pointer (some ⟨q', 0, none⟩), v, .int .i64 0]) ∧
      DuoB w w' d g r q' B cs D' L1 D' Lp' (opened D').1 F1 G1 ∧ w'.ownsRow 0 9 1 v (opened D').2.length (strsV (opened D').2) ∧ Below W.heap.size W w' :=
  (rlopen_any r G1 D' Lp' W h.duo.ref ha hlen hw ho).mono fun _ _ ⟨q', v, h1, h2, h3, h4, h5⟩ => ⟨q', v, h1, duoB_rlog h h2 h3 h4, base_zero h5, h2⟩
theorem same_true (W : World) (u v : Value) (l : List ByteArray) (hu : IsStrs0 W u l) (hv : IsStrs0 W v l) : Calls Try.prog 37 #[u, v] W fun e w' => e = .returned (.bool true) ∧ Below W.heap.size W w' := by
  have h := same_any u v l l hu hv
  rw [decide_eq_true rfl] at h
  exact h

set_option maxHeartbeats 4000000 in
set_option maxRecDepth 200000 in
theorem plays19_walk {w : World} (v : Value) (ops : List Op19) (hv : IsOps19 w v ops) : Calls Try.prog 11 #[v] w (Fine w) := by
  have HA := Lib.hid awake19
  have HLi := Lib.hid (fun (W : World) (hb : Below w.heap.size w W) => light19_any v ops (hv.below EOp19.stays hb))
  obtain ⟨A, c, rfl, hc, hm, hx⟩ := hv
  have HX := Lib.hid hx
  obtain ⟨N, hN⟩ : ∃ N, N = ops.length := ⟨_, rfl⟩
  rw [← hN] at hc HLi ⊢
  have HN := Lib.hid hN
  have HNW := Lib.hid new_any
  have HRN := Lib.hid rnew_any
  have HC := Lib.hid (⟨hc, hm⟩ : _ ∧ _)
  clear hx hN hc hm
  go_enter Try.func11, Try.ntmps11
  go_wp2_with (first
    | (go_at_call 31; refine (HA.out _).mono ?_; rintro e1 w1 ⟨rfl, hb1⟩)
    | (go_at_call 39; refine (HLi.out _ hb1).mono ?_))
  rintro e2 w2 ⟨b, rfl, hlt, rfl⟩
  cases b with
  | false =>
    go_wp2_with fail
    go_ret
    exact ⟨rfl, hb1⟩
  | true =>
    have HLT := Lib.hid (hlt rfl)
    clear hlt
    go_wp2_with (first
      | (go_at_call 18; refine (HNW.out _).mono ?_; rintro e3 w3 ⟨d, F, rfl, hd, hm⟩; have HD := Lib.hid hd; have HM := Lib.hid hm; clear hd hm)
      | (go_at_call 27; refine (HRN.out _).mono ?_; rintro e4 w4 ⟨r, G, rfl, hr, hm4⟩; have HR := Lib.hid hr; have HM4 := Lib.hid hm4; clear hr hm4))
    have hd4 : IsDisk w4 d F Dk.new := HD.out.beside HM4.out (fun k hk => hk.elim)
    have hb4 : Below w.heap.size w w4 := hb1.trans ((HM.out.trans ((Moves.refl _ _).below (HM4.out.toBelow (Nat.le_refl _) (fun k hk => hk.elim)))).toBelow hb1.size (fun k hk => hk.elim))
    have hFlow : ∀ k, F k → w.heap.size ≤ k := fun k hk => (HM.out.fresh k hk).elim (fun h => h.elim) (fun h => Nat.le_trans hb1.size h)
    have hGlow : ∀ k, G k → w3.heap.size ≤ k := fun k hk => (HM4.out.fresh k hk).elim (fun h => h.elim) id
    have hFlt : ∀ k, F k → k < w3.heap.size := HD.out.lt
    have hO := lopen_any d F Dk.new w4 hd4 new_len full_new.whole rfl
    rw [opened_new] at hO
    have HO := Lib.hid hO
    have HR4 := Lib.hid HR.out
    have hRO := fun (W : World) (hb : Below w4.heap.size w4 W) => rlopen_any r G Dk.new [] W (HR.out.below hb) agree_new (by show 0 < _; omega) full_new.whole rfl
    rw [opened_new] at hRO
    have HRO := Lib.hid hRO
    have H4 := Lib.hid (⟨hd4, hb4, hFlow, hGlow, hFlt⟩ : _ ∧ _ ∧ _ ∧ _ ∧ _)
    have HS34 := Lib.hid HM4.out.size
    clear hO hRO hd4 hb4 hFlow hGlow hFlt
    go_wp2_with (first
      | (go_at_call 33; refine HO.out.mono ?_; rintro e5 w5 ⟨g, v5, rfl, hb5, hg5, hl5, ho5⟩; obtain ⟨A5, c5, rfl, _⟩ := own_form ho5; have HB5 := Lib.hid hb5; have HL5 := Lib.hid hl5; have HG5 := Lib.hid hg5; clear hb5 hl5 ho5 hg5)
      | (go_at_call 40; refine (HRO.out _ HB5.out).mono ?_; rintro e6 w6 ⟨q, v6, rfl, hb6, hq6, hl6, ho6⟩; obtain ⟨A6, c6, rfl, _⟩ := own_form ho6; have HB6 := Lib.hid hb6; have HL6 := Lib.hid hl6; have HQ6 := Lib.hid hq6; clear hb6 hl6 ho6 hq6))
    have P0 : Hid (Play w w6 d g r q Dk.new Lg.none 0) := by
      obtain ⟨k1, k2, k3, k4, k5⟩ := H4.out
      have hrl := HR.out.lt
      have s45 := HB5.out.size
      have s56 := HB6.out.size
      have s34 := HS34.out
      have g5 := HG5.out
      have q6 := HQ6.out
      have s04 := k2.size
      refine ⟨[], F, G, ⟨(k1.below HB5.out).below HB6.out, HL5.out.below HB6.out, (HR.out.below HB5.out).below HB6.out, HL6.out, fun hf => by have := k5 _ hf; omega, fun hf => by have := hrl _ hf; omega, fun k hk hu => ?_, fun k hk => ?_, fun k hk => ?_, k2.trans ((HB5.out.trans (HB6.out.mono s45)).mono s04)⟩, agree_new, full_new, ⟨by decide, by decide, Nat.zero_le _, Nat.zero_le _⟩, Nat.le_refl _, Nat.le_refl _⟩
      · have hkl := HL5.out.lt
        rcases hk with hk | rfl
        · have h5 := k5 k hk
          rcases hu with hu | hu
          · have := k4 k hu; omega
          · omega
        · rcases hu with hu | hu
          · have := hrl _ hu; omega
          · omega
      · rcases hk with hk | rfl
        · exact k3 k hk
        · omega
      · rcases hk with hk | rfl
        · have h4 := k4 k hk
          have := HM.out.size
          have := hb1.size
          omega
        · omega
    clear HD HM HR HM4 HO HRO HR4 H4 HS34 HB5 HL5 HG5 HB6 HL6 HQ6
    have GX : Hid (∀ i (hi : i < N), (IsLight (ops[i]'(by rw [← HN.out]; exact hi)).recs)) := fun i hi => HLT.out.2 i (by rw [← HN.out]; exact hi)
    have hN60 : N ≤ 60 := by rw [HN.out]; exact HLT.out.1
    go_loopw [7, 10, 13] (fun lv mv iv wr => ∃ i g q D L, i ≤ N ∧ iv = .int .i64 (i : Nat) ∧ lv = .pointer (some ⟨g, 0, none⟩) ∧ mv = .pointer (some ⟨q, 0, none⟩) ∧ Play w wr d g r q D L i) (fun _ _ iv _ => N - (intOf iv).toNat)
    case atStart => exact ⟨0, g, q, Dk.new, Lg.none, Nat.zero_le _, rfl, rfl, rfl, P0.out⟩
    case round =>
      obtain ⟨i, g, q, D, L, hi, rfl, rfl, rfl, hpl⟩ := hrel
      clear P0
      obtain ⟨Lp, F, G, hp⟩ := hpl
      by_cases hlt : i < N
      · obtain ⟨b, off, rfl, hx⟩ := HX.out i (by rw [← HN.out]; exact hlt)
        have hx' := EOp19.stays _ _ _ _ _ hx hp.duo.bel
        have hxw := hx
        have hlx := GX.out i hlt
        obtain ⟨x, hxe⟩ : ∃ x, x = ops[i]'(by rw [← HN.out]; exact hlt) := ⟨_, rfl⟩
        rw [← hxe] at hx' hlx hxw
        obtain ⟨do_, n, rec, torn⟩ := x
        obtain ⟨k0, k1, k2, k3, r0, r1⟩ := hx'
        obtain ⟨ev, he1, he2⟩ := k2
        obtain ⟨ev', he1', hew⟩ := hxw.c2
        have hev : ev' = ev := by
          have h1 := cell_stays he1' hp.duo.bel
          rw [he1] at h1
          exact (Option.some.inj h1).symm
        subst hev
        simp only at k0 k1 k3 he1 he2 hlx r0 r1 hew
        clear he1'
        have q1 : (i : Int) < (N : Int) := by omega
        have HP := Lib.hid hp
        have HEV : Hid (∀ W, Below w.heap.size w W → IsStrs W ev' rec) := fun W hb => hew.below EStr.stays hb
        have HLX := Lib.hid hlx
        obtain ⟨A7, c7, rfl, _⟩ := he2
        clear hx hp hxe hxw hlx hew
        obtain ⟨W0, hW0⟩ : ∃ W, W = wr.alloc (.cells #[.int .i64 do_, .int .i64 n, .slice A7 rec.length c7, .bool torn] 66) := ⟨_, rfl⟩
        have hb0 : Below wr.heap.size wr W0 := by rw [hW0]; exact (Below.refl _ _).alloc (Nat.le_refl _) _
        have hdb : DuoB w W0 d g r q wr.heap.size #[.int .i64 do_, .int .i64 n, .slice A7 rec.length c7, .bool torn] D L D Lp L F G :=
          ⟨HP.out.duo.below hb0, by rw [hW0]; exact Blk.new wr 66 _, fun hu => by have := HP.out.duo.lt _ hu; omega, fun hu => by have := HP.out.duo.rlt _ hu; omega⟩
        have HDB := Lib.hid hdb
        have HFI := Lib.hid hdb.duo.disk.fine
        have HSF := Lib.hid (HP.out.small.fine (by omega))
        have HW := Lib.hid hW0
        have hl1 : D.wait.length < 1000000000000 := by have := HP.out.long; omega
        have hl2 : Lp.length + D.wait.length < 1000000000000 := by have := HP.out.long; omega
        have HL12 := Lib.hid (⟨hl1, hl2⟩ : _ ∧ _)
        have HIV : Hid (∀ W F' G', DuoB w W d g r q wr.heap.size #[.int .i64 do_, .int .i64 n, .slice A7 rec.length c7, .bool torn] D L D Lp L F' G' → True) := fun _ _ _ _ => trivial
        have HEW : Hid (∀ W, Below w.heap.size w W → IsStrs W (.slice A7 rec.length c7) rec) := fun W hb => HEV.out W hb
        have HRL := Lib.hid (show rec.length ≤ 1000000000 by have := HLX.out.1; omega)
        clear hb0 hdb hW0 hl1 hl2 HIV HEV
        by_cases ca : do_ = 0 ∨ do_ = 1 ∨ do_ = 2
        · obtain ⟨⟨a, D', L'⟩, hr⟩ : ∃ r, r = appendL D L rec := ⟨_, rfl⟩
          have H34 : Hid (∀ W F1 G1, DuoB w W d g r q wr.heap.size #[.int .i64 do_, .int .i64 n, .slice A7 rec.length c7, .bool torn] D L D Lp L F1 G1 → Calls Try.prog 34 #[.pointer (some ⟨g, 0, none⟩), .slice A7 rec.length c7] W fun e w' => e = .returned (.int .i64 a) ∧ ∃ F', DuoB w w' d g r q wr.heap.size #[.int .i64 do_, .int .i64 n, .slice A7 rec.length c7, .bool torn] D' L' D Lp L F' G1) := by
            intro W F1 G1 hdu
            have h := lappend_any g d F1 D L _ rec W hdu.duo.disk hdu.duo.log hdu.duo.ne HL12.out.1 HSF.out (HEW.out W hdu.duo.bel) HRL.out
            rw [← hr] at h
            exact h.mono fun e w' hh => ⟨hh.1, duoB_left hdu hh.2⟩
          have H41 : Hid (∀ W F1 G1, DuoB w W d g r q wr.heap.size #[.int .i64 do_, .int .i64 n, .slice A7 rec.length c7, .bool torn] D' L' D Lp L F1 G1 → Calls Try.prog 41 #[.pointer (some ⟨q, 0, none⟩), .slice A7 rec.length c7] W fun e w' => e = .returned (.int .i64 a) ∧ ∃ G' Lp', DuoB w w' d g r q wr.heap.size #[.int .i64 do_, .int .i64 n, .slice A7 rec.length c7, .bool torn] D' L' D' Lp' L' F1 G' ∧ Agree D' Lp' ∧ Lp'.length + D'.wait.length ≤ Lp.length + D.wait.length + 256) := by
            intro W F1 G1 hdu
            have h := rappend_any q r G1 D Lp L _ rec W hdu.duo.ref HP.out.agree HFI.out hdu.duo.rlog hdu.duo.rne HL12.out.2 HSF.out (HEW.out W hdu.duo.bel) HRL.out
            rw [← hr] at h
            exact h.mono fun e w' hh => ⟨hh.1, duoB_right hdu hh.2⟩
          have hful := full_appendL HP.out.full L rec
          have hsm := small_append HP.out.small D rec
          have htu := append_turns D L rec
          rw [← hr] at hful hsm htu
          have HPL : Hid (∀ W F' G' Lp', DuoB w W d g r q wr.heap.size #[.int .i64 do_, .int .i64 n, .slice A7 rec.length c7, .bool torn] D' L' D' Lp' L' F' G' → Agree D' Lp' → Lp'.length + D'.wait.length ≤ Lp.length + D.wait.length + 256 → Play w W d g r q D' L' (i + 1)) :=
            fun W F' G' Lp' h1 h2 h3 => ⟨Lp', F', G', h1.duo, h2, hful, hsm, by have := HP.out.long; omega, by have := HP.out.turns; simp only at htu; omega⟩
          have hpos : L'.pos ≤ 256 := hsm.pos
          have r2 : (L'.pos : Int) ≤ 256 := by omega
          have C0 : Hid (∀ W D1 L1 D2 Lp2 L2 F1 G1, DuoB w W d g r q wr.heap.size #[.int .i64 do_, .int .i64 n, .slice A7 rec.length c7, .bool torn] D1 L1 D2 Lp2 L2 F1 G1 → W.cell? ⟨wr.heap.size, 2, none⟩ = some (.slice A7 rec.length c7)) := fun W D1 L1 D2 Lp2 L2 F1 G1 h => (h.blk.cell 2).trans rfl
          clear hr hful hsm htu
          rcases ca with rfl | rfl | rfl
          all_goals
            go_wp2_with fail
            rw [← HW.out]
            have Q0 := Lib.hid (C0.out _ _ _ _ _ _ _ _ (HDB.out.below (Below.refl _ _).drew))
            go_region_held3 (fun W => W.cell? ⟨wr.heap.size, 2, none⟩ = some (.slice A7 rec.length c7)) (first | (with_reducible exact Q0.out) | (with_reducible exact y1))
              (first
               | (go_at_call 41; refine (H41.out _ _ _ p1).mono ?_; rintro e9 w9 ⟨rfl, G2, Lp2, p2, ag2, ln2⟩; have y1 := C0.out _ _ _ _ _ _ _ _ p2)
               | (go_at_call 34; refine (H34.out _ _ _ (HDB.out.below (Below.refl _ _).drew)).mono ?_; rintro e8 w8 ⟨rfl, F1, p1⟩; have y1 := C0.out _ _ _ _ _ _ _ _ p1))
            all_goals
              have HPL2 := Lib.hid (HPL.out _ _ _ _ p2 ag2 ln2)
              have H35 := Lib.hid (fun n => (room_any g d L' (w9.drewN n) (p2.duo.log.stay rfl) hpos).mono fun e w' (hh : _ ∧ _) => (⟨hh.1, hh.2.symm⟩ : e = .returned (.int .i64 (256 - (L'.pos : Int))) ∧ w' = w9.drewN n))
              have H43 := Lib.hid (fun n => (rroom_any q r L' (w9.drewN n) (p2.duo.rlog.stay rfl) hpos).mono fun e w' (hh : _ ∧ _) => (⟨hh.1, hh.2.symm⟩ : e = .returned (.int .i64 (256 - (L'.pos : Int))) ∧ w' = w9.drewN n))
              have H36 := Lib.hid (fun n => (epoch_any g d L' (w9.drewN n) (p2.duo.log.stay rfl)).mono fun e w' (hh : _ ∧ _) => (⟨hh.1, hh.2.symm⟩ : e = .returned (.int .i64 (L'.epoch : Int)) ∧ w' = w9.drewN n))
              have z2 := p2.duo.rlog.c2
              clear p1 p2 ag2 ln2 y1
              go_wp2_with fail
              go_quiet (first | (go_at_call 35; exact Calls.quiet_of_same (H35.out _)) | (go_at_call 43; exact Calls.quiet_of_same (H43.out _)) | (go_at_call 36; exact Calls.quiet_of_same (H36.out _)))
              go_wp2_with fail
              go_roundw
              case rel => exact ⟨i + 1, g, q, D', L', by omega, by go_num, rfl, rfl, HPL2.out.below (below_drewN (Below.refl _ _) _)⟩
              case measure => simp [intOf]; omega
        have n0 : (do_ == 0) = false := by rw [beq_eq_false_iff_ne]; omega
        have n1 : (do_ == 1) = false := by rw [beq_eq_false_iff_ne]; omega
        have n2 : (do_ == 2) = false := by rw [beq_eq_false_iff_ne]; omega
        by_cases c3 : do_ = 3
        · obtain ⟨⟨a, D', L'⟩, hr⟩ : ∃ r, r = renewL D L rec := ⟨_, rfl⟩
          have H38 : Hid (∀ W F1 G1, DuoB w W d g r q wr.heap.size #[.int .i64 do_, .int .i64 n, .slice A7 rec.length c7, .bool torn] D L D Lp L F1 G1 → Calls Try.prog 38 #[.pointer (some ⟨g, 0, none⟩), .slice A7 rec.length c7] W fun e w' => e = .returned (.int .i64 a) ∧ ∃ F', DuoB w w' d g r q wr.heap.size #[.int .i64 do_, .int .i64 n, .slice A7 rec.length c7, .bool torn] D' L' D Lp L F' G1) := by
            intro W F1 G1 hdu
            have h := lrenew_any g d F1 D L _ rec W hdu.duo.disk hdu.duo.log hdu.duo.ne HL12.out.1 HSF.out (HEW.out W hdu.duo.bel) HRL.out
            rw [← hr] at h
            exact h.mono fun e w' hh => ⟨hh.1, duoB_left hdu hh.2⟩
          have H42 : Hid (∀ W F1 G1, DuoB w W d g r q wr.heap.size #[.int .i64 do_, .int .i64 n, .slice A7 rec.length c7, .bool torn] D' L' D Lp L F1 G1 → Calls Try.prog 42 #[.pointer (some ⟨q, 0, none⟩), .slice A7 rec.length c7] W fun e w' => e = .returned (.int .i64 a) ∧ ∃ G' Lp', DuoB w w' d g r q wr.heap.size #[.int .i64 do_, .int .i64 n, .slice A7 rec.length c7, .bool torn] D' L' D' Lp' L' F1 G' ∧ Agree D' Lp' ∧ Lp'.length + D'.wait.length ≤ Lp.length + D.wait.length + 256) := by
            intro W F1 G1 hdu
            have h := rrenew_any q r G1 D Lp L _ rec W hdu.duo.ref HP.out.agree HFI.out hdu.duo.rlog hdu.duo.rne HL12.out.2 HSF.out (HEW.out W hdu.duo.bel) HRL.out
            rw [← hr] at h
            exact h.mono fun e w' hh => ⟨hh.1, duoB_right hdu hh.2⟩
          have hful := full_renewL HP.out.full L rec
          have hsm := small_renew HP.out.small D rec
          have htu := renew_turns D L rec
          rw [← hr] at hful hsm htu
          have HPL : Hid (∀ W F' G' Lp', DuoB w W d g r q wr.heap.size #[.int .i64 do_, .int .i64 n, .slice A7 rec.length c7, .bool torn] D' L' D' Lp' L' F' G' → Agree D' Lp' → Lp'.length + D'.wait.length ≤ Lp.length + D.wait.length + 256 → Play w W d g r q D' L' (i + 1)) :=
            fun W F' G' Lp' h1 h2 h3 => ⟨Lp', F', G', h1.duo, h2, hful, hsm, by have := HP.out.long; omega, by have := HP.out.turns; simp only at htu; omega⟩
          have hpos : L'.pos ≤ 256 := hsm.pos
          have r2 : (L'.pos : Int) ≤ 256 := by omega
          have C0 : Hid (∀ W D1 L1 D2 Lp2 L2 F1 G1, DuoB w W d g r q wr.heap.size #[.int .i64 do_, .int .i64 n, .slice A7 rec.length c7, .bool torn] D1 L1 D2 Lp2 L2 F1 G1 → W.cell? ⟨wr.heap.size, 2, none⟩ = some (.slice A7 rec.length c7)) := fun W D1 L1 D2 Lp2 L2 F1 G1 h => (h.blk.cell 2).trans rfl
          clear hr hful hsm htu
          subst c3
          clear n0 n1 n2
          · skip
            go_wp2_with fail
            rw [← HW.out]
            have Q0 := Lib.hid (C0.out _ _ _ _ _ _ _ _ (HDB.out.below (Below.refl _ _).drew))
            go_region_held3 (fun W => W.cell? ⟨wr.heap.size, 2, none⟩ = some (.slice A7 rec.length c7)) (first | (with_reducible exact Q0.out) | (with_reducible exact y1))
              (first
               | (go_at_call 42; refine (H42.out _ _ _ p1).mono ?_; rintro e9 w9 ⟨rfl, G2, Lp2, p2, ag2, ln2⟩; have y1 := C0.out _ _ _ _ _ _ _ _ p2)
               | (go_at_call 38; refine (H38.out _ _ _ (HDB.out.below (Below.refl _ _).drew)).mono ?_; rintro e8 w8 ⟨rfl, F1, p1⟩; have y1 := C0.out _ _ _ _ _ _ _ _ p1))
            all_goals
              have HPL2 := Lib.hid (HPL.out _ _ _ _ p2 ag2 ln2)
              have H35 := Lib.hid (fun n => (room_any g d L' (w9.drewN n) (p2.duo.log.stay rfl) hpos).mono fun e w' (hh : _ ∧ _) => (⟨hh.1, hh.2.symm⟩ : e = .returned (.int .i64 (256 - (L'.pos : Int))) ∧ w' = w9.drewN n))
              have H43 := Lib.hid (fun n => (rroom_any q r L' (w9.drewN n) (p2.duo.rlog.stay rfl) hpos).mono fun e w' (hh : _ ∧ _) => (⟨hh.1, hh.2.symm⟩ : e = .returned (.int .i64 (256 - (L'.pos : Int))) ∧ w' = w9.drewN n))
              have H36 := Lib.hid (fun n => (epoch_any g d L' (w9.drewN n) (p2.duo.log.stay rfl)).mono fun e w' (hh : _ ∧ _) => (⟨hh.1, hh.2.symm⟩ : e = .returned (.int .i64 (L'.epoch : Int)) ∧ w' = w9.drewN n))
              have z2 := p2.duo.rlog.c2
              clear p1 p2 ag2 ln2 y1
              go_wp2_with fail
              go_quiet (first | (go_at_call 35; exact Calls.quiet_of_same (H35.out _)) | (go_at_call 43; exact Calls.quiet_of_same (H43.out _)) | (go_at_call 36; exact Calls.quiet_of_same (H36.out _)))
              go_wp2_with fail
              go_roundw
              case rel => exact ⟨i + 1, g, q, D', L', by omega, by go_num, rfl, rfl, HPL2.out.below (below_drewN (Below.refl _ _) _)⟩
              case measure => simp [intOf]; omega
        have n3 : (do_ == 3) = false := by rw [beq_eq_false_iff_ne]; omega
        by_cases c5 : do_ = 5
        · have H26 : Hid (∀ W F1 G1, DuoB w W d g r q wr.heap.size #[.int .i64 do_, .int .i64 n, .slice A7 rec.length c7, .bool torn] D L D Lp L F1 G1 → Calls Try.prog 26 #[.pointer (some ⟨d, 0, none⟩), .int .i64 n] W fun e w' => e = .returned (.tuple #[]) ∧ ∃ F', DuoB w w' d g r q wr.heap.size #[.int .i64 do_, .int .i64 n, .slice A7 rec.length c7, .bool torn] (D.armed n) L D Lp L F' G1) := by
            intro W F1 G1 hdu
            exact (arm_any d F1 D n r1.2 W hdu.duo.disk).mono fun e w' hh => ⟨hh.1, duoB_disk hdu hh.2⟩
          have HPL : Hid (∀ W F' G', DuoB w W d g r q wr.heap.size #[.int .i64 do_, .int .i64 n, .slice A7 rec.length c7, .bool torn] (D.armed n) L (D.armed n) Lp L F' G' → Play w W d g r q (D.armed n) L (i + 1)) :=
            fun W F' G' h1 => ⟨Lp, F', G', h1.duo, agree_armed HP.out.agree n, full_armed HP.out.full n, ⟨HP.out.small.side, HP.out.small.pos, by have := HP.out.small.group; omega, by have := HP.out.small.epoch; omega⟩, by have := HP.out.long; show Lp.length + D.wait.length ≤ _; omega, by have := HP.out.turns; show D.turns ≤ _; omega⟩
          have hpos : L.pos ≤ 256 := HP.out.small.pos
          have r2 : (L.pos : Int) ≤ 256 := by omega
          have E3 := Lib.hid (show (if (-1 : Int) > n then -1 else n) = max n (-1) by split <;> omega)
          have C1 : Hid (∀ W D1 L1 D2 Lp2 L2 F1 G1, DuoB w W d g r q wr.heap.size #[.int .i64 do_, .int .i64 n, .slice A7 rec.length c7, .bool torn] D1 L1 D2 Lp2 L2 F1 G1 → W.cell? ⟨wr.heap.size, 1, none⟩ = some (.int .i64 n)) := fun W D1 L1 D2 Lp2 L2 F1 G1 h => (h.blk.cell 1).trans rfl
          subst c5
          clear n0 n1 n2 n3
          go_wp2_with (first
            | (go_at_call 26; rw [← HW.out]; refine (H26.out _ _ _ HDB.out).mono ?_; rintro e8 w8 ⟨rfl, F1, p1⟩; have o1 := C1.out _ _ _ _ _ _ _ _ p1; obtain ⟨⟨v2, hv2⟩, hf2, G2, p2⟩ := duoB_arm p1 (max n (-1)); have P2 := Lib.hid p2; clear p1 p2)
            | ((with_reducible refine wpList_max2 138 _ _ _ _ _ _ n (-1) (max n (-1)) ?_ ?_ E3.out ?_); rfl; rfl))
          obtain ⟨w9, hw9⟩ : ∃ x, x = w8.setCell ⟨r, 2, none⟩ (.int .i64 (max n (-1))) := ⟨_, rfl⟩
          rw [← hw9]
          have p2 := P2.out
          rw [← hw9] at p2
          clear P2 hw9 hv2 hf2 o1
          have HPL2 := Lib.hid (HPL.out _ _ _ p2)
          have H35 := Lib.hid (fun n => (room_any g d L (w9.drewN n) (p2.duo.log.stay rfl) hpos).mono fun e w' (hh : _ ∧ _) => (⟨hh.1, hh.2.symm⟩ : e = .returned (.int .i64 (256 - (L.pos : Int))) ∧ w' = w9.drewN n))
          have H43 := Lib.hid (fun n => (rroom_any q r L (w9.drewN n) (p2.duo.rlog.stay rfl) hpos).mono fun e w' (hh : _ ∧ _) => (⟨hh.1, hh.2.symm⟩ : e = .returned (.int .i64 (256 - (L.pos : Int))) ∧ w' = w9.drewN n))
          have H36 := Lib.hid (fun n => (epoch_any g d L (w9.drewN n) (p2.duo.log.stay rfl)).mono fun e w' (hh : _ ∧ _) => (⟨hh.1, hh.2.symm⟩ : e = .returned (.int .i64 (L.epoch : Int)) ∧ w' = w9.drewN n))
          have z2 := p2.duo.rlog.c2
          clear p2
          go_quiet (first | (go_at_call 35; exact Calls.quiet_of_same (H35.out _)) | (go_at_call 43; exact Calls.quiet_of_same (H43.out _)) | (go_at_call 36; exact Calls.quiet_of_same (H36.out _)))
          go_wp2_with fail
          go_roundw
          case rel => exact ⟨i + 1, g, q, D.armed n, L, by omega, by go_num, rfl, rfl, HPL2.out.below (below_drewN (Below.refl _ _) _)⟩
          case measure => simp [intOf]; omega
        have n5 : (do_ == 5) = false := by rw [beq_eq_false_iff_ne]; exact c5
        have hrf := HDB.out.refc
        rw [HW.out] at hrf
        by_cases c4 : do_ = 4 ∧ D.off = false
        · obtain ⟨rfl, hoff⟩ := c4
          clear n0 n1 n2 n3 n5
          rw [hoff] at hrf
          obtain ⟨D', hD'⟩ : ∃ X, X = D := ⟨_, rfl⟩
          obtain ⟨Lp', hLp'⟩ : ∃ X, X = Lp := ⟨_, rfl⟩
          have HAG := Lib.hid HP.out.agree
          have HFU := Lib.hid HP.out.full
          have HOF := Lib.hid hoff
          have HLN : Hid (D.wait.length < 1099511627776 ∧ Lp.length + D.wait.length < 1099511627776) := ⟨by have := HL12.out.1; omega, by have := HL12.out.2; omega⟩
          have HLN2 : Hid (Lp.length + D.wait.length ≤ (i + 1) * 1000 ∧ D.turns ≤ i + 1) := ⟨by have := HP.out.long; omega, by have := HP.out.turns; omega⟩
          rw [← hD'] at HAG HFU HOF HLN HLN2 HDB
          rw [← hLp'] at HAG HLN HLN2 HDB
          clear hoff hD' hLp'
          obtain ⟨O, hO⟩ : ∃ O, O = opened D' := ⟨_, rfl⟩
          have H33 := Lib.hid (fun W F1 G1 L1 L2 Lp' q' g0 (h : DuoB w W d g0 r q' wr.heap.size #[.int .i64 4, .int .i64 n, .slice A7 rec.length c7, .bool torn] D' L1 D' Lp' L2 F1 G1) => duoB_open33 D' HLN.out.1 HFU.out.whole HOF.out W F1 G1 h)
          have H40 := Lib.hid (fun W F1 G1 L1 L2 q' g0 (h : DuoB w W d g0 r q' wr.heap.size #[.int .i64 4, .int .i64 n, .slice A7 rec.length c7, .bool torn] D' L1 D' Lp' L2 F1 G1) => duoB_open40 D' HAG.out HLN.out.2 HFU.out.whole HOF.out W F1 G1 h)
          rw [← hO] at H33 H40
          have H37 := Lib.hid same_true
          have hsm := opened_small HFU.out.whole (i + 1)
          rw [← hO] at hsm
          have HPL : Hid (∀ W F' G' g' q', DuoB w W d g' r q' wr.heap.size #[.int .i64 4, .int .i64 n, .slice A7 rec.length c7, .bool torn] D' O.1 D' Lp' O.1 F' G' → Play w W d g' r q' D' O.1 (i + 1)) :=
            fun W F' G' g' q' h1 => ⟨Lp', F', G', h1.duo, HAG.out, HFU.out, hsm, HLN2.out.1, HLN2.out.2⟩
          have hpos : O.1.pos ≤ 256 := hsm.pos
          have r2 : (O.1.pos : Int) ≤ 256 := by omega
          clear hsm hO
          go_wp2_with (first
            | (go_at_call 37; refine (H37.out _ _ _ _ (isStrs0_own (own_below o5 hb6) rfl) (isStrs0_own o6 rfl)).mono ?_; rintro e7 w7 ⟨rfl, hb7⟩)
            | (go_at_call 40; refine (H40.out _ _ _ _ _ _ _ p5).mono ?_; rintro e6 w6 ⟨q6, v6, rfl, p6, o6, hb6⟩; obtain ⟨A6, c6, rfl, _⟩ := own_form o6)
            | (go_at_call 33; rw [← HW.out]; refine (H33.out _ _ _ _ _ _ _ _ HDB.out).mono ?_; rintro e5 w5 ⟨g6, v5, rfl, p5, o5⟩; obtain ⟨A5, c5, rfl, _⟩ := own_form o5))
          have HPL2 := Lib.hid (HPL.out _ _ _ _ _ (p6.below hb7))
          have H35 := Lib.hid (fun n => (room_any g6 d O.1 (w7.drewN n) ((p6.below hb7).duo.log.stay rfl) hpos).mono fun e w' (hh : _ ∧ _) => (⟨hh.1, hh.2.symm⟩ : e = .returned (.int .i64 (256 - (O.1.pos : Int))) ∧ w' = w7.drewN n))
          have H43 := Lib.hid (fun n => (rroom_any q6 r O.1 (w7.drewN n) ((p6.below hb7).duo.rlog.stay rfl) hpos).mono fun e w' (hh : _ ∧ _) => (⟨hh.1, hh.2.symm⟩ : e = .returned (.int .i64 (256 - (O.1.pos : Int))) ∧ w' = w7.drewN n))
          have H36 := Lib.hid (fun n => (epoch_any g6 d O.1 (w7.drewN n) ((p6.below hb7).duo.log.stay rfl)).mono fun e w' (hh : _ ∧ _) => (⟨hh.1, hh.2.symm⟩ : e = .returned (.int .i64 (O.1.epoch : Int)) ∧ w' = w7.drewN n))
          have z2 := (p6.below hb7).duo.rlog.c2
          clear p6 o5 o6 hb7
          go_quiet (first | (go_at_call 35; exact Calls.quiet_of_same (H35.out _)) | (go_at_call 43; exact Calls.quiet_of_same (H43.out _)) | (go_at_call 36; exact Calls.quiet_of_same (H36.out _)))
          go_wp2_with fail
          go_roundw
          case rel => exact ⟨i + 1, g6, q6, D', O.1, by omega, by go_num, rfl, rfl, HPL2.out.below (below_drewN (Below.refl _ _) _)⟩
          case measure => simp [intOf]; omega
        · obtain ⟨D', hD'⟩ : ∃ X, X = D.restart n torn := ⟨_, rfl⟩
          obtain ⟨Lp', hLp'⟩ : ∃ X, X = restL D Lp n torn := ⟨_, rfl⟩
          have H21 : Hid (∀ W F1 G1, DuoB w W d g r q wr.heap.size #[.int .i64 do_, .int .i64 n, .slice A7 rec.length c7, .bool torn] D L D Lp L F1 G1 → Calls Try.prog 21 #[.pointer (some ⟨d, 0, none⟩), .int .i64 n, .bool torn] W fun e w' => e = .returned (.tuple #[]) ∧ ∃ F', DuoB w w' d g r q wr.heap.size #[.int .i64 do_, .int .i64 n, .slice A7 rec.length c7, .bool torn] D' L D Lp L F' G1) := by
            intro W F1 G1 hdu
            have h := restart_any d F1 D n torn W hdu.duo.disk (by have := HL12.out.1; omega) (by have := HP.out.turns; omega)
            rw [← hD'] at h
            exact h.mono fun e w' hh => ⟨hh.1, duoB_disk hdu hh.2⟩
          have H29 : Hid (∀ W F1 G1, DuoB w W d g r q wr.heap.size #[.int .i64 do_, .int .i64 n, .slice A7 rec.length c7, .bool torn] D' L D Lp L F1 G1 → Calls Try.prog 29 #[.pointer (some ⟨r, 0, none⟩), .int .i64 n, .bool torn] W fun e w' => e = .returned (.tuple #[]) ∧ ∃ G', DuoB w w' d g r q wr.heap.size #[.int .i64 do_, .int .i64 n, .slice A7 rec.length c7, .bool torn] D' L D' Lp' L F1 G') := by
            intro W F1 G1 hdu
            have h := rrestart_any r G1 D Lp n torn W hdu.duo.ref (by have := HL12.out.2; omega)
            rw [← hD', ← hLp'] at h
            exact h.mono fun e w' hh => ⟨hh.1, duoB_ref hdu hh.2⟩
          have C1 : Hid (∀ W D1 L1 D2 Lp2 L2 F1 G1, DuoB w W d g r q wr.heap.size #[.int .i64 do_, .int .i64 n, .slice A7 rec.length c7, .bool torn] D1 L1 D2 Lp2 L2 F1 G1 → W.cell? ⟨wr.heap.size, 1, none⟩ = some (.int .i64 n)) := fun W D1 L1 D2 Lp2 L2 F1 G1 h => (h.blk.cell 1).trans rfl
          have C3 : Hid (∀ W D1 L1 D2 Lp2 L2 F1 G1, DuoB w W d g r q wr.heap.size #[.int .i64 do_, .int .i64 n, .slice A7 rec.length c7, .bool torn] D1 L1 D2 Lp2 L2 F1 G1 → W.cell? ⟨wr.heap.size, 3, none⟩ = some (.bool torn)) := fun W D1 L1 D2 Lp2 L2 F1 G1 h => (h.blk.cell 3).trans rfl
          have HAG := Lib.hid (agree_restart HP.out.agree n torn)
          have HFU := Lib.hid (full_restart HP.out.full n torn)
          have HOF : Hid ((D.restart n torn).off = false) := rfl
          have hrl := (restart_len D Lp n torn).1
          have HLN : Hid ((D.restart n torn).wait.length < 1099511627776 ∧ (restL D Lp n torn).length + (D.restart n torn).wait.length < 1099511627776) := ⟨by show 0 < _; omega, by have := HL12.out.2; have h0 : (D.restart n torn).wait.length = 0 := rfl; omega⟩
          have HLN2 : Hid ((restL D Lp n torn).length + (D.restart n torn).wait.length ≤ (i + 1) * 1000 ∧ (D.restart n torn).turns ≤ i + 1) := ⟨by have := HP.out.long; have h0 : (D.restart n torn).wait.length = 0 := rfl; omega, by have := HP.out.turns; show D.turns + 1 ≤ _; omega⟩
          rw [← hD'] at HAG HFU HOF HLN HLN2
          rw [← hLp'] at HAG HLN HLN2
          clear hD' hLp' hrl
          have hcase : (do_ ≠ 4) ∨ (do_ = 4 ∧ D.off = true) := by
            by_cases h4 : do_ = 4
            · cases ho : D.off with
              | true => exact .inr ⟨h4, rfl⟩
              | false => exact absurd ⟨h4, ho⟩ c4
            · exact .inl h4
          clear c4
          rcases hcase with h4 | ⟨rfl, h4⟩
          · have n4 : (do_ == 4) = false := by rw [beq_eq_false_iff_ne]; exact h4
            have n4' : (do_ != 4) = true := by rw [bne, n4]; rfl
            clear h4 hrf
            obtain ⟨O, hO⟩ : ∃ O, O = opened D' := ⟨_, rfl⟩
            have H33 := Lib.hid (fun W F1 G1 L1 L2 Lp' q' g0 (h : DuoB w W d g0 r q' wr.heap.size #[.int .i64 do_, .int .i64 n, .slice A7 rec.length c7, .bool torn] D' L1 D' Lp' L2 F1 G1) => duoB_open33 D' HLN.out.1 HFU.out.whole HOF.out W F1 G1 h)
            have H40 := Lib.hid (fun W F1 G1 L1 L2 q' g0 (h : DuoB w W d g0 r q' wr.heap.size #[.int .i64 do_, .int .i64 n, .slice A7 rec.length c7, .bool torn] D' L1 D' Lp' L2 F1 G1) => duoB_open40 D' HAG.out HLN.out.2 HFU.out.whole HOF.out W F1 G1 h)
            rw [← hO] at H33 H40
            have H37 := Lib.hid same_true
            have hsm := opened_small HFU.out.whole (i + 1)
            rw [← hO] at hsm
            have HPL : Hid (∀ W F' G' g' q', DuoB w W d g' r q' wr.heap.size #[.int .i64 do_, .int .i64 n, .slice A7 rec.length c7, .bool torn] D' O.1 D' Lp' O.1 F' G' → Play w W d g' r q' D' O.1 (i + 1)) :=
              fun W F' G' g' q' h1 => ⟨Lp', F', G', h1.duo, HAG.out, HFU.out, hsm, HLN2.out.1, HLN2.out.2⟩
            have hpos : O.1.pos ≤ 256 := hsm.pos
            have r2 : (O.1.pos : Int) ≤ 256 := by omega
            clear hsm hO
            go_wp2_with (first
              | (go_at_call 37; refine (H37.out _ _ _ _ (isStrs0_own (own_below o5 hb6) rfl) (isStrs0_own o6 rfl)).mono ?_; rintro e7 w7 ⟨rfl, hb7⟩)
              | (go_at_call 40; refine (H40.out _ _ _ _ _ _ _ p5).mono ?_; rintro e6 w6 ⟨q6, v6, rfl, p6, o6, hb6⟩; obtain ⟨A6, c6, rfl, _⟩ := own_form o6)
              | (go_at_call 33; refine (H33.out _ _ _ _ _ _ _ _ p4).mono ?_; rintro e5 w5 ⟨g6, v5, rfl, p5, o5⟩; obtain ⟨A5, c5, rfl, _⟩ := own_form o5)
              | (go_at_call 29; refine (H29.out _ _ _ p3).mono ?_; rintro e4 w4 ⟨rfl, G4, p4⟩)
              | (go_at_call 21; rw [← HW.out]; refine (H21.out _ _ _ HDB.out).mono ?_; rintro e3 w3 ⟨rfl, F3, p3⟩; have o1 := C1.out _ _ _ _ _ _ _ _ p3; have o3 := C3.out _ _ _ _ _ _ _ _ p3))
            have HPL2 := Lib.hid (HPL.out _ _ _ _ _ (p6.below hb7))
            have H35 := Lib.hid (fun n => (room_any g6 d O.1 (w7.drewN n) ((p6.below hb7).duo.log.stay rfl) hpos).mono fun e w' (hh : _ ∧ _) => (⟨hh.1, hh.2.symm⟩ : e = .returned (.int .i64 (256 - (O.1.pos : Int))) ∧ w' = w7.drewN n))
            have H43 := Lib.hid (fun n => (rroom_any q6 r O.1 (w7.drewN n) ((p6.below hb7).duo.rlog.stay rfl) hpos).mono fun e w' (hh : _ ∧ _) => (⟨hh.1, hh.2.symm⟩ : e = .returned (.int .i64 (256 - (O.1.pos : Int))) ∧ w' = w7.drewN n))
            have H36 := Lib.hid (fun n => (epoch_any g6 d O.1 (w7.drewN n) ((p6.below hb7).duo.log.stay rfl)).mono fun e w' (hh : _ ∧ _) => (⟨hh.1, hh.2.symm⟩ : e = .returned (.int .i64 (O.1.epoch : Int)) ∧ w' = w7.drewN n))
            have z2 := (p6.below hb7).duo.rlog.c2
            clear p6 o5 o6 hb7
            go_quiet (first | (go_at_call 35; exact Calls.quiet_of_same (H35.out _)) | (go_at_call 43; exact Calls.quiet_of_same (H43.out _)) | (go_at_call 36; exact Calls.quiet_of_same (H36.out _)))
            go_wp2_with fail
            go_roundw
            case rel => exact ⟨i + 1, g6, q6, D', O.1, by omega, by go_num, rfl, rfl, HPL2.out.below (below_drewN (Below.refl _ _) _)⟩
            case measure => simp [intOf]; omega
          · rw [h4] at hrf
            clear h4 n0 n1 n2 n3 n5
            obtain ⟨O, hO⟩ : ∃ O, O = opened D' := ⟨_, rfl⟩
            have H33 := Lib.hid (fun W F1 G1 L1 L2 Lp' q' g0 (h : DuoB w W d g0 r q' wr.heap.size #[.int .i64 4, .int .i64 n, .slice A7 rec.length c7, .bool torn] D' L1 D' Lp' L2 F1 G1) => duoB_open33 D' HLN.out.1 HFU.out.whole HOF.out W F1 G1 h)
            have H40 := Lib.hid (fun W F1 G1 L1 L2 q' g0 (h : DuoB w W d g0 r q' wr.heap.size #[.int .i64 4, .int .i64 n, .slice A7 rec.length c7, .bool torn] D' L1 D' Lp' L2 F1 G1) => duoB_open40 D' HAG.out HLN.out.2 HFU.out.whole HOF.out W F1 G1 h)
            rw [← hO] at H33 H40
            have H37 := Lib.hid same_true
            have hsm := opened_small HFU.out.whole (i + 1)
            rw [← hO] at hsm
            have HPL : Hid (∀ W F' G' g' q', DuoB w W d g' r q' wr.heap.size #[.int .i64 4, .int .i64 n, .slice A7 rec.length c7, .bool torn] D' O.1 D' Lp' O.1 F' G' → Play w W d g' r q' D' O.1 (i + 1)) :=
              fun W F' G' g' q' h1 => ⟨Lp', F', G', h1.duo, HAG.out, HFU.out, hsm, HLN2.out.1, HLN2.out.2⟩
            have hpos : O.1.pos ≤ 256 := hsm.pos
            have r2 : (O.1.pos : Int) ≤ 256 := by omega
            clear hsm hO
            go_wp2_with (first
              | (go_at_call 37; refine (H37.out _ _ _ _ (isStrs0_own (own_below o5 hb6) rfl) (isStrs0_own o6 rfl)).mono ?_; rintro e7 w7 ⟨rfl, hb7⟩)
              | (go_at_call 40; refine (H40.out _ _ _ _ _ _ _ p5).mono ?_; rintro e6 w6 ⟨q6, v6, rfl, p6, o6, hb6⟩; obtain ⟨A6, c6, rfl, _⟩ := own_form o6)
              | (go_at_call 33; refine (H33.out _ _ _ _ _ _ _ _ p4).mono ?_; rintro e5 w5 ⟨g6, v5, rfl, p5, o5⟩; obtain ⟨A5, c5, rfl, _⟩ := own_form o5)
              | (go_at_call 29; refine (H29.out _ _ _ p3).mono ?_; rintro e4 w4 ⟨rfl, G4, p4⟩)
              | (go_at_call 21; rw [← HW.out]; refine (H21.out _ _ _ HDB.out).mono ?_; rintro e3 w3 ⟨rfl, F3, p3⟩; have o1 := C1.out _ _ _ _ _ _ _ _ p3; have o3 := C3.out _ _ _ _ _ _ _ _ p3))
            have HPL2 := Lib.hid (HPL.out _ _ _ _ _ (p6.below hb7))
            have H35 := Lib.hid (fun n => (room_any g6 d O.1 (w7.drewN n) ((p6.below hb7).duo.log.stay rfl) hpos).mono fun e w' (hh : _ ∧ _) => (⟨hh.1, hh.2.symm⟩ : e = .returned (.int .i64 (256 - (O.1.pos : Int))) ∧ w' = w7.drewN n))
            have H43 := Lib.hid (fun n => (rroom_any q6 r O.1 (w7.drewN n) ((p6.below hb7).duo.rlog.stay rfl) hpos).mono fun e w' (hh : _ ∧ _) => (⟨hh.1, hh.2.symm⟩ : e = .returned (.int .i64 (256 - (O.1.pos : Int))) ∧ w' = w7.drewN n))
            have H36 := Lib.hid (fun n => (epoch_any g6 d O.1 (w7.drewN n) ((p6.below hb7).duo.log.stay rfl)).mono fun e w' (hh : _ ∧ _) => (⟨hh.1, hh.2.symm⟩ : e = .returned (.int .i64 (O.1.epoch : Int)) ∧ w' = w7.drewN n))
            have z2 := (p6.below hb7).duo.rlog.c2
            clear p6 o5 o6 hb7
            go_quiet (first | (go_at_call 35; exact Calls.quiet_of_same (H35.out _)) | (go_at_call 43; exact Calls.quiet_of_same (H43.out _)) | (go_at_call 36; exact Calls.quiet_of_same (H36.out _)))
            go_wp2_with fail
            go_roundw
            case rel => exact ⟨i + 1, g6, q6, D', O.1, by omega, by go_num, rfl, rfl, HPL2.out.below (below_drewN (Below.refl _ _) _)⟩
            case measure => simp [intOf]; omega
      · obtain rfl : i = N := by omega
        have q1 : ¬ (i : Int) < (i : Int) := by omega
        have HP := Lib.hid hp.duo.bel
        clear hp
        go_wp2_with fail
        go_ret
        exact ⟨rfl, HP.out⟩
end Go.Proofs.Ytddaiihhhajieaa
