/- The walk of the document's Open. -/
import Derived.Test.YtddaiihhhajieaaRefGroup
import Derived.Test.YtddaiihhhajieaaRefAppend
import Derived.Test.YtddaiihhhajieaaLogOpen
namespace Go.Proofs.Ytddaiihhhajieaa
open Go.RowKit Go.Maps

theorem groups_zero (D : Dk) (f : Nat) (L : Lg) (h : L.epoch = 0) (out : List ByteArray) : groupsFrom D f L out = (L, out) := by
  cases f with
  | zero => rfl
  | succ f =>
    unfold groupsFrom
    rw [if_neg (by omega)]

set_option maxHeartbeats 4000000 in
set_option maxRecDepth 100000 in
theorem rlopen_any (r : Nat) (G : Foot) (D : Dk) (Lp : Puts) (w : World) (h : IsRef w r G D Lp) (ha : Agree D Lp) (hlen : Lp.length + D.wait.length < 1099511627776) (hw : Whole D) (ho : D.off = false) :
    Calls Try.prog 40 #[.pointer (some ⟨r, 0, none⟩)] w fun e w' => ∃ q v, e = .returned (.tuple #[.pointer (some ⟨q, 0, none⟩), v, .int .i64 0]) ∧ Below w.heap.size w w' ∧ w.heap.size ≤ q ∧ RLogAt w' q r (opened D).1 ∧
      w'.ownsRow w.heap.size 9 1 v (opened D).2.length (strsV (opened D).2) := by
  obtain ⟨O, hO⟩ : ∃ O, O = opened D := ⟨_, rfl⟩
  rw [← hO]
  have HO := Lib.hid hO
  clear hO
  have c3 : w.cell? ⟨r, 3, none⟩ = some (.bool false) := by
    obtain ⟨lv, wv, h1, _⟩ := h
    rw [← ho]
    exact h1.c3
  have H30 : Hid (∀ W (n : Nat) (x : Int), x = (n : Int) → Below w.heap.size w W → Calls Try.prog 30 #[.pointer (some ⟨r, 0, none⟩), .int .i64 x] W fun e w' => e = .returned (.tuple #[.string (D.rd n).1, .int .i64 (D.rd n).2]) ∧ Below W.heap.size W w') := by
    rintro W n x rfl hb
    have h := rread_any r G D Lp n W (h.below hb) hlen
    rw [agree_rd ha] at h
    exact h
  have H64 : Hid (∀ W (side pos epoch group : Nat) (x : Int), x = 256 * (side : Int) + (pos : Int) → Below w.heap.size w W → side ≤ 1 → pos < 256 → epoch < 4294967296 → group < 4294967296 →
      Calls Try.prog 64 #[.pointer (some ⟨r, 0, none⟩), .int .i64 x, .int .i64 epoch, .int .i64 group] W (ReadLeft W (rdGroup D side pos epoch group))) := by
    rintro W side pos epoch group x rfl hb h1 h2 h3 h4
    exact rgroup_any r G D Lp side pos epoch group W (h.below hb) ha hlen hw h1 h2 h3 h4
  have HW := Lib.hid hw
  have HN := Lib.hid rnumber_any
  obtain ⟨i0, hi, hz0, hz1, hz2⟩ := info_parts Try.info9
  clear h hlen hw ho ha
  go_enter Try.func40, Try.ntmps40
  go_wp2_with fail
  have hL0 : RLogAt (w.alloc (.cells #[.pointer (some ⟨r, 0, none⟩), .int .i64 0, .int .i64 0, .int .i64 0, .int .i64 0, .bool false] 68)) w.heap.size r (pickK D 0) := Blk.new w 68 _
  have hb0 : Below w.heap.size w (w.alloc (.cells #[.pointer (some ⟨r, 0, none⟩), .int .i64 0, .int .i64 0, .int .i64 0, .int .i64 0, .bool false] 68)) := (Below.refl _ _).alloc (Nat.le_refl _) _
  clear c3
  go_loopw [6] (fun i wr => ∃ k : Nat, k ≤ 2 ∧ i = .int .i64 k ∧ RLogAt wr w.heap.size r (pickK D k) ∧ (pickK D k).epoch < 4294967296 ∧ Below w.heap.size w wr) (fun i _ => 2 - (intOf i).toNat)
  case atStart => exact ⟨0, by omega, rfl, hL0, by show 0 < _; omega, hb0⟩
  case round =>
    obtain ⟨k, hk, rfl, hL, hep, hbel⟩ := hrel
    clear hL0 hb0
    by_cases hlt : k < 2
    · have b1 : (k : Int) < 2 := by omega
      have hps := pickK_succ D k
      obtain ⟨L, hLe⟩ : ∃ L, L = pickK D k := ⟨_, rfl⟩
      rw [← hLe] at hps hL hep
      have hr := H30.out wr (256 * k) (256 * (k : Int)) (by omega) hbel
      have hw1 := HW.out (256 * k)
      unfold pickOne at hps
      obtain ⟨⟨b, e⟩, hbe⟩ : ∃ x, x = D.rd ((256 * k : Nat) : Int) := ⟨_, rfl⟩
      rw [← hbe] at hps hw1 hr
      simp only at hps hw1 hr
      have H := Lib.hid hr
      clear hr hbe hLe
      by_cases h0 : e = 0
      · subst h0
        rw [if_neg (by simp)] at hps
        have hb64 := hw1 rfl
        have hn4 := numB_lt4 (b.extract 0 4) (by simp; omega)
        have hN := HN.out (b.extract 0 4) (by simp; omega)
        obtain ⟨ep, hepp⟩ : ∃ ep, ep = numB (b.extract 0 4) := ⟨_, rfl⟩
        rw [← hepp] at hps hn4 hN
        have HNN := Lib.hid hN
        have k4 : (4 : Int) ≤ b.size := by omega
        have h64 : ∀ W, Below w.heap.size w W → Calls Try.prog 64 #[.pointer (some ⟨r, 0, none⟩), .int .i64 (256 * (k : Int)), .int .i64 ep, .int .i64 0] W (ReadLeft W (rdGroup D k 0 ep 0)) :=
          fun W hb => H64.out W k 0 ep 0 (256 * (k : Int)) (by simp) hb (by omega) (by omega) hn4 (by omega)
        have hpos := fun p => rdGroup_n (D := D) (side := k) (pos := 0) (epoch := ep) (group := 0) (p := p) (by omega)
        obtain ⟨G, hG⟩ : ∃ G, G = rdGroup D k 0 ep 0 := ⟨_, rfl⟩
        rw [← hG] at h64 hps hpos
        have H6 := Lib.hid h64
        have HL := Lib.hid hL
        have HB := Lib.hid hbel
        have HN4 := Lib.hid hn4
        clear h64 hG hL hbel hw1 hb64 hN hepp
        cases G with
        | none =>
          rw [if_neg (by simp)] at hps
          have HPS := Lib.hid hps
          clear hps hpos
          rcases (show L.epoch < ep ∨ ¬ L.epoch < ep by omega) with b4' | b4'
          · have b4 : (L.epoch : Int) < (ep : Int) := by omega
            go_wp2_with (first
              | (go_at_call 30; refine H.out.mono ?_; rintro e3 w3 ⟨rfl, hb3⟩; have HB3 := Lib.hid (HB.out.trans (hb3.mono HB.out.size)); have HL3 := Lib.hid (HL.out.below hb3); clear hb3)
              | (go_at_call 63; refine (HNN.out _).mono ?_; rintro e4 w4 ⟨rfl, rfl⟩)
              | (go_at_call 64; refine (H6.out _ HB3.out).mono ?_; rintro e5 w5 ⟨hb5, hm5⟩; obtain rfl := hm5; have HB5 := Lib.hid (HB3.out.trans (hb5.mono HB3.out.size)); have HL5 := Lib.hid (HL3.out.below hb5); have c6 := HL5.out.c2; clear hb5))
            go_roundw
            case rel => exact ⟨k + 1, by omega, by go_num, by rw [HPS.out]; exact HL5.out, by rw [HPS.out]; exact hep, HB5.out⟩
            case measure => simp [intOf]; omega
          · have b4 : ¬ (L.epoch : Int) < (ep : Int) := by omega
            go_wp2_with (first
              | (go_at_call 30; refine H.out.mono ?_; rintro e3 w3 ⟨rfl, hb3⟩; have HB3 := Lib.hid (HB.out.trans (hb3.mono HB.out.size)); have HL3 := Lib.hid (HL.out.below hb3); clear hb3)
              | (go_at_call 63; refine (HNN.out _).mono ?_; rintro e4 w4 ⟨rfl, rfl⟩)
              | (go_at_call 64; refine (H6.out _ HB3.out).mono ?_; rintro e5 w5 ⟨hb5, hm5⟩; obtain rfl := hm5; have HB5 := Lib.hid (HB3.out.trans (hb5.mono HB3.out.size)); have HL5 := Lib.hid (HL3.out.below hb5); have c6 := HL5.out.c2; clear hb5))
            go_roundw
            case rel => exact ⟨k + 1, by omega, by go_num, by rw [HPS.out]; exact HL5.out, by rw [HPS.out]; exact hep, HB5.out⟩
            case measure => simp [intOf]; omega
        | some p =>
          obtain ⟨rs, n⟩ := p
          obtain ⟨hn1, hn2⟩ := hpos _ rfl
          simp only at hn1 hn2
          have b3 : (0 : Int) < (n : Int) := by omega
          by_cases hlt2 : L.epoch < ep
          · rw [if_pos ⟨rfl, hlt2⟩] at hps
            have b4 : (L.epoch : Int) < (ep : Int) := by omega
            have HPS := Lib.hid hps
            clear hps hpos
            go_wp2_with (first
              | (go_at_call 30; refine H.out.mono ?_; rintro e3 w3 ⟨rfl, hb3⟩; have HB3 := Lib.hid (HB.out.trans (hb3.mono HB.out.size)); have HL3 := Lib.hid (HL.out.below hb3); clear hb3)
              | (go_at_call 63; refine (HNN.out _).mono ?_; rintro e4 w4 ⟨rfl, rfl⟩)
              | (go_at_call 64; refine (H6.out _ HB3.out).mono ?_; rintro e5 w5 ⟨hb5, hm5⟩; obtain ⟨v, rfl, ho5⟩ := hm5; obtain ⟨A, c, hvf, _⟩ := own_form ho5; have HB5 := Lib.hid (HB3.out.trans (hb5.mono HB3.out.size)); have HL5 := Lib.hid (HL3.out.below hb5); have c6 := HL5.out.c2; have c7 := HL5.out.c1; have f1 := HL5.out.fz 1; have f2 := HL5.out.fz 2; clear ho5 hb5; subst hvf))
            go_roundw
            case rel =>
              refine ⟨k + 1, by omega, by go_num, ?_, by rw [HPS.out]; exact HN4.out, (HB5.out.setCell (p := ⟨w.heap.size, 1, none⟩) (Nat.le_refl _) _).setCell (p := ⟨w.heap.size, 2, none⟩) (Nat.le_refl _) _⟩
              rw [HPS.out]
              exact ((HL5.out.set_side k).set_epoch ep)
            case measure => simp [intOf]; omega
          · rw [if_neg (by rintro ⟨-, h⟩; exact hlt2 h)] at hps
            have b4 : ¬ (L.epoch : Int) < (ep : Int) := by omega
            have HPS := Lib.hid hps
            clear hps hpos
            go_wp2_with (first
              | (go_at_call 30; refine H.out.mono ?_; rintro e3 w3 ⟨rfl, hb3⟩; have HB3 := Lib.hid (HB.out.trans (hb3.mono HB.out.size)); have HL3 := Lib.hid (HL.out.below hb3); clear hb3)
              | (go_at_call 63; refine (HNN.out _).mono ?_; rintro e4 w4 ⟨rfl, rfl⟩)
              | (go_at_call 64; refine (H6.out _ HB3.out).mono ?_; rintro e5 w5 ⟨hb5, hm5⟩; obtain ⟨v, rfl, ho5⟩ := hm5; obtain ⟨A, c, hvf, _⟩ := own_form ho5; have HB5 := Lib.hid (HB3.out.trans (hb5.mono HB3.out.size)); have HL5 := Lib.hid (HL3.out.below hb5); have c6 := HL5.out.c2; clear ho5 hb5; subst hvf))
            go_roundw
            case rel => exact ⟨k + 1, by omega, by go_num, by rw [HPS.out]; exact HL5.out, by rw [HPS.out]; exact hep, HB5.out⟩
            case measure => simp [intOf]; omega
      · rw [if_pos h0] at hps
        have q : (e != 0) = true := by rw [bne_iff_ne]; exact h0
        have K := Lib.hid (show RLogAt wr w.heap.size r (pickK D (k + 1)) ∧ (pickK D (k + 1)).epoch < 4294967296 ∧ Below w.heap.size w wr by rw [hps]; exact ⟨hL, hep, hbel⟩)
        clear hps hL hep hbel hw1
        go_wp2_with (go_at_call 30; refine H.out.mono ?_; rintro e3 w3 ⟨rfl, hb3⟩)
        go_roundw
        case rel => exact ⟨k + 1, by omega, by go_num, K.out.1.below hb3, K.out.2.1, K.out.2.2.trans (hb3.mono K.out.2.2.size)⟩
        case measure => simp [intOf]; omega
    · obtain rfl : k = 2 := by omega
      have e2 : ((2 : Nat) : Int) = 2 := rfl
      rw [e2]
      clear hlt hk
      obtain ⟨hs0, hp0, hg0⟩ := picked_fine D
      have hop : opened D = groupsFrom D 257 (pickK D 2) [] := rfl
      generalize pickK D 2 = L at hL hep hs0 hp0 hg0 hop
      have c2 := hL.c2
      by_cases hz : L.epoch = 0
      · have hO : O = (L, []) := by rw [HO.out, hop, groups_zero D 257 L hz]
        have K := Lib.hid (show RLogAt wr w.heap.size r O.1 ∧ Below w.heap.size w wr ∧ O.2 = [] by rw [hO]; exact ⟨hL, hbel, rfl⟩)
        rw [hz] at c2
        have e0 : ((0 : Nat) : Int) = 0 := rfl
        rw [e0] at c2
        clear hL hbel hop hO hz
        go_wp2_with fail
        go_ret3
        exact ⟨_, _, rfl, K.out.2.1, Nat.le_refl _, K.out.1, by rw [K.out.2.2]; exact ⟨rfl, .inl ⟨rfl, rfl⟩⟩⟩
      have hze : ((L.epoch : Int) == 0) = false := by rw [beq_eq_false_iff_ne]; omega
      have HL := Lib.hid hL
      have HB := Lib.hid hbel
      have HOP := Lib.hid (HO.out.trans hop)
      have HZ := Lib.hid hz
      clear hL hbel hop hz
      go_wp2_with fail
      clear c2
      go_loopw [12] (fun ov wr => ∃ L f out, RLogAt wr w.heap.size r L ∧ wr.ownsRow w.heap.size 9 1 ov out.length (strsV out) ∧ O = groupsFrom D f L out ∧ 256 < f + L.pos ∧ L.pos ≤ 256 ∧ L.epoch < 4294967296 ∧ L.epoch ≠ 0 ∧ L.side ≤ 1 ∧ L.group ≤ L.pos ∧ out.length ≤ L.pos * 26 ∧ Below w.heap.size w wr) (fun _ wr => match wr.cell? ⟨w.heap.size, 3, none⟩ with | some (.int _ n) => 256 - n.toNat | _ => 0)
      case atStart => exact ⟨L, 257, [], HL.out, ⟨rfl, .inl ⟨rfl, rfl⟩⟩, HOP.out, by omega, by omega, hep, HZ.out, hs0, by omega, by simp, HB.out⟩
      case round =>
        obtain ⟨L, f, out, hL, hown, hop, hf, hp, hep, hz, hs, hg, hlen, hbel⟩ := hrel
        clear HL HB HOP hs0 hp0 hg0 hze HZ
        have c3 := hL.c3
        obtain ⟨A, c, rfl, hcc⟩ := own_form hown
        obtain ⟨f, rfl⟩ : ∃ j, f = j + 1 := ⟨f - 1, by omega⟩
        unfold groupsFrom at hop
        by_cases hgo : L.pos < 256
        · rw [if_pos ⟨by omega, hgo⟩] at hop
          have b2 : ((L.pos : Int) == 256) = false := by rw [beq_eq_false_iff_ne]; omega
          have h64 : ∀ W, Below wr.heap.size wr W → Calls Try.prog 64 #[.pointer (some ⟨r, 0, none⟩), .int .i64 (256 * (L.side : Int) + (L.pos : Int)), .int .i64 L.epoch, .int .i64 L.group] W (ReadLeft W (rdGroup D L.side L.pos L.epoch L.group)) :=
            fun W hb => H64.out W L.side L.pos L.epoch L.group _ rfl (hbel.trans (hb.mono hbel.size)) hs hgo hep (by omega)
          have hpos := fun p => rdGroup_n (D := D) (side := L.side) (pos := L.pos) (epoch := L.epoch) (group := L.group) (p := p) hp
          have hrl := fun p => rdGroup_len HW.out (side := L.side) (pos := L.pos) (epoch := L.epoch) (group := L.group) (p := p)
          obtain ⟨G, hG⟩ : ∃ G, G = rdGroup D L.side L.pos L.epoch L.group := ⟨_, rfl⟩
          rw [← hG] at h64 hop hpos hrl
          have H6 := Lib.hid (h64 wr.drew (Below.refl _ _).drew)
          have HL := Lib.hid hL
          have HB := Lib.hid hbel
          have HOW := Lib.hid hown
          have g1 : IntKind.i64.wrap (256 * (L.side : Int)) = 256 * (L.side : Int) := IntWalk.i64_in _ (by omega)
          have g2 : IntKind.i64.wrap (256 * (L.side : Int) + (L.pos : Int)) = 256 * (L.side : Int) + (L.pos : Int) := IntWalk.i64_in _ (by omega)
          have KS : Hid (wr.drew.cell? ⟨w.heap.size, 1, none⟩ = some (.int .i64 (L.side : Int)) ∧ wr.drew.cell? ⟨w.heap.size, 2, none⟩ = some (.int .i64 (L.epoch : Int)) ∧ wr.drew.cell? ⟨w.heap.size, 3, none⟩ = some (.int .i64 (L.pos : Int)) ∧ wr.drew.cell? ⟨w.heap.size, 4, none⟩ = some (.int .i64 (L.group : Int))) := ⟨hL.c1, hL.c2, hL.c3, hL.c4⟩
          have KB : Hid (∀ W, Below wr.drew.heap.size wr.drew W → RLogAt W w.heap.size r L ∧ Below w.heap.size w W ∧ W.ownsRow w.heap.size 9 1 (.slice A out.length c) out.length (strsV out)) := fun W hW =>
            ⟨hL.below ((Below.refl _ _).drew.trans hW), hbel.trans (((Below.refl _ _).drew.trans hW).mono hbel.size), own_stay hown (fun g hg => hW.block g (own_lt hown g hg))⟩
          have HZ := Lib.hid hz
          clear h64 hG hL hbel hown hz
          cases G with
          | none =>
            have HOP := Lib.hid hop
            clear hop hpos hrl
            go_wp2_with fail
            go_region_held3 (fun W => W.cell? ⟨w.heap.size, 1, none⟩ = some (.int .i64 (L.side : Int)) ∧ W.cell? ⟨w.heap.size, 2, none⟩ = some (.int .i64 (L.epoch : Int)) ∧ W.cell? ⟨w.heap.size, 3, none⟩ = some (.int .i64 (L.pos : Int)) ∧ W.cell? ⟨w.heap.size, 4, none⟩ = some (.int .i64 (L.group : Int))) (first | (with_reducible exact KS.out) | (with_reducible exact ⟨y1, y2, y3, y4⟩))
              (first | (go_at_call 64; refine H6.out.mono ?_; rintro e5 w5 ⟨hb5, hm5⟩; obtain rfl := hm5; have HL5 := Lib.hid (KB.out _ hb5).1; have y1 := HL5.out.c1; have y2 := HL5.out.c2; have y3 := HL5.out.c3; have y4 := HL5.out.c4))
            all_goals
              have K := Lib.hid (show Below w.heap.size w w5 ∧ RLogAt w5 w.heap.size r O.1 ∧ w5.ownsRow w.heap.size 9 1 (.slice A out.length c) O.2.length (strsV O.2) by rw [HOP.out]; exact ⟨(KB.out _ hb5).2.1, (KB.out _ hb5).1, (KB.out _ hb5).2.2⟩)
              clear hb5
              go_wp2_with fail
              go_ret3
              exact ⟨_, _, rfl, K.out.1, Nat.le_refl _, K.out.2.1, K.out.2.2⟩
          | some p =>
            obtain ⟨rs, n⟩ := p
            obtain ⟨hn1, hn2⟩ := hpos _ rfl
            have hrs := hrl _ rfl
            simp only at hn1 hn2 hrs hop
            have HOP := Lib.hid hop
            have b3 : ((n : Int) == 0) = false := by rw [beq_eq_false_iff_ne]; omega
            have g5 : n ≤ 256 := by omega
            have g6 : L.group ≤ 256 := by omega
            have HC3 := Lib.hid c3
            have HLN := Lib.hid (show out.length + rs.length ≤ maxLen ∧ (out.length + rs.length) * 16 ≤ 140737488355328 ∧ (out ++ rs).length ≤ (L.pos + n) * 26 by unfold maxLen; rw [List.length_append, Nat.add_mul]; omega)
            clear hop hpos hrl
            go_wp2_with fail
            go_region_held3 (fun W => W.cell? ⟨w.heap.size, 1, none⟩ = some (.int .i64 (L.side : Int)) ∧ W.cell? ⟨w.heap.size, 2, none⟩ = some (.int .i64 (L.epoch : Int)) ∧ W.cell? ⟨w.heap.size, 3, none⟩ = some (.int .i64 (L.pos : Int)) ∧ W.cell? ⟨w.heap.size, 4, none⟩ = some (.int .i64 (L.group : Int))) (first | (with_reducible exact KS.out) | (with_reducible exact ⟨y1, y2, y3, y4⟩))
              (first | (go_at_call 64; refine H6.out.mono ?_; rintro e5 w5 ⟨hb5, hm5⟩; obtain ⟨v, rfl, ho5⟩ := hm5; have HL5 := Lib.hid (KB.out _ hb5).1; have y1 := HL5.out.c1; have y2 := HL5.out.c2; have y3 := HL5.out.c3; have y4 := HL5.out.c4; have HO5 := Lib.hid (base_zero ho5); have HB5 := Lib.hid hb5; obtain ⟨A5, c5, hv5, _⟩ := own_form ho5; clear ho5 hb5; subst hv5))
            all_goals
              have HOW5 := Lib.hid (KB.out _ HB5.out).2.2
              have HBB := Lib.hid (KB.out _ HB5.out).2.1
              have HY := Lib.hid (Yields.of_own HO5.out)
              have H1 := Lib.hid (strsV_one rs)
              clear HO5 HB5
              go_wp2_with (at_builtin; refine wpList_append_src rfl (.tmp 104) (.tmp 105) 51 rfl w.heap.size 9 i0 _ 1 16 Try.underlying51 hi hz0 hz1 hz2 rfl (by decide) _ out.length _ rfl HOW5.out _ rs.length _ rfl HY.out H1.out HLN.out.1 HLN.out.2.1 ?c5 ?_)
              case c5 => exact HBB.out.size
              intro v' w6 ho6 hg6 hl6
              have hne := Blk.ne_own HL5.out HOW5.out (by decide)
              have HL6 := Lib.hid (RLogAt.stay (w' := w6) HL5.out (hg6.block _ HL5.out.lt (fun e => hne e.symm)))
              have hne6 := Blk.ne_own HL6.out ho6 (by decide)
              have z3 := HL6.out.c3
              have z4 := HL6.out.c4
              have f3 := HL6.out.fz 3
              have f4 := HL6.out.fz 4
              have hb6 : Below w.heap.size w w6 := (((Moves.refl w noFoot).below HBB.out).grown hg6 (fun k hk => .inr ((HOW5.out.lt k hk).1))).toBelow (Nat.le_refl _) (fun _ hk => hk.elim)
              have K : Hid (∀ v1, v1 = v' → RLogAt ((w6.setCell ⟨w.heap.size, 3, none⟩ (.int .i64 ((L.pos : Int) + (n : Int)))).setCell ⟨w.heap.size, 4, none⟩ (.int .i64 ((L.group : Int) + 1))) w.heap.size r { L with pos := L.pos + n, group := L.group + 1 } ∧
                  ((w6.setCell ⟨w.heap.size, 3, none⟩ (.int .i64 ((L.pos : Int) + (n : Int)))).setCell ⟨w.heap.size, 4, none⟩ (.int .i64 ((L.group : Int) + 1))).ownsRow w.heap.size 9 1 v1 (out ++ rs).length (strsV (out ++ rs)) ∧
                  Below w.heap.size w ((w6.setCell ⟨w.heap.size, 3, none⟩ (.int .i64 ((L.pos : Int) + (n : Int)))).setCell ⟨w.heap.size, 4, none⟩ (.int .i64 ((L.group : Int) + 1)))) := by
                rintro v1 rfl
                refine ⟨(HL6.out.set_pos (L.pos + n)).set_group (L.group + 1), ?_, (hb6.setCell (p := ⟨w.heap.size, 3, none⟩) (Nat.le_refl _) _).setCell (p := ⟨w.heap.size, 4, none⟩) (Nat.le_refl _) _⟩
                rw [List.length_append]
                unfold strsV
                rw [List.map_append]
                exact own_stay ho6 (fun g hg => (Below.heap_setCell _ _ _ _ (by rintro rfl; exact hne6 hg)).trans (Below.heap_setCell _ _ _ _ (by rintro rfl; exact hne6 hg)))
              obtain ⟨A6, c6, hv6, _⟩ := own_form ho6
              clear ho6 hg6 hl6 hne hne6 hb6
              subst hv6
              go_wp2_with fail
              go_roundw
              case rel =>
                obtain ⟨k1, k2, k3⟩ := K.out _ rfl
                exact ⟨_, f, out ++ rs, k1, k2, HOP.out, by show 256 < f + (L.pos + n); omega, hn2, hep, HZ.out, hs, by show L.group + 1 ≤ L.pos + n; omega, HLN.out.2.2, k3⟩
              case measure =>
                have k1 := (K.out _ rfl).1.c3
                rw [k1, HC3.out]
                show 256 - ((L.pos + n : Nat) : Int).toNat < 256 - (L.pos : Int).toNat
                omega
        · rw [if_neg (fun h => hgo h.2)] at hop
          have K := Lib.hid (show RLogAt wr w.heap.size r O.1 ∧ wr.ownsRow w.heap.size 9 1 (.slice A out.length c) O.2.length (strsV O.2) by rw [hop]; exact ⟨hL, hown⟩)
          have HB := Lib.hid hbel
          have b2 : ((L.pos : Int) == 256) = true := by rw [beq_iff_eq]; omega
          clear hL hown hop hbel hgo
          go_wp2_with fail
          go_ret3
          exact ⟨_, _, rfl, HB.out, Nat.le_refl _, K.out.1, K.out.2⟩
end Go.Proofs.Ytddaiihhhajieaa
