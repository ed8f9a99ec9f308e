/- The walk of LogRenews. -/
import Derived.Test.YtddaiihhhajieaaLogAgain
import Derived.Test.YtddaiihhhajieaaDiskPlays
namespace Go.Proofs.Ytddaiihhhajieaa
open Go.RowKit Go.Maps

theorem wrParts_turns {side pos epoch group n : Nat} {s : ByteArray} (f : Nat) : ∀ (k : Nat) (D : Dk), (wrParts side pos epoch group n s f k D).2.turns = D.turns := by
  induction f with
  | zero => exact fun _ _ => rfl
  | succ f ih =>
    intro k D
    unfold wrParts
    simp only
    split
    · exact (wr_len _ _ _).2
    · rw [ih]; exact (wr_len _ _ _).2
theorem wrGroup_turns (D : Dk) (side pos epoch group : Nat) (s : ByteArray) : (wrGroup D side pos epoch group s).2.turns = D.turns := by
  unfold wrGroup
  simp only
  split
  · exact wrParts_turns _ _ _
  · rw [(sync_len _ []).2]; exact wrParts_turns _ _ _
theorem renew_turns (D : Dk) (L : Lg) (l : List ByteArray) : (renewL D L l).2.1.turns = D.turns := by
  unfold renewL
  split
  · rfl
  split
  · rfl
  simp only
  generalize (if L.epoch = 0 then 0 else 1 - L.side) = sd
  split
  · exact wrGroup_turns _ _ _ _ _ _
  · exact wrGroup_turns _ _ _ _ _ _
theorem append_turns (D : Dk) (L : Lg) (l : List ByteArray) : (appendL D L l).2.1.turns = D.turns := by
  unfold appendL
  split
  · rfl
  split
  · exact renew_turns D L l
  split
  · rfl
  simp only
  split
  · exact wrGroup_turns _ _ _ _ _ _
  · exact wrGroup_turns _ _ _ _ _ _

set_option maxHeartbeats 4000000 in
set_option maxRecDepth 200000 in
theorem renews_walk {w : World} (gv mv : Value) (gs : List (List ByteArray)) (more : List ByteArray) (hgv : IsGroups w gv gs) (hmv : IsStrs w mv more) : Calls Try.prog 10 #[gv, mv] w (Fine w) := by
  obtain ⟨A, c, rfl, hc, hm, hx⟩ := hgv
  have HMV := Lib.hid hmv
  have HX := Lib.hid hx
  obtain ⟨N, hN⟩ : ∃ N, N = gs.length := ⟨_, rfl⟩
  rw [← hN] at hc ⊢
  have HN := Lib.hid hN
  have HC := Lib.hid (⟨hc, hm⟩ : _ ∧ _)
  have HA := Lib.hid awake19
  have HLm := Lib.hid (fun (W : World) (hb : Below w.heap.size w W) => light_any mv more (hmv.below EStr.stays hb))
  have HLg := Lib.hid (fun (W : World) v l (hv : IsStrs W v l) => light_any v l hv)
  have HNW := Lib.hid (fun W => st_new (w0 := w) (w := W))
  have HO := Lib.hid (fun (W : World) (d n : Nat) (D : Dk) (L : Lg) (all : List ByteArray) (hd : DkD w W d D) (hk : Calm D L all n) => calm_open hd hk)
  clear hx hN hc hm hmv
  go_enter Try.func10, Try.ntmps10
  go_wp2_with (first
    | (go_at_call 31; refine (HA.out _).mono ?_; rintro e1 w1 ⟨rfl, hb1⟩)
    | (go_at_call 32; refine (HLm.out _ hb1).mono ?_))
  rintro e2 w2 ⟨b, rfl, hlt, rfl⟩
  cases b with
  | false =>
    go_wp2_with fail
    go_ret
    exact ⟨rfl, hb1⟩
  | true =>
    have HLT := Lib.hid (hlt rfl)
    clear hlt
    by_cases h12 : 12 < N
    · have q : (12 : Int) < (N : Int) := by omega
      go_wp2_with fail
      go_ret
      exact ⟨rfl, hb1⟩
    · have q : ¬ (12 : Int) < (N : Int) := by omega
      go_wp2_with (first
        | (go_at_call 18; refine (HNW.out _ hb1).mono ?_; rintro e3 w3 ⟨d, rfl, hd⟩)
        | (go_at_call 33; refine (HO.out _ _ _ _ _ _ hd calm_zero).mono ?_; rintro e4 w4 ⟨g, v, rfl, hst, ho4, hb4⟩; obtain ⟨A4, c4, rfl, hc4⟩ := own_form ho4; have HST := Lib.hid hst; clear hb1 hd hb4 hst ho4))
      go_loopw [11] (fun iv wr => ∃ i D L all, i ≤ N ∧ iv = .int .i64 (i : Nat) ∧ StD w wr d g D L ∧ Calm D L all i ∧ D.turns = 0) (fun iv _ => N - (intOf iv).toNat)
      case atStart => exact ⟨0, Dk.new, Lg.none, [], Nat.zero_le _, rfl, HST.out, calm_zero, rfl⟩
      case round =>
        obtain ⟨i, D, L, all, hi, rfl, hst, hcalm, hturn⟩ := hrel
        clear HST
        by_cases hlt : i < N
        · obtain ⟨b, off, rfl, ev, he1, he2⟩ := HX.out i (by rw [← HN.out]; exact hlt)
          rw [Nat.mul_one] at he1
          have x0 := cell_stays he1 hst.bel
          have hev := he2.below EStr.stays hst.bel
          have h32 := HLg.out _ _ _ hev
          obtain ⟨A5, c5, rfl, _⟩ := he2
          have H32 := Lib.hid h32
          have q2 : (i : Int) < (N : Int) := by omega
          have HEV := Lib.hid hev
          have HS := Lib.hid hst
          have HK := Lib.hid hcalm
          clear he1 h32 hev hst hcalm
          go_wp2_with (go_at_call 32; refine H32.out.mono ?_)
          rintro e5 w5 ⟨b2, rfl, hlt2, rfl⟩
          cases b2 with
          | false =>
            go_wp2_with fail
            go_ret
            exact ⟨rfl, HS.out.bel⟩
          | true =>
            have h34 := st_append HS.out HK.out.keeps.wait0 (HK.out.fine (by omega)) _ _ HEV.out (by have := (hlt2 rfl).1; omega)
            obtain ⟨D', L', all', hap, hcalm'⟩ := calm_append HK.out (by omega) (hlt2 rfl)
            have hap' : ∃ a, appendL D L (gs[i]'(by rw [← HN.out]; exact hlt)) = (a, D', L') := by
              rcases hap with ⟨h1, _⟩ | ⟨h1, _⟩
              · exact ⟨_, h1⟩
              · exact ⟨_, h1⟩
            obtain ⟨a, ha⟩ := hap'
            have ht' := append_turns D L (gs[i]'(by rw [← HN.out]; exact hlt))
            rw [ha, hturn] at ht'
            have HT' := Lib.hid ht'
            clear ht' hturn
            rw [ha] at h34
            have H34 := Lib.hid h34
            have HK' := Lib.hid hcalm'
            clear h34 hap ha hcalm' hlt2
            go_wp2_with (go_at_call 34; refine H34.out.mono ?_; rintro e6 w6 ⟨rfl, hs6⟩)
            go_roundw
            case rel => exact ⟨i + 1, D', L', all', by omega, by go_num, hs6, HK'.out, HT'.out⟩
            case measure => simp [intOf]; omega
        · obtain rfl : i = N := by omega
          have q2 : ¬ (i : Int) < (i : Int) := by omega
          have hpos := hcalm.keeps.pos
          have hep := hcalm.epoch
          have r1 : (L.epoch : Int) ≤ 12 := by omega
          have HE := Lib.hid (fun (W : World) (hs : StD w W d g D L) => st_epoch hs)
          have h38 := st_renew hst hcalm.keeps.wait0 (hcalm.fine (by omega)) mv more (HMV.out.below EStr.stays hst.bel) (by have := HLT.out.1; omega)
          have hful := full_renewL hcalm.full L more
          have htu := renew_turns D L more
          rw [hturn] at htu
          have hsay := renew_says hcalm.keeps (by rw [hcalm.arm]; decide) (by omega) more
          have harm := hcalm.arm
          have HS := Lib.hid hst
          obtain ⟨⟨a, D', L'⟩, hr⟩ : ∃ r, r = renewL D L more := ⟨_, rfl⟩
          rw [← hr] at h38 hful htu hsay
          simp only at h38 hful htu hsay
          have H38 := Lib.hid h38
          rcases hsay with ⟨ha, hk', he', _⟩ | ha | ⟨_, ha, _⟩
          · subst ha
            have HK' := Lib.hid hk'
            have hw0 := hk'.wait0
            have H21 := Lib.hid (fun (W : World) (hs : StD w W d g D' L') => st_restart hs hw0 (by omega) 3 true)
            have hk2 := keeps_restart hk' 3 true
            have hw2 := hk2.wait0
            have ht2 : (D'.restart 3 true).turns < 1000000000000 := by show D'.turns + 1 < _; omega
            have H21' := Lib.hid (fun (W : World) (hs : StD w W d g (D'.restart 3 true) L') => st_restart hs hw2 ht2 0 false)
            have hk3 := keeps_restart hk2 0 false
            have hful3 := full_restart (full_restart hful 3 true) 0 false
            obtain ⟨D3, hD3⟩ : ∃ X, X = (D'.restart 3 true).restart 0 false := ⟨_, rfl⟩
            obtain ⟨D2, hD2⟩ : ∃ X, X = D'.restart 3 true := ⟨_, rfl⟩
            rw [← hD3] at hk3 hful3 H21'
            rw [← hD2] at H21 H21'
            have HO3 := Lib.hid (fun (W : World) (hd : DkD w W d D3) => st_keep hd hk3 hful3)
            have hp' := hk'.pos
            have HR := Lib.hid (fun (W : World) (g : Nat) (hs : StD w W d g D3 L') => st_room hs hp')
            have HE3 := Lib.hid (fun (W : World) (g : Nat) (hs : StD w W d g D3 L') => by
              have h := st_epoch hs
              rw [he'] at h
              exact h)
            have r2 : (L'.pos : Int) ≤ 256 := by omega
            have H37 : Hid (∀ (W : World) u, IsStrs0 W u more → IsStrs0 W mv more → Calls Try.prog 37 #[u, mv] W fun e w' => e = .returned (.bool true) ∧ Below W.heap.size W w') := by
              intro W u hu hv
              have h := same_any u mv more more hu hv
              rw [decide_eq_true (rfl : more = more)] at h
              exact h
            have HMW := Lib.hid (fun (W : World) (hb : Below w.heap.size w W) => isStrs0_of (HMV.out.below EStr.stays hb))
            clear hst hcalm hpos hep h38 hful htu hr hk' hw0 hk2 hw2 ht2 hk3 hful3 hD3 hD2 hp' he' harm hturn hlt
            go_wp2_with (first
              | (go_at_call 36; first | (refine (HE3.out _ _ HS9.out).mono ?_; rintro e7 w7 ⟨rfl, rfl⟩) | (refine (HE.out _ HS.out).mono ?_; rintro e7 w7 ⟨rfl, rfl⟩))
              | (go_at_call 38; refine H38.out.mono ?_; rintro e8 w8 ⟨rfl, hs8⟩; have HS8 := Lib.hid hs8; clear hs8)
              | (go_at_call 21; first | (refine (H21'.out _ HS8b.out).mono ?_; rintro e9 w9 ⟨rfl, hs9⟩; have HS8c := Lib.hid hs9; clear hs9) | (refine (H21.out _ HS8.out).mono ?_; rintro e9 w9 ⟨rfl, hs9⟩; have HS8b := Lib.hid hs9; clear hs9))
              | (go_at_call 33; refine (HO3.out _ HS8c.out.dk).mono ?_; rintro e10 w10 ⟨g10, v10, rfl, hs10, ho10, hb10⟩; obtain ⟨A10, c10, rfl, hc10⟩ := own_form ho10; have HS10 := Lib.hid hs10; have HO10 := Lib.hid ho10; have HS8d := Lib.hid (HS8c.out.below hb10); clear hs10 ho10 hb10)
              | (go_at_call 37; refine (H37.out _ _ (isStrs0_own HO10.out rfl) (HMW.out _ HS10.out.bel)).mono ?_; rintro e11 w11 ⟨rfl, hb11⟩; have HS9 := Lib.hid (HS10.out.below hb11); have HS8e := Lib.hid (HS8d.out.below hb11); clear hb11)
              | (go_at_call 35; first | (have H35q := H35m; refine (HR.out _ _ HS8e.out).mono ?_; rintro e12 w12 ⟨rfl, rfl⟩) | (refine (HR.out _ _ HS9.out).mono ?_; rintro e12 w12 ⟨rfl, rfl⟩; have H35m := HS9)))
            go_ret
            exact ⟨rfl, HS9.out.bel⟩
          · obtain ⟨ha, hD, hL⟩ : a = 20 ∧ D' = D ∧ L' = L := by
              injection ha with h1 h2
              injection h2 with h2 h3
              exact ⟨h1, h2, h3⟩
            rw [ha, hD, hL] at H38
            clear hst hcalm hpos hep h38 hful htu hr harm hturn hlt ha hD hL
            go_wp2_with (first
              | (go_at_call 36; first | (refine (HE.out _ HS8.out).mono ?_; rintro e7 w7 ⟨rfl, rfl⟩) | (refine (HE.out _ HS.out).mono ?_; rintro e7 w7 ⟨rfl, rfl⟩))
              | (go_at_call 38; refine H38.out.mono ?_; rintro e8 w8 ⟨rfl, hs8⟩; have HS8 := Lib.hid hs8; clear hs8))
            go_ret
            exact ⟨rfl, HS8.out.bel⟩
          · exact absurd harm ha
theorem renews_law {w : World} (v0 : Value) (l0 : List (List ByteArray)) (h0 : IsGroups w v0 l0) (v1 : Value) (l1 : List ByteArray) (h1 : IsStrs w v1 l1) : Calls Try.prog 10 #[v0, v1] w (Fine w) := renews_walk v0 v1 l0 l1 h0 h1
end Go.Proofs.Ytddaiihhhajieaa
