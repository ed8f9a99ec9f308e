/- The walk of the document's disk: Restart. -/
import Derived.Test.YtddaiihhhajieaaRefW2
namespace Go.Proofs.Ytddaiihhhajieaa
open Go.RowKit Go.Maps

def tornPut (D : Dk) (keep : Int) (torn : Bool) : Puts := if torn = true then (D.wait[keepN keep D.wait.length]?).toList.map (fun p => (p.1, ByteArray.empty)) else []
def restL (D : Dk) (L : Puts) (keep : Int) (torn : Bool) : Puts := L ++ D.wait.take (keepN keep D.wait.length) ++ tornPut D keep torn

theorem yields_two (W : World) (H : Nat) (hH : W.heap.size = H) (x y : Value) (t : TypeId) : Yields (W.alloc (.cells #[x, y] t)) 2 (.slice (some ⟨H, 0, none⟩) 1 1) 1 [x, y] := by
  subst hH
  exact .inr ⟨_, 1, rfl, rfl, cell_two_new W x y t⟩

set_option maxHeartbeats 1000000 in
theorem rrestart_any (r : Nat) (G : Foot) (D : Dk) (L : Puts) (keep : Int) (torn : Bool) (w : World) (h : IsRef w r G D L) (hlen : L.length + D.wait.length < 1099511627776) :
    Calls Try.prog 29 #[.pointer (some ⟨r, 0, none⟩), .int .i64 keep, .bool torn] w fun e w' => e = .returned (.tuple #[]) ∧ LeftR w G r (D.restart keep torn) (restL D L keep torn) w' := by
  obtain ⟨lv, wv, hd, hF⟩ := h
  obtain ⟨N, hN⟩ : ∃ N, N = D.wait.length := ⟨_, rfl⟩
  obtain ⟨k, hk⟩ : ∃ k, k = keepN keep D.wait.length := ⟨_, rfl⟩
  have hkN : k ≤ N := by rw [hk, hN]; exact Nat.min_le_right _ _
  have hkk : (k : Int) = min (max keep 0) N := by rw [hk, hN]; unfold keepN; omega
  have e1 : (if (0 : Int) > keep then 0 else keep) = max keep 0 := by split <;> omega
  have e2 : (if (N : Int) < max keep 0 then (N : Int) else max keep 0) = k := by split <;> omega
  have hNb : N ≤ 1099511627776 := by omega
  have hkl : (D.wait.take k).length = k := by rw [List.length_take, ← hN]; omega
  have eT : ¬ (torn = true ∧ k < N) → restL D L keep torn = L ++ D.wait.take k := by
    intro hn
    unfold restL tornPut
    rw [← hk]
    by_cases ht : torn = true
    · rw [if_pos ht, List.getElem?_eq_none (by rw [← hN]; exact Nat.le_of_not_lt fun h => hn ⟨ht, h⟩)]; simp
    · rw [if_neg ht]; simp
  have ET := Lib.hid eT
  clear eT
  have KF : Hid (∀ w7 lv7, RefAt w7 r lv7 wv D (restL D L keep torn) → Moves w w7 (rfoot r lv wv) (rfoot r lv7 wv) →
      LeftR w G r (D.restart keep torn) (restL D L keep torn) (((w7.setCell ⟨r, 1, none⟩ (.slice none 0 0)).setCell ⟨r, 3, none⟩ (.bool false)).setCell ⟨r, 2, none⟩ (.int .i64 (-1)))) := by
    intro w7 lv7 h7 m7
    have h8 := ((h7.no_wait).set_off false).set_arm (-1)
    refine leftR_of hF (h8.of (D' := D.restart keep torn) rfl rfl rfl) ?_
    refine (((m7.setCell (p := ⟨r, 1, none⟩) (.inl (.inl rfl)) _).setCell (p := ⟨r, 3, none⟩) (.inl (.inl rfl)) _).setCell (p := ⟨r, 2, none⟩) (.inl (.inl rfl)) _).less ?_
    rintro k (rfl | hk | hk)
    · exact .inl (.inl rfl)
    · exact .inl (.inr (.inl hk))
    · simp [Value.ownBlock] at hk
  have K1 : Hid (∀ w3 v', w.drew.grownBy w3 lv.ownBlock →
        w3.ownsRow 0 103 2 v' (L.length + k) (putsV L ++ putsV (D.wait.take k)) → (v'.ownBlock = lv.ownBlock ∨ v'.ownBlock = some w.drew.heap.size) →
        w3.cell? ⟨r, 0, none⟩ = some lv ∧ w3.frozen? ⟨r, 0, none⟩ = false ∧ RefAt (w3.setCell ⟨r, 0, none⟩ v') r v' wv D (L ++ D.wait.take k) ∧ Moves w (w3.setCell ⟨r, 0, none⟩ v') (rfoot r lv wv) (rfoot r v' wv)) := by
    intro w3 v' hg3 ho3 hl3
    obtain ⟨a1, a2⟩ := hd.drew.grown_last hg3
    obtain ⟨h4, h5⟩ := hd.drew.append_last hg3 (l := D.wait.take k) (by rw [hkl]; exact ho3) hl3
    exact ⟨(a1.cell 0).trans rfl, a1.frozen 0, h4, (Moves.refl w _).drew.trans h5⟩
  have HL : Hid (L.length + k ≤ maxLen ∧ (L.length + k) * 24 ≤ 140737488355328) := by
    unfold maxLen; exact ⟨by omega, by omega⟩
  have HLB := Lib.hid (show L.length + k < 1099511627776 by omega)
  have HLA := Lib.hid hd.drew.last
  have HO := Lib.hid (putsV_one (D.wait.take k))
  obtain ⟨A, c, hwv, hc⟩ := own_form hd.wait
  have hyt : Yields w.drew 2 (.slice A k c) k (putsV (D.wait.take k)) := by
    rw [putsV_take]
    have := hd.drew.wait
    rw [hwv, ← hN] at this
    exact Yields.take this k hkN
  have HYS := Lib.hid hyt
  have hform : (A = none ∧ N = 0 ∧ c = 0) ∨ ∃ g, A = some ⟨g, 0, none⟩ := by
    rcases hd.wait.2 with ⟨h, h0⟩ | ⟨g, cap, cur, h, _⟩
    · rw [hwv] at h; injection h with q1 q2 q3; exact .inl ⟨q1, by omega, q3⟩
    · rw [hwv] at h; injection h with q1 q2 q3; exact .inr ⟨g, q1⟩
  rw [← hN] at hwv hc
  have E1 := Lib.hid e1
  have E2 := Lib.hid e2
  have HN := Lib.hid hN
  have HK := Lib.hid hk
  have c0 := hd.c0
  have c1 := hd.c1
  obtain ⟨i0, hi, hz0, hz1, hz2⟩ := info_parts Try.info103
  obtain ⟨A0, cc0, hlv, hlc⟩ := own_form hd.last
  rw [hwv] at c1
  rw [hlv] at c0
  clear hd hF hkk e1 e2 hlen hkl hyt hN hk
  subst hwv
  subst hlv
  rcases hform with ⟨rfl, rfl, rfl⟩ | ⟨g, rfl⟩
  · obtain rfl : k = 0 := by omega
    go_enter Try.func29, Try.ntmps29
    go_wp2_with (first | ((with_reducible refine wpList_max2 7 _ _ _ _ _ _ keep 0 (max keep 0) ?_ ?_ E1.out ?_); rfl; rfl) | ((with_reducible refine wpList_min2 13 _ _ _ _ _ _ (max keep 0) _ _ ?_ ?_ E2.out ?_); rfl; rfl))
    go_region_law (refine step_append_src rfl (.tmp 18) (.tmp 24) 46 rfl 0 103 i0 _ 2 24 Try.underlying46 hi hz0 hz1 hz2 rfl (by decide) _ _ _ rfl HLA.out _ _ _ rfl HYS.out HO.out HL.out.1 HL.out.2 (Nat.zero_le _) ?_; intro v' w3 ho3 hg3 hl3; obtain ⟨a1, a2, a3, a4⟩ := K1.out w3 v' hg3 ho3 hl3; have A3 := Lib.hid a3; have A4 := Lib.hid a4; obtain ⟨A, c, hv, _⟩ := own_form ho3; rw [Nat.add_zero] at hv; clear ho3 hg3 hl3 a3 a4; subst hv)
    all_goals
      have eL := ET.out (by omega)
      have KL := Lib.hid (KF.out _ _ (by rw [eL]; exact A3.out) A4.out)
      have c3 := A3.out.c1
      have c4 := A3.out.c2
      have c5 := A3.out.c3
      have f1 := A3.out.fz 1
      have f2 := A3.out.fz 2
      have f3 := A3.out.fz 3
      clear A3 A4 KF K1 eL c0 c1 a1 a2
      cases torn
      all_goals
        go_wp2
        go_end0
        exact ⟨rfl, KL.out⟩
  · go_enter Try.func29, Try.ntmps29
    go_wp2_with (first | ((with_reducible refine wpList_max2 7 _ _ _ _ _ _ keep 0 (max keep 0) ?_ ?_ E1.out ?_); rfl; rfl) | ((with_reducible refine wpList_min2 13 _ _ _ _ _ _ (max keep 0) _ _ ?_ ?_ E2.out ?_); rfl; rfl))
    have g1 : k ≤ c := Nat.le_trans hkN hc
    go_region_law (refine step_append_src rfl (.tmp 18) (.tmp 24) 46 rfl 0 103 i0 _ 2 24 Try.underlying46 hi hz0 hz1 hz2 rfl (by decide) _ _ _ rfl HLA.out _ _ _ rfl HYS.out HO.out HL.out.1 HL.out.2 (Nat.zero_le _) ?_; intro v' w3 ho3 hg3 hl3; obtain ⟨a1, a2, a3, a4⟩ := K1.out w3 v' hg3 ho3 hl3; have A3 := Lib.hid a3; have A4 := Lib.hid a4; obtain ⟨A, cc, hv, _⟩ := own_form ho3; clear ho3 hg3 hl3 a3 a4; subst hv)
    all_goals
      have c3 := A3.out.c1
      have c4 := A3.out.c2
      have c5 := A3.out.c3
      have f1 := A3.out.fz 1
      have f2 := A3.out.fz 2
      have f3 := A3.out.fz 3
      by_cases ht : torn = true ∧ k < N
      · obtain ⟨rfl, hk2⟩ := ht
        have hkw : k < D.wait.length := by rw [← HN.out]; exact hk2
        have eL : restL D L keep true = L ++ D.wait.take k ++ [((D.wait[k]'hkw).1, ByteArray.empty)] := by
          unfold restL tornPut
          rw [← HK.out, if_pos rfl, List.getElem?_eq_getElem hkw]
          rfl
        have hwt := A3.out.wait
        obtain ⟨g', hg', p0, _⟩ := own_cell (by rw [← HN.out] at hwt; exact hwt) (by omega)
        obtain rfl : g = g' := by simpa using hg'
        have p1 := (p0 (k * 2) (by omega)).trans (putsV_at D.wait k hkw).1
        obtain ⟨n, hn⟩ : ∃ n, n = (D.wait[k]'hkw).1 := ⟨_, rfl⟩
        rw [← hn] at p1 eL
        have hll : (L ++ D.wait.take k).length = L.length + k := by rw [List.length_append, List.length_take]; omega
        have K2 : Hid (∀ o w6 v'', (((w3.setCell ⟨r, 0, none⟩ (.slice A (L.length + k) cc)).drew).alloc o).grownBy w6 (Value.slice A (L.length + k) cc).ownBlock →
            w6.ownsRow 0 103 2 v'' (L.length + k + 1) (putsV (L ++ D.wait.take k) ++ [.int .i64 n, .string ⟨#[]⟩]) → (v''.ownBlock = (Value.slice A (L.length + k) cc).ownBlock ∨ v''.ownBlock = some (((w3.setCell ⟨r, 0, none⟩ (.slice A (L.length + k) cc)).drew).alloc o).heap.size) →
            w6.cell? ⟨r, 0, none⟩ = some (.slice A (L.length + k) cc) ∧ w6.frozen? ⟨r, 0, none⟩ = false ∧
            ((w6.setCell ⟨r, 0, none⟩ v'').cell? ⟨r, 1, none⟩ = some (.slice (some ⟨g, 0, none⟩) N c) ∧ (w6.setCell ⟨r, 0, none⟩ v'').cell? ⟨r, 2, none⟩ = some (.int .i64 D.arm) ∧ (w6.setCell ⟨r, 0, none⟩ v'').cell? ⟨r, 3, none⟩ = some (.bool D.off) ∧ ∀ j, (w6.setCell ⟨r, 0, none⟩ v'').frozen? ⟨r, j, none⟩ = false) ∧
            LeftR w G r (D.restart keep true) (restL D L keep true) ((((w6.setCell ⟨r, 0, none⟩ v'').setCell ⟨r, 1, none⟩ (.slice none 0 0)).setCell ⟨r, 3, none⟩ (.bool false)).setCell ⟨r, 2, none⟩ (.int .i64 (-1)))) := by
          intro o w6 v'' hg6 ho6 hl6
          have h5 := (A3.out.drew).below ((Below.refl _ _).alloc (Nat.le_refl _) o)
          obtain ⟨b1, b2⟩ := h5.grown_last hg6
          obtain ⟨h7, m7⟩ := h5.append_last hg6 (l := [(n, ByteArray.empty)]) (by rw [hll]; exact ho6) hl6
          exact ⟨(b1.cell 0).trans rfl, b1.frozen 0, ⟨h7.c1, h7.c2, h7.c3, h7.fz⟩, KF.out _ _ (by rw [eL]; exact h7) (((A4.out.drew).alloc o).trans m7)⟩
        have hlast := fun o => ((A3.out.drew).below ((Below.refl _ _).alloc (Nat.le_refl _) o)).last
        rw [hll] at hlast
        have HLA2 := Lib.hid hlast
        have HL2 : Hid (L.length + k + 1 ≤ maxLen ∧ (L.length + k + 1) * 24 ≤ 140737488355328) := by
          have := HLB.out
          unfold maxLen; exact ⟨by omega, by omega⟩
        have c6 := A3.out.c0
        have hr : r < w3.heap.size := by have := A3.out.blk.lt; simpa using this
        have hr2 : r ≠ w3.heap.size := by omega
        have f0 := A3.out.fz 0
        have hcN : N ≤ c := hc
        clear A3 A4 KF K1 eL c0 c1 a1 a2 hwt p0 hg' hlast hll hn hkw
        go_wp2
        go_region_law (refine step_append_src rfl (.tmp 42) (.tmp 52) 46 rfl 0 103 i0 _ 2 24 Try.underlying46 hi hz0 hz1 hz2 rfl (by decide) _ _ _ rfl (HLA2.out _) _ 1 [.int .i64 n, .string ⟨#[]⟩] rfl (yields_two _ _ (by simp) _ _ _) (by intro u hu; simp at hu; rcases hu with rfl | rfl <;> rfl) HL2.out.1 HL2.out.2 (Nat.zero_le _) ?_; intro v'' w6 ho6 hg6 hl6; obtain ⟨a1, a2, ⟨a3, a4, a5, a6⟩, a7⟩ := K2.out _ w6 v'' hg6 ho6 hl6; have A7 := Lib.hid a7; have f4 := a6 1; have f5 := a6 2; have f6 := a6 3; obtain ⟨A', c', hv, _⟩ := own_form ho6; clear ho6 hg6 hl6 a6 a7; subst hv)
        all_goals
          go_wp2
          go_end0
          exact ⟨rfl, A7.out⟩
      · have eL := ET.out ht
        have KL := Lib.hid (KF.out _ _ (by rw [eL]; exact A3.out) A4.out)
        clear A3 A4 KF K1 eL c0 c1 a1 a2
        cases torn
        · clear ht
          go_wp2
          go_end0
          exact ⟨rfl, KL.out⟩
        · have hk2 : ¬ k < N := fun h => ht ⟨rfl, h⟩
          clear ht
          go_wp2
          go_end0
          exact ⟨rfl, KL.out⟩

end Go.Proofs.Ytddaiihhhajieaa
