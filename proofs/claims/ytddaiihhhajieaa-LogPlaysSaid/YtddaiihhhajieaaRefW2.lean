/- The walks of the document's disk: Sync, Read, Restart. -/
import Derived.Test.YtddaiihhhajieaaRefW1
namespace Go.Proofs.Ytddaiihhhajieaa
open Go.RowKit Go.Maps

theorem RefAt.drew {w : World} {r : Nat} {lv wv : Value} {D : Dk} {L : Puts} (h : RefAt w r lv wv D L) : RefAt w.drew r lv wv D L := h.stay fun _ _ => rfl

def syncL (D : Dk) (L : Puts) : Puts := if D.sync.1 = 0 then L ++ D.wait else L
theorem syncL_dead {D : Dk} {D' : Dk} {L : Puts} (h : D.sync = (21, D')) : syncL D L = L := by unfold syncL; rw [h]; exact if_neg (by simp)
theorem syncL_ok {D : Dk} {D' : Dk} {L : Puts} (h : D.sync = (0, D')) : syncL D L = L ++ D.wait := by unfold syncL; rw [h]; exact if_pos rfl

set_option maxHeartbeats 1000000 in
theorem rsync_any (r : Nat) (G : Foot) (D : Dk) (L : Puts) (w : World) (h : IsRef w r G D L) (hf : D.Fine) (hlen : L.length + D.wait.length < 1099511627776) :
    Calls Try.prog 57 #[.pointer (some ⟨r, 0, none⟩)] w fun e w' => e = .returned (.int .i64 D.sync.1) ∧ LeftR w G r D.sync.2 (syncL D L) w' := by
  obtain ⟨lv, wv, hd, hF⟩ := h
  have c4 := hd.c3
  by_cases ho : D.off = true
  · have e : D.sync = (21, D) := by unfold Dk.sync; rw [if_pos ho]
    have K : Hid (LeftR w G r D.sync.2 (syncL D L) w) := by rw [syncL_dead e, e]; exact leftR_of hF hd (Moves.refl _ _)
    have E : Hid (D.sync.1 = 21) := by rw [e]; rfl
    rw [ho] at c4
    clear hd ho e
    go_enter Try.func57, Try.ntmps57
    go_wp2
    go_ret
    exact ⟨by rw [E.out]; rfl, K.out⟩
  rw [Bool.not_eq_true] at ho
  rw [ho] at c4
  by_cases h0 : D.arm = 0
  · have e : D.sync = (21, D.tick) := by unfold Dk.sync; rw [if_neg (by rw [ho]; simp), if_pos h0]
    have et : D.tick.off = true := by simp [Dk.tick, h0]
    have hg := rgoes_at r lv wv D L ⟨hf.1, hf.2.1⟩ w hd
    rw [et] at hg
    have K : Hid (∀ w', RefAt w' r lv wv D.tick L → Moves w w' (fun k => k = r) (fun k => k = r) → LeftR w G r D.sync.2 (syncL D L) w') := by
      intro w' h1 h2; rw [syncL_dead e, e]; exact leftR_of hF h1 (moves_r h2)
    have E : Hid (D.sync.1 = 21) := by rw [e]; rfl
    have HG := Lib.hid hg
    clear hd ho e h0 et hg
    go_enter Try.func57, Try.ntmps57
    go_wp2_with (go_at_call 82; refine HG.out.mono ?_; rintro e1 w1 ⟨rfl, h1, h2⟩)
    go_ret
    exact ⟨by rw [E.out]; rfl, K.out _ h1 h2⟩
  · have e : D.sync = (0, { D.tick.dones D.wait with wait := [] }) := by unfold Dk.sync; rw [if_neg (by rw [ho]; simp), if_neg h0]
    have et : D.tick.off = false := by simp [Dk.tick, h0, ho]
    have hg := rgoes_at r lv wv D L ⟨hf.1, hf.2.1⟩ w hd
    rw [et] at hg
    have K : Hid (∀ w1, RefAt w1 r lv wv D.tick L → Moves w w1 (fun k => k = r) (fun k => k = r) → ∀ w3 v', w1.drew.grownBy w3 lv.ownBlock →
        w3.ownsRow 0 103 2 v' (L.length + D.wait.length) (putsV L ++ putsV D.wait) → (v'.ownBlock = lv.ownBlock ∨ v'.ownBlock = some w1.drew.heap.size) →
        w3.cell? ⟨r, 0, none⟩ = some lv ∧ w3.frozen? ⟨r, 0, none⟩ = false ∧ (w3.setCell ⟨r, 0, none⟩ v').cell? ⟨r, 1, none⟩ = some wv ∧ (w3.setCell ⟨r, 0, none⟩ v').frozen? ⟨r, 1, none⟩ = false ∧
        LeftR w G r D.sync.2 (syncL D L) ((w3.setCell ⟨r, 0, none⟩ v').setCell ⟨r, 1, none⟩ (.slice none 0 0))) := by
      intro w1 h1 h2 w3 v' hg3 ho3 hl3
      have h1' := h1.drew
      obtain ⟨a1, a2⟩ := h1'.grown_last hg3
      obtain ⟨h4, h5⟩ := h1'.append_last hg3 (l := D.wait) ho3 hl3
      refine ⟨(a1.cell 0).trans rfl, a1.frozen 0, h4.c1, h4.fz 1, ?_⟩
      have h6 := h4.no_wait
      rw [syncL_ok e, e]
      refine leftR_of hF (h6.of (D' := { D.tick.dones D.wait with wait := [] }) rfl (dones_wait _ _).2.1 (dones_wait _ _).2.2) ?_
      refine ((((moves_r h2).drew).trans h5).setCell (p := ⟨r, 1, none⟩) (.inl (.inl rfl)) _).less ?_
      rintro k (rfl | hk | hk)
      · exact .inl (.inl rfl)
      · exact .inl (.inr (.inl hk))
      · simp [Value.ownBlock] at hk
    have E : Hid (D.sync.1 = 0) := by rw [e]; rfl
    have HG := Lib.hid hg
    have HL : Hid (L.length + D.wait.length ≤ maxLen ∧ (L.length + D.wait.length) * 24 ≤ 140737488355328) := by
      unfold maxLen; exact ⟨by omega, by omega⟩
    obtain ⟨i0, hi, hz0, hz1, hz2⟩ := info_parts Try.info103
    clear hd ho e h0 et hg hlen hf
    go_enter Try.func57, Try.ntmps57
    go_wp2_with (go_at_call 82; refine HG.out.mono ?_; rintro e1 w1 ⟨rfl, h1, h2⟩; have c5 := h1.c0; have f5 := h1.fz 0; have c6 := h1.c1)
    have hlast := (h1.drew).last
    have hwait := (h1.drew).wait
    have hys := Yields.of_own hwait
    have HLA := Lib.hid hlast
    have HYS := Lib.hid hys
    have HO := Lib.hid (putsV_one D.wait)
    have KK := Lib.hid (K.out w1 h1 h2)
    clear hlast hwait hys K h1 h2
    go_region_law (refine step_append_src rfl (.tmp 15) (.tmp 19) 46 rfl 0 103 i0 _ 2 24 Try.underlying46 hi hz0 hz1 hz2 rfl (by decide) lv _ _ rfl HLA.out wv _ _ rfl HYS.out HO.out HL.out.1 HL.out.2 (Nat.zero_le _) ?_; intro v' w3 ho3 hg3 hl3; obtain ⟨a1, a2, a3, a4, a5⟩ := KK.out w3 v' hg3 ho3 hl3; have A5 := Lib.hid a5; obtain ⟨A, c, hv, _⟩ := own_form ho3; clear ho3 hg3 hl3 a5; subst hv)
    all_goals
      go_wp2
      go_ret
      exact ⟨by rw [E.out]; rfl, A5.out⟩

end Go.Proofs.Ytddaiihhhajieaa
