/- The walk of the document's group. -/
import Derived.Test.YtddaiihhhajieaaRefLog2
namespace Go.Proofs.Ytddaiihhhajieaa
open Go.RowKit Go.Maps

def docHd (b : ByteArray) (epoch group i : Nat) : Hd := ⟨epoch, group, i, bAt b 10 == 1, bAt b 11⟩
theorem docHd_block {b : ByteArray} (hb : b.size = 64) {epoch group i : Nat} (he : epoch < 4294967296) (hg : group < 4294967296) (hi : i < 65536)
    (h1 : ¬ 52 < bAt b 11) (h2 : ¬ (bAt b 10 ≠ 1 ∧ bAt b 11 ≠ 52)) (h3 : b = (docHd b epoch group i).block (b.extract 12 (12 + bAt b 11))) : headB b = (docHd b epoch group i, b.extract 12 (12 + bAt b 11), true) := by
  have hs : (b.extract 12 (12 + bAt b 11)).size = bAt b 11 := by rw [ByteArray.size_extract, hb]; omega
  have ok : (docHd b epoch group i).Ok (b.extract 12 (12 + bAt b 11)) := by
    constructor
    · exact he
    · exact hg
    · exact hi
    · dsimp only [docHd]; exact hs.symm
    · rw [hs]; omega
    · rw [hs]
      dsimp only [docHd]
      rw [beq_iff_eq]
      omega
  have h := headB_block _ _ ok
  rw [← h3] at h
  exact h
theorem docHd_only {b : ByteArray} {epoch group i : Nat} (h : (headB b).2.2 = true ∧ (headB b).1.epoch = epoch ∧ (headB b).1.group = group ∧ (headB b).1.part = i) :
    ¬ 52 < bAt b 11 ∧ ¬ (bAt b 10 ≠ 1 ∧ bAt b 11 ≠ 52) ∧ b = (docHd b epoch group i).block (b.extract 12 (12 + bAt b 11)) := by
  obtain ⟨h0, h1, h2, h3⟩ := h
  unfold headB at h0 h1 h2 h3
  by_cases hbad : hdBad b
  · rw [if_pos hbad] at h0; cases h0
  · rw [if_neg hbad] at h0 h1 h2 h3
    simp only at h0 h1 h2 h3
    have hh : hdOf b = docHd b epoch group i := by
      unfold docHd
      rw [← h1, ← h2, ← h3]
      rfl
    unfold hdBad at hbad
    refine ⟨fun h => hbad (.inl h), fun h => hbad (.inr (.inl h)), ?_⟩
    rw [hh] at h0
    have h4 := eq_of_beq h0
    rw [ByteArray.toList_eq, ByteArray.toList_eq] at h4
    exact (ByteArray.ext (Array.toList_inj.1 h4)).symm
theorem docHd_fails {b : ByteArray} (hb : b.size = 64) {epoch group i : Nat} (he : epoch < 4294967296) (hg : group < 4294967296) (hi : i < 65536) :
    ((headB b).2.2 = true ∧ (headB b).1.epoch = epoch ∧ (headB b).1.group = group ∧ (headB b).1.part = i) ↔
    (¬ 52 < bAt b 11 ∧ ¬ (bAt b 10 ≠ 1 ∧ bAt b 11 ≠ 52) ∧ b = (docHd b epoch group i).block (b.extract 12 (12 + bAt b 11))) := by
  refine ⟨docHd_only, fun ⟨h1, h2, h3⟩ => ?_⟩
  rw [docHd_block hb he hg hi h1 h2 h3]
  exact ⟨rfl, rfl, rfl, rfl⟩

set_option maxHeartbeats 2000000 in
set_option maxRecDepth 100000 in
theorem rgroup_any (r : Nat) (G : Foot) (D : Dk) (Lp : Puts) (side pos epoch group : Nat) (w : World) (h : IsRef w r G D Lp) (ha : Agree D Lp) (hlen : Lp.length + D.wait.length < 1099511627776) (hw : Whole D)
    (hs : side ≤ 1) (hp : pos < 256) (he : epoch < 4294967296) (hg : group < 4294967296) :
    Calls Try.prog 64 #[.pointer (some ⟨r, 0, none⟩), .int .i64 (256 * (side : Int) + (pos : Int)), .int .i64 epoch, .int .i64 group] w (ReadLeft w (rdGroup D side pos epoch group)) := by
  obtain ⟨R, hR⟩ : ∃ R, R = rdGroup D side pos epoch group := ⟨_, rfl⟩
  rw [← hR]
  have hRd : Hid (∀ W (n : Nat) (x : Int), x = (n : Int) → Below w.heap.size w W → Calls Try.prog 30 #[.pointer (some ⟨r, 0, none⟩), .int .i64 x] W fun e w' => e = .returned (.tuple #[.string (D.rd n).1, .int .i64 (D.rd n).2]) ∧ Below W.heap.size W w') := by
    rintro W n x rfl hb
    have h := rread_any r G D Lp n W (h.below hb) hlen
    rw [agree_rd ha] at h
    exact h
  have H87 := Lib.hid rblock_any
  have H88 := Lib.hid rrecords_any
  have HW := Lib.hid hw
  have HR := Lib.hid hR
  have hq1 : (256 * (side : Int) + (pos : Int)) / 256 = (side : Int) := by omega
  have hE : (pos : Int) < 256 := by omega
  clear h hlen hw hR ha
  go_enter Try.func64, Try.ntmps64
  go_wp2_with fail
  rw [hq1]
  clear hq1
  go_loopw [10, 12] (fun av iv wr => ∃ i all, pos + i ≤ 256 ∧ iv = .int .i64 (i : Nat) ∧ av = .string all ∧ all.size ≤ i * 52 ∧ Below w.heap.size w wr ∧ R = (rdParts D side pos epoch group (256 - (pos + i)) (pos + i) all).bind fun p => (recs p.1).map fun l => (l, p.2)) (fun _ iv _ => 256 - (intOf iv).toNat)
  case atStart => exact ⟨0, ⟨#[]⟩, by omega, rfl, rfl, Nat.zero_le _, Below.refl _ _, HR.out⟩
  case round =>
    obtain ⟨i, all, hi, rfl, rfl, hall, hbel, hRi⟩ := hrel
    by_cases h256 : pos + i = 256
    · have hn : R = none := by rw [hRi, h256]; rfl
      have K := Lib.hid (show ReadLeft w R (.returned (.tuple #[.slice none 0 0, .int .i64 0])) wr by rw [hn]; exact readLeft_none hbel)
      have q : ¬ 256 * (side : Int) + (pos : Int) + (i : Int) < (side : Int) * 256 + 256 := by omega
      clear hRi hbel hn
      go_wp2_with fail
      go_ret2
      exact K.out
    · have q : 256 * (side : Int) + (pos : Int) + (i : Int) < (side : Int) * 256 + 256 := by omega
      have hr := hRd.out wr (256 * side + (pos + i)) (256 * (side : Int) + (pos : Int) + (i : Int)) (by omega) hbel
      obtain ⟨f, hf⟩ : ∃ f, 256 - (pos + i) = f + 1 := ⟨255 - (pos + i), by omega⟩
      rw [hf] at hRi
      have hw1 := HW.out (256 * side + (pos + i))
      unfold rdParts at hRi
      obtain ⟨⟨b, e⟩, hbe⟩ : ∃ x, x = D.rd ((256 * side + (pos + i) : Nat) : Int) := ⟨_, rfl⟩
      rw [← hbe] at hRi hw1 hr
      simp only at hRi hw1 hr
      have HRD := Lib.hid hr
      clear hr hbe
      have hii : pos + i - pos = i := by omega
      rw [hii] at hRi
      have KN : Hid (R = none → ∀ W, Below wr.heap.size wr W → ReadLeft w R (.returned (.tuple #[.slice none 0 0, .int .i64 0])) W) := fun hn W hW => by rw [hn]; exact readLeft_none (hbel.trans (hW.mono hbel.size))
      by_cases h0 : e = 0
      · subst h0
        have hb64 := hw1 rfl
        rw [if_neg (by simp)] at hRi
        have hiff := docHd_fails hb64 he hg (show i < 65536 by omega)
        have hb1 := docHd_block hb64 he hg (show i < 65536 by omega)
        have l10 := bAt_lt b 10
        have l11 := bAt_lt b 11
        have e10 := bAt_get b 10 (by omega)
        have e11 := bAt_get b 11 (by omega)
        have k10 : (10 : Int) < b.size := by omega
        have k11 : (11 : Int) < b.size := by omega
        obtain ⟨lg, hlg⟩ : ∃ x, x = bAt b 11 := ⟨_, rfl⟩
        obtain ⟨ls, hls⟩ : ∃ x, x = bAt b 10 := ⟨_, rfl⟩
        rw [← hlg] at l11 e11 hiff hb1
        rw [← hls] at l10 e10 hiff hb1
        by_cases c1 : 52 < lg
        · have K := KN.out (by rw [hRi, if_neg (fun h => (hiff.1 h).1 c1)]; rfl)
          have KK := Lib.hid K
          have d1 : (52 : Int) < (lg : Int) := by omega
          clear hRi hiff hb1 hlg hls K hbel
          go_wp2_with (go_at_call 30; refine HRD.out.mono ?_; rintro e3 w3 ⟨rfl, hb3⟩)
          go_ret2
          exact KK.out _ hb3
        · have d1 : ¬ (52 : Int) < (lg : Int) := by omega
          have d1' : decide ((52 : Int) < (lg : Int)) = false := decide_eq_false d1
          obtain ⟨S, hS⟩ : ∃ S, S = b.extract 12 (12 + lg) := ⟨_, rfl⟩
          have hSs : S.size = lg := by rw [hS, ByteArray.size_extract, hb64]; omega
          have k12 : (12 : Int) + (lg : Int) ≤ b.size := by omega
          rw [← hS] at hiff hb1
          have hS' := hS.symm
          by_cases l1 : ls = 1
          · have d2 : ((ls : Int) == 1) = true := by rw [beq_iff_eq]; omega
            have c2 : ¬ (ls ≠ 1 ∧ lg ≠ 52) := by omega
            have hdoc : docHd b epoch group i = ⟨epoch, group, i, true, S.size⟩ := by
              unfold docHd
              rw [← hlg, ← hls, hSs]
              have : (ls == 1) = true := by rw [beq_iff_eq]; omega
              rw [this]
            rw [hdoc] at hiff hb1
            have h87 : ∀ W bl, bl = true → Calls Try.prog 87 #[.int .i64 epoch, .int .i64 group, .int .i64 i, .bool bl, .string S] W fun e w' => e = .returned (.string ((⟨epoch, group, i, true, S.size⟩ : Hd).block S)) ∧ Below W.heap.size W w' := by
              rintro W bl rfl
              exact H87.out epoch group i _ S (by omega) (by omega) (by omega) (by omega) W
            have D2 := Lib.hid d2
            obtain ⟨X, hX⟩ : ∃ X, X = (⟨epoch, group, i, true, S.size⟩ : Hd).block S := ⟨_, rfl⟩
            rw [← hX] at h87 hiff hb1
            have H87' := Lib.hid h87
            by_cases hbx : b = X
            · have hq : (b.toList != X.toList) = false := by rw [hbx]; simp
              have hq2 : (b.toList == X.toList) = true := by rw [hbx]; exact beq_self_eq_true _
              have hh := hb1 c1 c2 hbx
              rw [if_pos (hiff.2 ⟨c1, c2, hbx⟩), hh] at hRi
              simp only at hRi
              have HF := Lib.hid hf
              have HB := Lib.hid hbel
              have HCA := Lib.hid (show (all ++ S).size ≤ (i + 1) * 52 by rw [ByteArray.size_append, Nat.add_mul]; omega)
              have hcat : ¬ 9223372036854775807 < all.size + S.size := by have : i * 52 ≤ 256 * 52 := Nat.mul_le_mul_right _ (by omega); omega
              rw [if_pos trivial] at hRi
              have HRi := Lib.hid hRi
              have hsm : (all ++ S).size < 1099511627776 := by have := HCA.out; have : (i + 1) * 52 ≤ 257 * 52 := Nat.mul_le_mul_right _ (by omega); omega
              have H88' := Lib.hid (fun W => H88.out (all ++ S) hsm W)
              clear hRi hiff hb1 hlg hls hbel hX hbx hS hdoc c2 h87 KN hh hf hall hsm
              go_wp2_with (first
                | (go_at_call 30; refine HRD.out.mono ?_; rintro e3 w3 ⟨rfl, hb3⟩)
                | (go_at_call 87; refine (H87'.out _ _ (by first | rfl | exact D2.out)).mono ?_; rintro e4 w4 ⟨rfl, hb4⟩)
                | (go_at_call 88; refine (H88'.out _).mono ?_))
              rintro e5 w5 ⟨hb5, hm5⟩
              have hb6 := Lib.hid (HB.out.trans ((hb3.trans (hb4.mono hb3.size)).mono HB.out.size))
              have hb7 := Lib.hid (hb6.out.trans (hb5.mono hb6.out.size))
              cases hrec : recs (all ++ S) with
              | none =>
                rw [hrec] at hm5
                have hn : R = none := by rw [HRi.out]; simp [hrec]
                have K := Lib.hid (show ReadLeft w R (.returned (.tuple #[.slice none 0 0, .int .i64 0])) w5 by rw [hn]; exact readLeft_none hb7.out)
                simp only at hm5
                subst hm5
                clear hb5 hb4 hb3 hrec hn
                go_wp2_with fail
                go_ret2
                exact K.out
              | some rs =>
                rw [hrec] at hm5
                obtain ⟨v, rfl, hv⟩ := hm5
                have hn : R = some (rs, i + 1) := by rw [HRi.out]; simp [hrec]
                have hown : w5.ownsRow w.heap.size 9 1 v rs.length (strsV rs) := by
                  refine ⟨hv.1, hv.2.imp id ?_⟩
                  rintro ⟨g, cap, cur, hv1, hB, rest⟩
                  exact ⟨g, cap, cur, hv1, Nat.le_trans hb6.out.size hB, rest⟩
                have K := Lib.hid (show ∀ u, u = v → ReadLeft w R (.returned (.tuple #[u, .int .i64 ((i : Int) + 1)])) w5 by
                  rintro u rfl
                  rw [hn]
                  exact ⟨hb7.out, u, rfl, hown⟩)
                obtain ⟨A, c, hvf, _⟩ := own_form hown
                clear hb5 hb4 hb3 hrec hn hown hv
                subst hvf
                go_wp2_with fail
                go_ret2
                exact K.out _ rfl
            · have hq2 : (b.toList == X.toList) = false := toList_ne hbx
              have hq : (b.toList != X.toList) = true := by rw [bne, hq2]; rfl
              have K := Lib.hid (KN.out (by rw [hRi, if_neg (fun h => hbx (hiff.1 h).2.2)]; rfl))
              clear hRi hiff hb1 hlg hls hbel hX hbx hS hdoc c2 h87 KN
              go_wp2_with (first
                | (go_at_call 30; refine HRD.out.mono ?_; rintro e3 w3 ⟨rfl, hb3⟩)
                | (go_at_call 87; refine (H87'.out _ _ (by first | rfl | exact D2.out)).mono ?_; rintro e4 w4 ⟨rfl, hb4⟩))
              go_ret2
              exact K.out _ (hb3.trans (hb4.mono hb3.size))
          · have d2 : ((ls : Int) == 1) = false := by rw [beq_eq_false_iff_ne]; omega
            by_cases l2 : lg = 52
            case neg =>
              have d3 : ((lg : Int) == 52) = false := by rw [beq_eq_false_iff_ne]; omega
              have K := Lib.hid (KN.out (by rw [hRi, if_neg (fun h => (hiff.1 h).2.1 ⟨l1, l2⟩)]; rfl))
              clear hRi hiff hb1 hlg hls hbel hS KN
              go_wp2_with (go_at_call 30; refine HRD.out.mono ?_; rintro e3 w3 ⟨rfl, hb3⟩)
              go_ret2
              exact K.out _ hb3
            have hS64 : b.extract 12 64 = S := by rw [hS, l2]
            have c2 : ¬ (ls ≠ 1 ∧ lg ≠ 52) := by omega
            have hdoc : docHd b epoch group i = ⟨epoch, group, i, false, S.size⟩ := by
              unfold docHd
              rw [← hlg, ← hls, hSs]
              have : (ls == 1) = false := by rw [beq_eq_false_iff_ne]; omega
              rw [this]
            rw [hdoc] at hiff hb1
            have h87 : ∀ W bl, bl = false → Calls Try.prog 87 #[.int .i64 epoch, .int .i64 group, .int .i64 i, .bool bl, .string S] W fun e w' => e = .returned (.string ((⟨epoch, group, i, false, S.size⟩ : Hd).block S)) ∧ Below W.heap.size W w' := by
              rintro W bl rfl
              exact H87.out epoch group i _ S (by omega) (by omega) (by omega) (by omega) W
            have D2 := Lib.hid d2
            obtain ⟨X, hX⟩ : ∃ X, X = (⟨epoch, group, i, false, S.size⟩ : Hd).block S := ⟨_, rfl⟩
            rw [← hX] at h87 hiff hb1
            have H87' := Lib.hid h87
            by_cases hbx : b = X
            · have hq : (b.toList != X.toList) = false := by rw [hbx]; simp
              have hq2 : (b.toList == X.toList) = true := by rw [hbx]; exact beq_self_eq_true _
              have hh := hb1 c1 c2 hbx
              rw [if_pos (hiff.2 ⟨c1, c2, hbx⟩), hh] at hRi
              simp only at hRi
              have HF := Lib.hid hf
              have HB := Lib.hid hbel
              have HCA := Lib.hid (show (all ++ S).size ≤ (i + 1) * 52 by rw [ByteArray.size_append, Nat.add_mul]; omega)
              have hcat : ¬ 9223372036854775807 < all.size + S.size := by have : i * 52 ≤ 256 * 52 := Nat.mul_le_mul_right _ (by omega); omega
              rw [if_neg (by simp)] at hRi
              have HRi := Lib.hid hRi
              clear hRi hiff hb1 hlg hls hbel hX hbx hS hdoc c2 h87 KN hh hf hall
              go_wp2_with (first
                | (go_at_call 30; refine HRD.out.mono ?_; rintro e3 w3 ⟨rfl, hb3⟩)
                | (go_at_call 87; refine (H87'.out _ _ (by first | rfl | exact D2.out)).mono ?_; rintro e4 w4 ⟨rfl, hb4⟩))
              go_roundw
              case rel =>
                refine ⟨i + 1, all ++ S, by omega, by go_num, rfl, HCA.out, HB.out.trans ((hb3.trans (hb4.mono hb3.size)).mono HB.out.size), ?_⟩
                have e : 256 - (pos + (i + 1)) = f := by have := HF.out; omega
                rw [e]
                exact HRi.out
              case measure => simp [intOf]; omega
            · have hq2 : (b.toList == X.toList) = false := toList_ne hbx
              have hq : (b.toList != X.toList) = true := by rw [bne, hq2]; rfl
              have K := Lib.hid (KN.out (by rw [hRi, if_neg (fun h => hbx (hiff.1 h).2.2)]; rfl))
              clear hRi hiff hb1 hlg hls hbel hX hbx hS hdoc c2 h87 KN
              go_wp2_with (first
                | (go_at_call 30; refine HRD.out.mono ?_; rintro e3 w3 ⟨rfl, hb3⟩)
                | (go_at_call 87; refine (H87'.out _ _ (by first | rfl | exact D2.out)).mono ?_; rintro e4 w4 ⟨rfl, hb4⟩))
              go_ret2
              exact K.out _ (hb3.trans (hb4.mono hb3.size))
      · have K := Lib.hid (KN.out (by rw [hRi, if_pos h0]; rfl))
        have q2 : (e != 0) = true := by rw [bne_iff_ne]; exact h0
        clear hRi hbel
        go_wp2_with (go_at_call 30; refine HRD.out.mono ?_; rintro e3 w3 ⟨rfl, hb3⟩)
        go_ret2
        exact K.out _ hb3
end Go.Proofs.Ytddaiihhhajieaa
