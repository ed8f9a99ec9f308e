/- The walk of log.read: a group that stands at a place. -/
import Derived.Test.YtddaiihhhajieaaLogHead
import Derived.Test.YtddaiihhhajieaaLogPack
import Derived.Test.YtddaiihhhajieaaDiskW3
import Derived.WalkMore
namespace Go.Proofs.Ytddaiihhhajieaa
open Go.RowKit Go.Maps

/-- what is read is a whole block -/
def Whole (D : Dk) : Prop := ∀ n : Nat, (D.rd n).2 = 0 → (D.rd n).1.size = 64
/-- the parts from block i of a side on -/
def rdParts (D : Dk) (side pos epoch group : Nat) : Nat → Nat → ByteArray → Option (ByteArray × Nat)
  | 0, _, _ => none
  | f + 1, i, all =>
    if (D.rd ((256 * side + i : Nat) : Int)).2 ≠ 0 then none
    else
      let h := headB (D.rd ((256 * side + i : Nat) : Int)).1
      if h.2.2 = true ∧ h.1.epoch = epoch ∧ h.1.group = group ∧ h.1.part = i - pos then
        (if h.1.last = true then some (all ++ h.2.1, i - pos + 1) else rdParts D side pos epoch group f (i + 1) (all ++ h.2.1))
      else none
def rdGroup (D : Dk) (side pos epoch group : Nat) : Option (List ByteArray × Nat) :=
  (rdParts D side pos epoch group (256 - pos) pos ⟨#[]⟩).bind fun p => (recs p.1).map fun l => (l, p.2)
def ReadLeft (w : World) (o : Option (List ByteArray × Nat)) (e : Ending) (w' : World) : Prop :=
  Below w.heap.size w w' ∧ match o with
  | none => e = .returned (.tuple #[.slice none 0 0, .int .i64 0])
  | some p => ∃ v, e = .returned (.tuple #[v, .int .i64 (p.2 : Int)]) ∧ w'.ownsRow w.heap.size 9 1 v p.1.length (strsV p.1)
theorem readLeft_none {w w' : World} (hb : Below w.heap.size w w') : ReadLeft w none (.returned (.tuple #[.slice none 0 0, .int .i64 0])) w' := ⟨hb, rfl⟩

theorem headB_size (b : ByteArray) (_h : b.size = 64) : (headB b).2.1.size ≤ 52 := by
  unfold headB
  split
  · exact Nat.zero_le _
  · rename_i h
    unfold hdBad at h
    show (b.extract 12 (12 + bAt b 11)).size ≤ 52
    simp
    omega

set_option maxHeartbeats 4000000 in
set_option maxRecDepth 20000 in
theorem lread_any (d : Nat) (F : Foot) (D : Dk) (side pos epoch group : Nat) (w : World) (h : IsDisk w d F D) (hlen : D.wait.length < 1099511627776) (hw : Whole D)
    (hs : side ≤ 1) (hp : pos ≤ 256) (he : epoch ≤ 9223372036854775807) (hg : group ≤ 9223372036854775807) :
    Calls Try.prog 59 #[.pointer (some ⟨d, 0, none⟩), .int .i64 side, .int .i64 pos, .int .i64 epoch, .int .i64 group] w (ReadLeft w (rdGroup D side pos epoch group)) := by
  obtain ⟨R, hR⟩ : ∃ R, R = rdGroup D side pos epoch group := ⟨_, rfl⟩
  rw [← hR]
  have hRd : Hid (∀ W (n : Nat), Below w.heap.size w W → Calls Try.prog 22 #[.pointer (some ⟨d, 0, none⟩), .int .i64 (n : Int)] W fun e w' => e = .returned (.tuple #[.string (D.rd n).1, .int .i64 (D.rd n).2]) ∧ W = w') :=
    fun W n hb => read_any d F D n W (h.below hb) hlen
  have H83 := Lib.hid headOf_any
  have H84 := Lib.hid unpack_any
  have HW := Lib.hid hw
  have HR := Lib.hid hR
  clear h hlen hw hR
  go_enter Try.func59, Try.ntmps59
  go_wp2
  go_step3
  go_wp2
  go_step3
  go_wp2
  go_loopw [12, 14] (fun av iv wr => ∃ i all, i ≤ 256 ∧ pos ≤ i ∧ iv = .int .i64 (i : Nat) ∧ av = .string all ∧ all.size ≤ (i - pos) * 52 ∧ Below w.heap.size w wr ∧ R = (rdParts D side pos epoch group (256 - i) i all).bind fun p => (recs p.1).map fun l => (l, p.2)) (fun _ iv _ => 256 - (intOf iv).toNat)
  case atStart => exact ⟨pos, ⟨#[]⟩, hp, Nat.le_refl _, rfl, rfl, Nat.zero_le _, Below.refl _ _, HR.out⟩
  case round =>
    obtain ⟨i, all, hi, hpi, rfl, rfl, hall, hbel, hRi⟩ := hrel
    by_cases h256 : i = 256
    · have hn : R = none := by rw [hRi, h256]; rfl
      have K := Lib.hid (show ReadLeft w R (.returned (.tuple #[.slice none 0 0, .int .i64 0])) wr by rw [hn]; exact readLeft_none hbel)
      have q : ((i : Int) == 256) = true := by rw [beq_iff_eq]; omega
      clear hRi hbel hn
      go_wp2_with fail
      go_ret2
      exact K.out
    · have q : ((i : Int) == 256) = false := by rw [beq_eq_false_iff_ne]; omega
      have hr := hRd.out wr (256 * side + i) hbel
      have ec : (((256 * side + i : Nat)) : Int) = 256 * (side : Int) + (i : Int) := by omega
      rw [ec] at hr
      obtain ⟨f, hf⟩ : ∃ f, 256 - i = f + 1 := ⟨255 - i, by omega⟩
      rw [hf] at hRi
      have hw1 := HW.out (256 * side + i)
      unfold rdParts at hRi
      obtain ⟨⟨b, e⟩, hbe⟩ : ∃ x, x = D.rd ((256 * side + i : Nat) : Int) := ⟨_, rfl⟩
      rw [← hbe] at hRi hw1
      rw [← ec, ← hbe, ec] at hr
      simp only at hRi hw1 hr
      have HRD := Lib.hid hr
      clear hr hbe
      by_cases h0 : e = 0
      · subst h0
        have hb64 := hw1 rfl
        have h83 := fun W => H83.out b hb64 W
        have hsz := headB_size b hb64
        obtain ⟨⟨hd, s, is⟩, hh⟩ : ∃ x, x = headB b := ⟨_, rfl⟩
        rw [← hh] at h83 hRi hsz
        obtain ⟨e1, g1, p1, l, ln⟩ := hd
        simp only [Hd.val] at h83 hsz
        rw [if_neg (by simp)] at hRi
        simp only at hRi
        have H := Lib.hid h83
        clear h83 hw1 hh
        cases is
        · have hn : R = none := by rw [hRi]; simp
          have K := Lib.hid (show ∀ W, Below wr.heap.size wr W → ReadLeft w R (.returned (.tuple #[.slice none 0 0, .int .i64 0])) W from fun W hW => by rw [hn]; exact readLeft_none (hbel.trans (hW.mono hbel.size)))
          clear hRi hbel hn
          go_wp2_with (first | (go_at_call 22; refine HRD.out.mono ?_; rintro e3 w3 ⟨rfl, rfl⟩) | (go_at_call 83; refine (H.out _).mono ?_; rintro e4 w4 ⟨rfl, hb4⟩))
          go_ret2
          exact K.out _ (hb4.alloc (by have := hb4.size; omega) _)
        · have g1b : (0 : Int) ≤ (i : Int) - (pos : Int) := by omega
          by_cases hE : e1 = epoch
          case neg =>
            have hn : R = none := by rw [hRi, if_neg (by rintro ⟨-, h, -⟩; exact hE h)]; rfl
            have K := Lib.hid (show ∀ W, Below wr.heap.size wr W → ReadLeft w R (.returned (.tuple #[.slice none 0 0, .int .i64 0])) W from fun W hW => by rw [hn]; exact readLeft_none (hbel.trans (hW.mono hbel.size)))
            have z1 : ((e1 : Int) == (epoch : Int)) = false := by rw [beq_eq_false_iff_ne]; omega
            clear hRi hbel hn
            go_wp2_with (first | (go_at_call 22; refine HRD.out.mono ?_; rintro e3 w3 ⟨rfl, rfl⟩) | (go_at_call 83; refine (H.out _).mono ?_; rintro e4 w4 ⟨rfl, hb4⟩))
            all_goals
              go_ret2
              exact K.out _ (hb4.alloc (by have := hb4.size; omega) _)
          by_cases hG : g1 = group
          case neg =>
            have hn : R = none := by rw [hRi, if_neg (by rintro ⟨-, -, h, -⟩; exact hG h)]; rfl
            have K := Lib.hid (show ∀ W, Below wr.heap.size wr W → ReadLeft w R (.returned (.tuple #[.slice none 0 0, .int .i64 0])) W from fun W hW => by rw [hn]; exact readLeft_none (hbel.trans (hW.mono hbel.size)))
            have z1 : ((g1 : Int) == (group : Int)) = false := by rw [beq_eq_false_iff_ne]; omega
            subst hE
            clear hRi hbel hn
            go_wp2_with (first | (go_at_call 22; refine HRD.out.mono ?_; rintro e3 w3 ⟨rfl, rfl⟩) | (go_at_call 83; refine (H.out _).mono ?_; rintro e4 w4 ⟨rfl, hb4⟩))
            all_goals
              go_ret2
              exact K.out _ (hb4.alloc (by have := hb4.size; omega) _)
          by_cases hP : p1 = i - pos
          case neg =>
            have hn : R = none := by rw [hRi, if_neg (by rintro ⟨-, -, -, h⟩; exact hP h)]; rfl
            have K := Lib.hid (show ∀ W, Below wr.heap.size wr W → ReadLeft w R (.returned (.tuple #[.slice none 0 0, .int .i64 0])) W from fun W hW => by rw [hn]; exact readLeft_none (hbel.trans (hW.mono hbel.size)))
            have z1 : ((p1 : Int) == (i : Int) - (pos : Int)) = false := by rw [beq_eq_false_iff_ne]; omega
            subst hE
            subst hG
            clear hRi hbel hn
            go_wp2_with (first | (go_at_call 22; refine HRD.out.mono ?_; rintro e3 w3 ⟨rfl, rfl⟩) | (go_at_call 83; refine (H.out _).mono ?_; rintro e4 w4 ⟨rfl, hb4⟩))
            all_goals
              go_ret2
              exact K.out _ (hb4.alloc (by have := hb4.size; omega) _)
          have hP' : (p1 : Int) = (i : Int) - (pos : Int) := by omega
          rw [hP'] at H
          rw [if_pos ⟨rfl, hE, hG, hP⟩] at hRi
          subst hE
          subst hG
          have hcat : ¬ 9223372036854775807 < all.size + s.size := by have : (i - pos) * 52 ≤ 256 * 52 := Nat.mul_le_mul_right _ (by omega); omega
          have HB := Lib.hid hbel
          have HCA := Lib.hid (show (all ++ s).size ≤ (i + 1 - pos) * 52 by rw [ByteArray.size_append]; have ee : i + 1 - pos = (i - pos) + 1 := (by omega); rw [ee, Nat.add_mul]; omega)
          have HP := Lib.hid hP
          have hlt : i < 256 := by omega
          have HF := Lib.hid hf
          clear hbel hall hP hP' hf
          cases l
          · rw [if_neg (by simp)] at hRi
            have HRi := Lib.hid hRi
            clear hRi
            go_wp2_with (first | (go_at_call 22; refine HRD.out.mono ?_; rintro e3 w3 ⟨rfl, rfl⟩) | (go_at_call 83; refine (H.out _).mono ?_; rintro e4 w4 ⟨rfl, hb4⟩))
            go_roundw
            case rel =>
              refine ⟨i + 1, all ++ s, by omega, by omega, by go_num, rfl, HCA.out, HB.out.trans ((hb4.alloc (by have := hb4.size; omega) _).mono HB.out.size), ?_⟩
              have : 256 - (i + 1) = f := by have := HF.out; omega
              rw [this]
              exact HRi.out
            case measure => simp [intOf]; omega
          · rw [if_pos rfl] at hRi
            have HRi := Lib.hid hRi
            have hsm : (all ++ s).size < 1099511627776 := by have := HCA.out; have : (i + 1 - pos) * 52 ≤ 257 * 52 := Nat.mul_le_mul_right _ (by omega); omega
            have H84' := Lib.hid (fun W => H84.out (all ++ s) hsm W)
            clear hRi hsm
            go_wp2_with (first | (first | (go_at_call 22; refine HRD.out.mono ?_; rintro e3 w3 ⟨rfl, rfl⟩) | (go_at_call 83; refine (H.out _).mono ?_; rintro e4 w4 ⟨rfl, hb4⟩)) | (go_at_call 84; refine (H84'.out _).mono ?_))
            rintro e5 w5 ⟨hb5, hm5⟩
            have hb6 := Lib.hid (HB.out.trans ((hb4.alloc (B := wr.heap.size) (by have := hb4.size; omega) (.cells #[.int .i64 (e1 : Int), .int .i64 (g1 : Int), .int .i64 ((i : Int) - (pos : Int)), .bool true, .int .i64 (ln : Int)] 112)).mono HB.out.size))
            have hb7 := Lib.hid (hb6.out.trans (hb5.mono hb6.out.size))
            cases hrec : recs (all ++ s) with
            | none =>
              rw [hrec] at hm5
              have hn : R = none := by rw [HRi.out]; simp [hrec]
              have K := Lib.hid (show ReadLeft w R (.returned (.tuple #[.slice none 0 0, .int .i64 0])) w5 by rw [hn]; exact readLeft_none hb7.out)
              simp only at hm5
              subst hm5
              clear hb5 hb4 hrec hn
              go_wp2_with fail
              go_ret2
              exact K.out
            | some rs =>
              rw [hrec] at hm5
              obtain ⟨v, rfl, hv⟩ := hm5
              have hn : R = some (rs, i - pos + 1) := by rw [HRi.out]; simp [hrec]
              have hown : w5.ownsRow w.heap.size 9 1 v rs.length (strsV rs) := by
                refine ⟨hv.1, hv.2.imp id ?_⟩
                rintro ⟨g, cap, cur, hv1, hB, rest⟩
                exact ⟨g, cap, cur, hv1, Nat.le_trans hb6.out.size hB, rest⟩
              have K := Lib.hid (show ∀ u, u = v → ReadLeft w R (.returned (.tuple #[u, .int .i64 ((i : Int) - (pos : Int) + 1)])) w5 by
                rintro u rfl
                rw [hn]
                refine ⟨hb7.out, u, ?_, hown⟩
                have : ((i - pos + 1 : Nat) : Int) = (i : Int) - (pos : Int) + 1 := by omega
                show Ending.returned _ = Ending.returned (.tuple #[u, .int .i64 ((i - pos + 1 : Nat) : Int)])
                rw [this])
              obtain ⟨A, c, hvf, _⟩ := own_form hown
              clear hb5 hb4 hrec hn hown hv
              subst hvf
              go_wp2_with fail
              go_ret2
              exact K.out _ rfl
      · have hn : R = none := by rw [hRi, if_pos h0]; rfl
        have K := Lib.hid (show ReadLeft w R (.returned (.tuple #[.slice none 0 0, .int .i64 0])) wr by rw [hn]; exact readLeft_none hbel)
        have q2 : (e != 0) = true := by rw [bne_iff_ne]; exact h0
        clear hRi hbel hn
        go_wp2_with (go_at_call 22; refine HRD.out.mono ?_; rintro e3 w3 ⟨rfl, rfl⟩)
        go_ret2
        exact K.out
end Go.Proofs.Ytddaiihhhajieaa
