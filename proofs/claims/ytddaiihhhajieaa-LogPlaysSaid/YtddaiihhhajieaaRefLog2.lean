/- The document's blocks and bytes: the walks of block, Bytes, records. -/
import Derived.Test.YtddaiihhhajieaaRefLog1
namespace Go.Proofs.Ytddaiihhhajieaa
open Go.RowKit Go.Maps

theorem big_int (n k : Int) (h0 : 0 ≤ n) (h1 : n ≤ 9223372036854775807) (h2 : 0 ≤ k) (h3 : k ≤ 8) (w : World) : Calls Try.prog 89 #[.int .i64 n, .int .i64 k] w fun e w' => e = .returned (.string (be n.toNat k.toNat)) ∧ Below w.heap.size w w' := by
  obtain ⟨N, rfl⟩ := Int.eq_ofNat_of_zero_le h0
  obtain ⟨K, rfl⟩ := Int.eq_ofNat_of_zero_le h2
  exact big_any N K (by omega) (by omega) w

set_option maxRecDepth 100000 in
theorem zs_conv (W : World) (k : Nat) : (convert 59 9 (.slice (some ⟨W.heap.size, 0, none⟩) k k)).run Try.prog (W.alloc (.cells (madeCells #[.int .u8 0] k) 5)) = .ok (.string (zs k)) (W.alloc (.cells (madeCells #[.int .u8 0] k) 5)) := by
  have hb5 : Blk (W.alloc (.cells (madeCells #[Value.int .u8 0] k) 5)) W.heap.size 5 (madeCells #[Value.int .u8 0] k) := Blk.new W 5 _
  have hc := run_convert_bytes_arg (P := Try.prog) (W.alloc (.cells (madeCells #[.int .u8 0] k) 5)) 59 5 Try.underlying59 Try.underlying5 W.heap.size 0 k k (List.replicate k 0) (by simp) (fun j hj => by
    rw [Nat.zero_add, hb5.cell]
    simp [madeCells, hj, Nat.mod_one]) 9 Try.underlying9
  have e : strOfNums (List.replicate k 0) = zs k := by
    unfold strOfNums zs
    congr 2
    rw [List.map_replicate]
    rfl
  rw [e] at hc
  exact hc

set_option maxHeartbeats 2000000 in
set_option maxRecDepth 100000 in
theorem rblock_any (epoch group part : Nat) (last : Bool) (s : ByteArray) (he : epoch ≤ 9223372036854775807) (hg : group ≤ 9223372036854775807) (hp : part ≤ 9223372036854775807) (hs : s.size ≤ 52) (w : World) :
    Calls Try.prog 87 #[.int .i64 epoch, .int .i64 group, .int .i64 part, .bool last, .string s] w fun e w' => e = .returned (.string ((⟨epoch, group, part, last, s.size⟩ : Hd).block s)) ∧ Below w.heap.size w w' := by
  have H89 := Lib.hid big_int
  have hz := be_size
  have z1 : (⟨#[1]⟩ : ByteArray).size = 1 := rfl
  have z0 : (⟨#[0]⟩ : ByteArray).size = 1 := rfl
  have hzz := zs_size
  have hmk : ∀ W, (Instr.makeSlice 59 (.int .i64 (64 - (12 + (s.size : Int)))) (.int .i64 (64 - (12 + (s.size : Int))))).run Try.prog W = .ok (.slice (some ⟨W.heap.size, 0, none⟩) (52 - s.size) (52 - s.size)) (W.alloc (.cells (madeCells #[.int .u8 0] (52 - s.size)) 5)) := by
    intro W
    have h := run_make_row' (P := Try.prog) 59 5 (.int .u8 0) 1 Try.underlying59 Try.info5 rfl .i64 .i64 (52 - s.size) (by omega) (by omega) W
    have e : ((52 - s.size : Nat) : Int) = 64 - (12 + (s.size : Int)) := by omega
    rw [e] at h
    exact h
  have hcv := fun W => zs_conv W (52 - s.size)
  have bb := Lib.hid (Below.refl w.heap.size w)
  cases last
  · have HF := Lib.hid (show be epoch 4 ++ be group 4 ++ be part 2 ++ ⟨#[0]⟩ ++ be s.size 1 ++ s ++ zs (52 - s.size) = (⟨epoch, group, part, false, s.size⟩ : Hd).block s by
      unfold Hd.block
      rw [bytes_size]
      have e : 64 - (12 + s.size) = 52 - s.size := by omega
      rw [e]
      unfold Hd.bytes
      have e1 : be (Bool.toNat false) 1 = ⟨#[0]⟩ := by decide +kernel
      simp only [e1])
    go_enter Try.func87, Try.ntmps87
    go_wp2_with (go_at_call 89; refine (H89.out _ _ (by omega) (by omega) (by omega) (by omega) _).mono ?_; rintro e1 w1 ⟨rfl, b1⟩; have bb := Lib.hid (bb.out.trans (b1.mono bb.out.size)); clear b1)
    go_ret
    exact ⟨by rw [← HF.out]; rfl, bb.out.alloc bb.out.size _⟩
  · have HF := Lib.hid (show be epoch 4 ++ be group 4 ++ be part 2 ++ ⟨#[1]⟩ ++ be s.size 1 ++ s ++ zs (52 - s.size) = (⟨epoch, group, part, true, s.size⟩ : Hd).block s by
      unfold Hd.block
      rw [bytes_size]
      have e : 64 - (12 + s.size) = 52 - s.size := by omega
      rw [e]
      unfold Hd.bytes
      have e1 : be (Bool.toNat true) 1 = ⟨#[1]⟩ := by decide +kernel
      simp only [e1])
    go_enter Try.func87, Try.ntmps87
    go_wp2_with (go_at_call 89; refine (H89.out _ _ (by omega) (by omega) (by omega) (by omega) _).mono ?_; rintro e1 w1 ⟨rfl, b1⟩; have bb := Lib.hid (bb.out.trans (b1.mono bb.out.size)); clear b1)
    go_ret
    exact ⟨by rw [← HF.out]; rfl, bb.out.alloc bb.out.size _⟩

set_option maxHeartbeats 2000000 in
set_option maxRecDepth 100000 in
theorem rbytes_any {w : World} (v : Value) (l : List ByteArray) (hv : IsStrs w v l) (hlen : l.length ≤ 1000000000) : Calls Try.prog 65 #[v] w fun e w' => e = .returned (packV l) ∧ Below w.heap.size w w' := by
  obtain ⟨A, c, rfl, hc, hm, hx⟩ := hv
  have HX := Lib.hid hx
  have H89 := Lib.hid big_int
  obtain ⟨N, hN⟩ : ∃ N, N = l.length := ⟨_, rfl⟩
  rw [← hN] at hc ⊢
  have HN := Lib.hid hN
  have g0 : N ≤ 1000000000 := by omega
  obtain ⟨PV, hPV⟩ : ∃ P, P = packV l := ⟨_, rfl⟩
  rw [← hPV]
  have HPV := Lib.hid hPV
  clear hx hN hlen hPV
  go_enter Try.func65, Try.ntmps65
  go_wp2
  go_loopw [4, 5] (fun sv iv wr => ∃ k : Nat, k ≤ N ∧ iv = .int .i64 k ∧ sv = .string (packTo (l.take k)) ∧ Below w.heap.size w wr ∧ ∀ i (hi : i < l.length), i < k → (l[i]'hi).size ≤ 65535) (fun _ iv _ => N - (intOf iv).toNat)
  case atStart => exact ⟨0, Nat.zero_le _, rfl, rfl, Below.refl _ _, fun i hi h => by omega⟩
  case round =>
    obtain ⟨k, hk, rfl, rfl, hbel, hsh⟩ := hrel
    have hps := packTo_le l k (by rw [← HN.out]; exact hk) hsh
    by_cases hlt : k < N
    · obtain ⟨b, off, rfl, hx⟩ := HX.out k (by rw [← HN.out]; exact hlt)
      obtain ⟨r, hr⟩ : ∃ r, r = l[k]'(by rw [← HN.out]; exact hlt) := ⟨_, rfl⟩
      rw [← hr] at hx
      have KX : Hid (∀ W, Below w.heap.size w W → W.cell? ⟨b, off + k, none⟩ = some (.string r)) := fun W hb => by
        have h := (EStr.stays _ _ _ _ _ hx hb).1
        rw [Nat.mul_one] at h
        exact h
      have x0 := KX.out _ hbel
      have hsucc := packTo_succ l k (by rw [← HN.out]; exact hlt)
      rw [← hr] at hsucc
      have HSU := Lib.hid hsucc
      obtain ⟨P, hP⟩ : ∃ P, P = packTo (l.take k) := ⟨_, rfl⟩
      rw [← hP] at HSU hps ⊢
      have hPs : P.size ≤ 65537000000000 := by have : k * 65537 ≤ 1000000000 * 65537 := Nat.mul_le_mul_right _ (by omega); omega
      have q2 : (k : Int) < (N : Int) := by omega
      have HR := Lib.hid hr
      have HS := Lib.hid hsh
      have HB := Lib.hid hbel
      have HD := Lib.hid hbel.drew
      by_cases hbig : 65535 < r.size
      · have q3 : (65535 : Int) < (r.size : Int) := by omega
        have hno : short l = false := by
          unfold short
          rw [List.all_eq_false]
          exact ⟨r, by rw [hr]; exact List.getElem_mem _, by simp; omega⟩
        have K := Lib.hid (show PV = .tuple #[.string ⟨#[]⟩, .bool false] by rw [HPV.out]; unfold packV; rw [hno]; rfl)
        clear hx hr hsucc hP hps hsh hbel hno
        go_wp2_with fail
        go_ret2
        exact ⟨by rw [K.out]; rfl, HB.out⟩
      · have q3 : ¬ (65535 : Int) < (r.size : Int) := by omega
        have hz := be_size
        have X0 := Lib.hid (KX.out _ HD.out)
        have hadd : ¬ 9223372036854775807 < P.size + 2 + r.size := by omega
        have hadd0 : ¬ 9223372036854775807 < P.size + 2 := by omega
        clear hx hr hsucc hP hps hsh hbel x0
        have x0 := KX.out _ HB.out
        go_wp2_with fail
        go_region_held3 (fun W => W.cell? ⟨b, off + k, none⟩ = some (.string r)) (first | (with_reducible exact X0.out) | (with_reducible exact y1))
          (first
           | (go_at_call 89; refine (H89.out _ _ (by omega) (by omega) (by omega) (by omega) _).mono ?_; rintro e1 w1 ⟨rfl, b1⟩; have BB := Lib.hid (HD.out.trans (b1.mono HD.out.size)); have y1 := KX.out _ BB.out))
        all_goals
          go_wp2_with fail
          go_roundw
          case rel =>
            refine ⟨k + 1, by omega, by go_num, ?_, BB.out, fun i hi hik => ?_⟩
            · rw [HSU.out]
              unfold recB
              rw [ByteArray.append_assoc]
            · by_cases e : i = k
              · subst e; rw [← HR.out]; omega
              · exact HS.out i hi (by omega)
          case measure => simp [intOf]; omega
    · obtain rfl : k = N := by omega
      have hyes : short l = true := by
        unfold short
        rw [List.all_eq_true]
        intro r hr
        obtain ⟨i, hi, rfl⟩ := List.getElem_of_mem hr
        exact decide_eq_true (hsh i hi (by rw [HN.out]; exact hi))
      have K := Lib.hid (show PV = .tuple #[.string (packTo (l.take k)), .bool true] by
        rw [HPV.out]; unfold packV; rw [hyes, List.take_of_length_le (by rw [← HN.out]; exact Nat.le_refl _)]; rfl)
      have q2 : ¬ (k : Int) < (k : Int) := by omega
      obtain ⟨P, hP⟩ : ∃ P, P = packTo (l.take k) := ⟨_, rfl⟩
      rw [← hP] at K ⊢
      have HB := Lib.hid hbel
      clear hbel hsh hps hyes hP
      go_wp2_with fail
      go_ret2
      exact ⟨by rw [K.out]; rfl, HB.out⟩

set_option maxHeartbeats 2000000 in
set_option maxRecDepth 20000 in
theorem rrecords_any (s : ByteArray) (hs : s.size < 1099511627776) (w : World) : Calls Try.prog 88 #[.string s] w (Unpacked w (recs s)) := by
  obtain ⟨i0, hi, hz0, hz1, hz2⟩ := info_parts Try.info9
  obtain ⟨R, hR⟩ : ∃ R, R = recs s := ⟨_, rfl⟩
  rw [← hR]
  have HN := Lib.hid rnumber_any
  go_enter Try.func88, Try.ntmps88
  go_wp2
  go_loopw [0, 4] (fun sv ov wr => ∃ t acc, sv = .string t ∧ wr.ownsRow w.heap.size 9 1 ov acc.length (strsV acc) ∧ Below w.heap.size w wr ∧ R = (recs t).map (acc ++ ·) ∧ acc.length + t.size ≤ s.size) (fun sv _ _ => match sv with | .string t => t.size | _ => 0)
  case atStart => exact ⟨s, [], rfl, ⟨rfl, .inl ⟨rfl, rfl⟩⟩, Below.refl _ _, by rw [hR]; cases recs s <;> simp, by simp⟩
  case round =>
    obtain ⟨t, acc, rfl, hown, hbel, hRt, hlen⟩ := hrel
    by_cases h0 : t.size = 0
    · have hz : t = ⟨#[]⟩ := bytes_empty h0
      subst hz
      have hR2 : R = some acc := by rw [hRt, recs, dif_pos h0]; simp
      obtain ⟨A, c, hv, _⟩ := own_form hown
      have K : Hid (∀ u, u = (.tuple #[.slice A acc.length c, .bool true] : Value) → Unpacked w R (.returned u) wr) := by
        rintro u rfl
        exact ⟨hbel, by rw [hR2]; exact ⟨_, rfl, hv ▸ hown⟩⟩
      clear hown hbel hRt hR2 hR
      subst hv
      go_wp2
      go_ret2
      exact K.out _ rfl
    · have hz1' : (0 : Int) < (t.size : Int) := by omega
      by_cases h1 : t.size < 2
      · have hR2 : R = none := by rw [hRt, recs, dif_neg h0, if_pos (.inl h1)]; rfl
        have K : Hid (Unpacked w R (.returned (.tuple #[.slice none 0 0, .bool false])) wr) := ⟨hbel, by rw [hR2]⟩
        clear hown hbel hRt hR2 hR
        have h1' : (t.size : Int) < 2 := by omega
        go_wp2
        go_ret2
        exact K.out
      · have hN := rnumber_any (t.extract 0 2) (by simp; omega)
        obtain ⟨n, hn⟩ : ∃ n, n = numB (t.extract 0 2) := ⟨_, rfl⟩
        rw [← hn] at hN
        have HNN := Lib.hid hN
        have h1' : ¬ (t.size : Int) < 2 := by omega
        have h2' : decide ((t.size : Int) < 2) = false := decide_eq_false h1'
        by_cases h2 : t.size - 2 < n
        · have hR2 : R = none := by rw [hRt, recs, dif_neg h0, if_pos (.inr (by rw [← hn]; exact h2))]; rfl
          have K : Hid (Unpacked w R (.returned (.tuple #[.slice none 0 0, .bool false])) wr) := ⟨hbel, by rw [hR2]⟩
          have h3 : (t.size : Int) - 2 < n := by omega
          clear hown hbel hRt hR2 hR hN hn
          go_wp2_with (go_at_call 63; refine (HNN.out _).mono ?_; rintro e1 w1 ⟨rfl, rfl⟩)
          go_ret2
          exact K.out
        · have hR2 : R = (recs (t.extract (2 + n) t.size)).map ((acc ++ [t.extract 2 (2 + n)]) ++ ·) := by
            rw [hRt, recs, dif_neg h0, if_neg (by rw [← hn]; omega), ← hn]
            cases recs (t.extract (2 + n) t.size) <;> simp
          have h3 : ¬ (t.size : Int) - 2 < n := by omega
          have k1 : (2 : Int) + n ≤ t.size := by omega
          have k2 : (2 : Int) ≤ t.size := by omega
          have k3 : (0 : Int) ≤ (n : Int) := by omega
          have h63 : acc.length + 1 ≤ maxLen := by unfold maxLen; omega
          have hby : (acc.length + 1) * 16 ≤ 140737488355328 := by omega
          have hsz : w.heap.size ≤ wr.heap.size := hbel.size
          obtain ⟨A, c, hv, hcc⟩ := own_form hown
          subst hv
          have HO := Lib.hid hown
          have HB := Lib.hid hbel
          have HR := Lib.hid hR2
          have HL := Lib.hid hlen
          have HP := Lib.hid (⟨h63, hby, hsz⟩ : _ ∧ _ ∧ _)
          have g1 : n < 1099511627776 := by omega
          have g2 : t.size < 1099511627776 := by omega
          have H0 := Lib.hid h0
          clear hown hbel hRt hR2 hR hN hn hlen h63 hby hsz h2 h0 h1
          go_wp2_with (first | (go_at_call 63; refine (HNN.out _).mono ?_; rintro e1 w1 ⟨rfl, rfl⟩) | (at_builtin; refine wpList_append_own_at _ rfl (.tmp 24) (.tmp 29) 51 rfl w.heap.size 9 i0 _ 1 16 Try.underlying51 hi hz0 hz1 hz2 rfl (by decide) _ acc.length _ rfl (HO.out.alloc _) ⟨wr.heap.size, 0, none⟩ 1 1 [.string (t.extract 2 (2 + n))] rfl rfl ?c1 ?c2 HP.out.1 HP.out.2.1 ?c5 ?_))
          case c1 => exact cell_one_new _ _ _
          case c2 => intro u hu; simp at hu; subst hu; rfl
          case c5 => have := HP.out.2.2; simp; omega
          intro v' w3 ho3 hg3 _ hl3
          have hb3 : Below w.heap.size w w3 := ((((Moves.refl w noFoot).below HB.out).alloc _).grown hg3 (fun k hk => .inr ((HO.out.lt k hk).1))).toBelow (Nat.le_refl _) (fun _ hk => hk.elim)
          have ho4 : w3.ownsRow w.heap.size 9 1 v' (acc ++ [t.extract 2 (2 + n)]).length (strsV (acc ++ [t.extract 2 (2 + n)])) := by
            rw [List.length_append]; unfold strsV; rw [List.map_append]; exact ho3
          obtain ⟨A', c', hv', _⟩ := own_form ho3
          have HB3 := Lib.hid hb3
          have HO4 := Lib.hid ho4
          clear ho3 hg3 hl3 hb3 ho4
          subst hv'
          go_wp2_with fail
          go_roundw
          case rel => exact ⟨_, acc ++ [t.extract 2 (2 + n)], rfl, by rw [List.length_append] at HO4 ⊢; exact HO4.out, HB3.out, HR.out, by have := HL.out; have := H0.out; rw [List.length_append]; simp; omega⟩
          case measure => have := H0.out; simp; omega
end Go.Proofs.Ytddaiihhhajieaa
