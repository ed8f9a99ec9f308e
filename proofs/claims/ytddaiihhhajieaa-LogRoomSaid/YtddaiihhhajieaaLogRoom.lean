/- The walk of LogRoom. -/
import Derived.Test.YtddaiihhhajieaaLogAwake
namespace Go.Proofs.Ytddaiihhhajieaa
open Go.RowKit Go.Maps

/-- behind i appends of one block each -/
def roomL (i : Nat) : Lg := if i = 0 then Lg.none else ⟨0, 1, min i 256, min i 256, false⟩
def oneA : List ByteArray := [⟨#[97]⟩]
theorem oneA_need : needN (packTo oneA).size = 1 := by decide +kernel
theorem roomL_pos (i : Nat) : (roomL i).pos = min i 256 := by
  unfold roomL
  split
  · rename_i h; subst h; rfl
  · rfl
structure RoomAt (D : Dk) (i : Nat) : Prop where
  keeps : ∃ all, Keeps D (roomL i) all
  full : Full D
  arm : D.arm = -1
theorem roomAt_zero : RoomAt Dk.new 0 := ⟨⟨[], keeps_new⟩, full_new, rfl⟩
theorem roomAt_succ {D : Dk} {i : Nat} (h : RoomAt D i) : ∃ D', appendL D (roomL i) oneA = (if i < 256 then 0 else 20, D', roomL (i + 1)) ∧ RoomAt D' (i + 1) := by
  obtain ⟨⟨all, hk⟩, hf, ha⟩ := h
  have hfull := full_appendL hf (roomL i) oneA
  by_cases h0 : i = 0
  · subst h0
    obtain ⟨D1, h1, h2, h3⟩ := renew_ok hk ha (by decide) oneA (by decide +kernel) (by rw [oneA_need]; decide)
    rw [oneA_need] at h1 h3
    have e : appendL D (roomL 0) oneA = (0, D1, roomL 1) := by
      rw [show appendL D (roomL 0) oneA = renewL D (roomL 0) oneA from rfl, h1]; rfl
    rw [e] at hfull
    exact ⟨D1, e, ⟨_, h3⟩, hfull, h2⟩
  have hr : roomL i = ⟨0, 1, min i 256, min i 256, false⟩ := if_neg h0
  have hr1 : roomL (i + 1) = ⟨0, 1, min (i + 1) 256, min (i + 1) 256, false⟩ := if_neg (Nat.succ_ne_zero _)
  by_cases hi : i < 256
  · have hp : (roomL i).pos = i := by rw [roomL_pos]; omega
    obtain ⟨D1, h1, h2, h3⟩ := append_ok hk (by rw [hr]; exact Nat.one_ne_zero) ha (by rw [hr]; show 1 < _; omega) oneA (by decide +kernel) (by rw [hp, oneA_need]; omega)
    have e2 : ({ (roomL i) with pos := (roomL i).pos + needN (packTo oneA).size, group := (roomL i).group + 1, over := false } : Lg) = roomL (i + 1) := by
      rw [hr1, hr, oneA_need]
      have : min i 256 + 1 = min (i + 1) 256 := by omega
      simp only [this]
    rw [e2] at h1 h3
    rw [if_pos hi, h1]
    rw [h1] at hfull
    exact ⟨D1, rfl, ⟨_, h3⟩, hfull, h2⟩
  · have hp : (roomL i).pos = 256 := by rw [roomL_pos]; omega
    have h1 := append_full hk (by rw [hr]; exact Nat.one_ne_zero) oneA (by rw [hp, oneA_need]; decide)
    have e2 : roomL i = roomL (i + 1) := by
      rw [hr1, hr]
      have : min i 256 = min (i + 1) 256 := by omega
      rw [this]
    rw [if_neg hi, h1]
    refine ⟨D, by rw [← e2], ⟨all, by rw [← e2]; exact hk⟩, hf, ha⟩
theorem zeros_pack (long : Nat) (h : long ≤ 14000) : short [zs long] = true ∧ needN (packTo [zs long]).size = (long + 53) / 52 := by
  refine ⟨?_, ?_⟩
  · simp [short, zs_size]; omega
  · have e : (packTo [zs long]).size = 2 + long := by
      rw [packTo_cons, ByteArray.size_append, recB_size, zs_size]; rfl
    rw [e]
    unfold needN
    omega
/-- a renewal by one great record -/
theorem room_renew {D : Dk} {i long : Nat} (h : RoomAt D i) (hl : long ≤ 14000) :
    (long ≤ 13310 → (renewL D (roomL i) [zs long]).1 = 0 ∧ (renewL D (roomL i) [zs long]).2.2.pos = (long + 53) / 52) ∧ (13310 < long → (renewL D (roomL i) [zs long]).1 = 20) := by
  obtain ⟨⟨all, hk⟩, hf, ha⟩ := h
  obtain ⟨z1, z2⟩ := zeros_pack long hl
  have he : (roomL i).epoch + 1 < 4294967296 := by
    unfold roomL
    split
    · decide
    · show 1 + 1 < _; omega
  refine ⟨fun h1 => ?_, fun h1 => ?_⟩
  · obtain ⟨D1, h1, -, -⟩ := renew_ok hk ha he [zs long] z1 (by rw [z2]; omega)
    rw [h1]
    exact ⟨rfl, z2⟩
  · unfold renewL
    rw [if_neg (by rw [hk.over]; simp), if_pos (.inr (by rw [z2]; omega))]

theorem zs_nums (k : Nat) : strOfNums (List.replicate k 0) = zs k := by
  unfold strOfNums zs
  congr 2
  rw [List.map_replicate]
  rfl
set_option maxHeartbeats 4000000 in
set_option maxRecDepth 200000 in
theorem room_walk (n long : Int) (w : World) : Calls Try.prog 9 #[.int .i64 n, .int .i64 long] w (Fine w) := by
  have HA := Lib.hid awake19
  by_cases c1 : n < 0
  · go_enter Try.func9, Try.ntmps9
    go_wp2_with (go_at_call 31; refine (HA.out _).mono ?_; rintro e1 w1 ⟨rfl, hb1⟩)
    go_ret
    exact ⟨rfl, hb1⟩
  by_cases c2 : 300 < n
  · go_enter Try.func9, Try.ntmps9
    go_wp2_with (go_at_call 31; refine (HA.out _).mono ?_; rintro e1 w1 ⟨rfl, hb1⟩)
    go_ret
    exact ⟨rfl, hb1⟩
  by_cases c3 : long < 0
  · go_enter Try.func9, Try.ntmps9
    go_wp2_with (go_at_call 31; refine (HA.out _).mono ?_; rintro e1 w1 ⟨rfl, hb1⟩)
    go_ret
    exact ⟨rfl, hb1⟩
  by_cases c4 : 14000 < long
  · go_enter Try.func9, Try.ntmps9
    go_wp2_with (go_at_call 31; refine (HA.out _).mono ?_; rintro e1 w1 ⟨rfl, hb1⟩)
    go_ret
    exact ⟨rfl, hb1⟩
  obtain ⟨N, rfl⟩ : ∃ N : Nat, n = N := ⟨n.toNat, by omega⟩
  obtain ⟨K, rfl⟩ : ∃ K : Nat, long = K := ⟨long.toNat, by omega⟩
  have c5 : N ≤ 300 := by omega
  have c6 : K ≤ 14000 := by omega
  have HN := Lib.hid (fun W => st_new (w0 := w) (w := W))
  have HO1 := Lib.hid (fun (W : World) (d : Nat) (hd : DkD w W d Dk.new) => st_keep hd keeps_new full_new)
  have hmk := fun W => run_make_row' (P := Try.prog) 59 5 (.int .u8 0) 1 Try.underlying59 Try.info5 rfl .i64 .i64 K (by omega) (by omega) W
  go_enter Try.func9, Try.ntmps9
  go_wp2_with (first
    | (go_at_call 31; refine (HA.out _).mono ?_; rintro e1 w1 ⟨rfl, hb1⟩)
    | (go_at_call 18; refine (HN.out _ hb1).mono ?_; rintro e2 w2 ⟨d, rfl, hd⟩)
    | (go_at_call 33; refine (HO1.out _ _ hd).mono ?_; rintro e3 w3 ⟨g, v, rfl, hst, ho3, hb3⟩; obtain ⟨A, c, rfl, hc⟩ := own_form ho3; have HST := Lib.hid hst; clear hb1 hd hb3 hst ho3))
  go_loopw [10] (fun iv wr => ∃ i D, i ≤ N ∧ iv = .int .i64 (i : Nat) ∧ StD w wr d g D (roomL i) ∧ RoomAt D i) (fun iv _ => N - (intOf iv).toNat)
  case atStart => exact ⟨0, Dk.new, Nat.zero_le _, rfl, HST.out, roomAt_zero⟩
  case round =>
    obtain ⟨i, D, hi, rfl, hst, hra⟩ := hrel
    clear HST HA HN HO1
    obtain ⟨D', hap, hra'⟩ := roomAt_succ hra
    obtain ⟨all, hk⟩ := hra.keeps
    have he : (roomL i).epoch + 1 < 4294967296 := by
      unfold roomL
      split
      · decide
      · show 1 + 1 < _; omega
    by_cases hlt : i < N
    · have h34 := fun (W : World) (hs : StD w W d g D (roomL i)) v (hv : IsStrs W v oneA) => st_append hs hk.wait0 (hk.lgFine (by omega)) v oneA hv (by decide)
      rw [hap] at h34
      have h35 := fun (W : World) (hs : StD w W d g D' (roomL (i + 1))) => st_room hs (by rw [roomL_pos]; omega)
      rw [roomL_pos] at h35
      have hb4 : Below wr.heap.size wr (wr.alloc (Obj.cells #[Value.string ⟨#[97]⟩] 9)) := (Below.refl _ _).alloc (Nat.le_refl _) _
      have hs4 := isStrs_row oneA (Blk.new wr 9 #[Value.string ⟨#[97]⟩]) (by
        intro j hj
        obtain rfl : j = 0 := by simp [oneA] at hj; omega
        exact ⟨rfl, by show 1 ≤ _; omega⟩) 1 1 rfl (Nat.le_refl _) (by decide)
      have H4 := Lib.hid (h34 _ (hst.below hb4) _ hs4)
      have H35 := Lib.hid h35
      have HRA := Lib.hid hra'
      clear hst hra hap hk he h34 h35 hb4 hs4 hra'
      by_cases h256 : i < 256
      · rw [if_pos h256] at H4
        have em : min (i + 1) 256 = i + 1 := by omega
        rw [em] at H35
        clear em
        go_wp2_with (first
          | (go_at_call 34; refine H4.out.mono ?_; rintro e4 w4 ⟨rfl, hs4⟩)
          | (go_at_call 35; refine (H35.out _ hs4).mono ?_; rintro e5 w5 ⟨rfl, rfl⟩))
        go_roundw
        case rel => exact ⟨i + 1, D', by omega, by go_num, hs4, HRA.out⟩
        case measure => simp [intOf]; omega
      · rw [if_neg h256] at H4
        have em : min (i + 1) 256 = 256 := by omega
        rw [em] at H35
        clear em
        have H35' : Hid (∀ (W : World), StD w W d g D' (roomL (i + 1)) → Calls Try.prog 35 #[.pointer (some ⟨g, 0, none⟩)] W fun e w' => e = .returned (.int .i64 0) ∧ W = w') := H35
        have q3 : max (255 - (i : Int)) 0 = 0 := by omega
        have q4 : ¬ (i : Int) < 256 := by omega
        go_wp2_with (first
          | (go_at_call 34; refine H4.out.mono ?_; rintro e4 w4 ⟨rfl, hs4⟩)
          | (go_at_call 35; refine (H35'.out _ hs4).mono ?_; rintro e5 w5 ⟨rfl, rfl⟩))
        go_roundw
        case rel => exact ⟨i + 1, D', by omega, by go_num, hs4, HRA.out⟩
        case measure => simp [intOf]; omega
    · obtain rfl : i = N := by omega
      clear hap hra'
      obtain ⟨r1, r2⟩ := room_renew hra c6
      have hd := hst.below (Below.refl _ _)
      have h38 := fun (W : World) (hs : StD w W d g D (roomL i)) v (hv : IsStrs W v [zs K]) => st_renew hs hk.wait0 (hk.lgFine (by omega)) v [zs K] hv (by show 1 ≤ _; omega)
      have hb5 : Blk (wr.alloc (.cells (madeCells #[Value.int .u8 0] K) 5)) wr.heap.size 5 (madeCells #[Value.int .u8 0] K) := Blk.new wr 5 _
      have hc := run_convert_bytes_arg (P := Try.prog) (wr.alloc (.cells (madeCells #[Value.int .u8 0] K) 5)) 59 5 Try.underlying59 Try.underlying5 wr.heap.size 0 K K (List.replicate K 0) (by simp) (fun j hj => by
        rw [Nat.zero_add, hb5.cell]
        simp [madeCells, hj, Nat.mod_one]) 9 Try.underlying9
      rw [zs_nums] at hc
      have q5 : ¬ (i : Int) < (i : Int) := by omega
      have hb6 : Below wr.heap.size wr ((wr.alloc (.cells (madeCells #[Value.int .u8 0] K) 5)).alloc (Obj.cells #[Value.string (zs K)] 9)) := ((Below.refl _ _).alloc (Nat.le_refl _) _).alloc (by simp) _
      have hs6 := isStrs_row [zs K] (Blk.new (wr.alloc (.cells (madeCells #[Value.int .u8 0] K) 5)) 9 #[Value.string (zs K)]) (by
        intro j hj
        obtain rfl : j = 0 := by simp at hj; omega
        exact ⟨rfl, by rw [List.getElem_cons_zero, zs_size]; omega⟩) 1 1 rfl (Nat.le_refl _) (by decide)
      have e6 : (wr.alloc (.cells (madeCells #[Value.int .u8 0] K) 5)).heap.size = wr.heap.size + 1 := by simp
      rw [e6] at hs6
      have h38' := h38 _ (hst.below hb6) _ hs6
      obtain ⟨R, hR⟩ : ∃ R, R = renewL D (roomL i) [zs K] := ⟨_, rfl⟩
      rw [← hR] at h38' r1 r2
      obtain ⟨a, D2, L2⟩ := R
      simp only at h38' r1 r2
      have H38 := Lib.hid h38'
      clear hst hd hra hk he h38 hb5 hb6 hs6 e6 h38' hR
      by_cases hK : K ≤ 13310
      · obtain ⟨rfl, hp⟩ := r1 hK
        have h35 := fun (W : World) (hs : StD w W d g D2 L2) => st_room hs (by omega)
        rw [hp] at h35
        have H35 := Lib.hid h35
        have k1 : (K : Int) + 2 ≤ 13312 := by omega
        have HE := Lib.hid (show (256 : Int) - (((K + 53) / 52 : Nat) : Int) = 256 - ((K : Int) + 2 + 51) / 52 by omega)
        rw [HE.out] at H35
        clear h35 r1 r2 hp hK
        go_wp2_with (first
          | (go_at_call 38; refine H38.out.mono ?_; rintro e4 w4 ⟨rfl, hs4⟩)
          | (go_at_call 35; refine (H35.out _ hs4).mono ?_; rintro e5 w5 ⟨rfl, rfl⟩))
        go_ret
        exact ⟨rfl, hs4.bel⟩
      · have ha20 := r2 (by omega)
        rw [ha20] at H38
        have k1 : decide ((K : Int) + 2 ≤ 13312) = false := decide_eq_false (by omega)
        clear r1 r2 hK ha20
        go_wp2_with (go_at_call 38; refine H38.out.mono ?_; rintro e4 w4 ⟨rfl, hs4⟩)
        go_ret
        exact ⟨rfl, hs4.bel⟩
end Go.Proofs.Ytddaiihhhajieaa
