/- What a block says: the walk of headOf. -/
import Derived.Test.YtddaiihhhajieaaLogBlock
import Derived.Deep.CutRange
namespace Go.Proofs.Ytddaiihhhajieaa
open Go.RowKit Go.Maps

def bAt (b : ByteArray) (i : Nat) : Nat := (b.data.toList.getD i 0).toNat
theorem bAt_get (b : ByteArray) (i : Nat) (h : i < b.size) : (b[i]'h).toNat = bAt b i := by
  unfold bAt
  have h' : i < b.data.toList.length := by rw [data_len]; exact h
  rw [List.getD_eq_getElem?_getD, List.getElem?_eq_getElem h']
  obtain ⟨d⟩ := b
  simp only [Option.getD_some]
  congr 1
theorem bAt_lt (b : ByteArray) (i : Nat) : bAt b i < 256 := UInt8.toNat_lt _
def hdOf (b : ByteArray) : Hd := ⟨numB (b.extract 0 4), numB (b.extract 4 8), numB (b.extract 8 10), bAt b 10 == 1, bAt b 11⟩
def hdBad (b : ByteArray) : Prop := 52 < bAt b 11 ∨ (bAt b 10 ≠ 1 ∧ bAt b 11 ≠ 52) ∨ 1 < bAt b 10
instance (b : ByteArray) : Decidable (hdBad b) := by unfold hdBad; infer_instance
def headB (b : ByteArray) : Hd × ByteArray × Bool :=
  if hdBad b then (⟨0, 0, 0, false, 0⟩, ⟨#[]⟩, false)
  else (hdOf b, b.extract 12 (12 + bAt b 11), ((hdOf b).block (b.extract 12 (12 + bAt b 11))).toList == b.toList)

theorem numB_le (s : ByteArray) (h : s.size ≤ 4) : numB s ≤ 9223372036854775807 := by
  have h1 := numTo_lt s s.size
  rw [numTo_all] at h1
  have h2 : 256 ^ s.size ≤ 256 ^ 4 := Nat.pow_le_pow_right (by omega) h
  omega
theorem Try.size112 : (Try.prog.info? 112).map (·.size) = some 5 := by kernel_rfl
theorem results_cell3 {P : Program} {fn : Func} {a u v : Tmp} {t : TypeId} {w : World} {ad : Addr} (h : fn.results = #[.cell a t, .tmp u, .tmp v]) (tmps : Array Value) (hp : tmps.getD a undef = .pointer (some ad)) (x : Value)
    (hx : (loadVar t ad).run P w = .ok x w) : (results fn tmps).run P w = .ok (.tuple #[x, tmps.getD u undef, tmps.getD v undef]) w := by
  have hp' : tmps[a]?.getD undef = .pointer (some ad) := by simpa using hp
  have ha : (asAddr (.pointer (some ad))).run P w = .ok ad w := rfl
  simp [results, h, hp', ha, hx]

set_option maxHeartbeats 1000000 in
set_option maxRecDepth 20000 in
theorem headOf_any (b : ByteArray) (hb : b.size = 64) (w : World) : Calls Try.prog 83 #[.string b] w fun e w' => e = .returned (.tuple #[(headB b).1.val, .string (headB b).2.1, .bool (headB b).2.2]) ∧ Below w.heap.size w w' := by
  have HN := Lib.hid (fun (s : ByteArray) (hs : s.size ≤ 4) W => (number_any s hs W).mono fun e w' (hh : _ ∧ _) => (⟨hh.1, hh.2.symm⟩ : e = .returned (.int .i64 (numB s : Int)) ∧ w' = W))
  have HB := Lib.hid hb
  have k4 : (4 : Int) ≤ b.size := by omega
  have k8 : (8 : Int) ≤ b.size := by omega
  have k10 : (10 : Int) ≤ b.size := by omega
  have h10 : (10 : Int) < b.size := by omega
  have h11 : (11 : Int) < b.size := by omega
  have n10 : 10 < b.size := by omega
  have n11 : 11 < b.size := by omega
  have e10 := bAt_get b 10 n10
  have e11 := bAt_get b 11 n11
  have l10 := bAt_lt b 10
  have l11 := bAt_lt b 11
  have HW := Lib.hid (show IntKind.i64.wrap (bAt b 11 : Int) = (bAt b 11 : Int) by rw [IntKind.wrap_i64]; omega)
  clear hb
  go_enter Try.func83, Try.ntmps83
  go_wp2
  go_cut [5] from 7 to 22 (fun s5 wx => s5 = .pointer (some ⟨w.heap.size + 1, 0, none⟩) ∧ wx = ((w.alloc (.cells #[.int .i64 0, .int .i64 0, .int .i64 0, .bool false, .int .i64 0] 112)).alloc (.cells #[.int .i64 (numB (b.extract 0 4) : Int), .int .i64 (numB (b.extract 4 8) : Int), .int .i64 (numB (b.extract 8 10) : Int), .bool ((bAt b 10 : Int) == 1), .int .i64 (bAt b 11 : Int)] 112)).drew)
  case first =>
    refine wp_region_any (by kernel_rfl) ?_
    change wpAny _ _ _ _ _ _ _ (World.drew _)
    refine wpAny_take (i := 0) (v := ?_) rfl (by kernel_rfl) (by kernel_rfl) (by kernel_rfl) (fun _ _ _ h => h) (Or.inl ⟨by rfl, ?_⟩) ?_
    rotate_left
    · (intro W; go_simp; try with_reducible rfl)
    refine wpAny_take (i := 1) (v := ?_) rfl (by kernel_rfl) (by kernel_rfl) (by kernel_rfl) (fun _ _ _ h => h) (Or.inl ⟨by rfl, ?_⟩) ?_
    rotate_left
    · (intro W; go_simp; try with_reducible rfl)
    refine wpAny_take (i := 3) (v := ?_) rfl (by kernel_rfl) (by kernel_rfl) (by kernel_rfl) (fun _ _ _ h => h) (Or.inl ⟨by rfl, ?_⟩) ?_
    rotate_left
    · (intro W; go_simp; try with_reducible rfl)
    refine wpAny_take (i := 4) (v := ?_) rfl (by kernel_rfl) (by kernel_rfl) (by kernel_rfl) (fun _ _ _ h => h) (Or.inl ⟨by rfl, ?_⟩) ?_
    rotate_left
    · (intro W; go_simp; try with_reducible rfl)
    refine wpAny_take (i := 6) (v := ?_) rfl (by kernel_rfl) (by kernel_rfl) (by kernel_rfl) (fun _ _ _ h => h) (Or.inl ⟨by rfl, ?_⟩) ?_
    rotate_left
    · (intro W; go_simp; try with_reducible rfl)
    refine wpAny_take (i := 7) (v := ?_) rfl (by kernel_rfl) (by kernel_rfl) (by kernel_rfl) (fun _ _ _ h => h) (Or.inl ⟨by rfl, ?_⟩) ?_
    rotate_left
    · (intro W; go_simp; try with_reducible rfl)
    refine wpAny_take (i := 9) (v := ?_) rfl (by kernel_rfl) (by kernel_rfl) (by kernel_rfl) (fun _ _ _ h => h) (Or.inl ⟨by rfl, ?_⟩) ?_
    rotate_left
    · (intro W; go_simp; try with_reducible rfl)
    refine wpAny_take (i := 10) (v := ?_) rfl (by kernel_rfl) (by kernel_rfl) (by kernel_rfl) (fun _ _ _ h => h) (Or.inl ⟨by rfl, ?_⟩) ?_
    rotate_left
    · (intro W; go_simp; try with_reducible rfl)
    refine wpAny_take (i := 12) (v := ?_) rfl (by kernel_rfl) (by kernel_rfl) (by kernel_rfl) (fun _ _ _ h => h) (Or.inl ⟨by rfl, ?_⟩) ?_
    rotate_left
    · (intro W; go_simp; try with_reducible rfl)
    refine wpAny_take (i := 13) (v := ?_) rfl (by kernel_rfl) (by kernel_rfl) (by kernel_rfl) (fun _ _ _ h => h) (Or.inl ⟨by rfl, ?_⟩) ?_
    rotate_left
    · (intro W; go_simp; try with_reducible rfl)
    refine wpAny_take (i := 11) (v := ?_) rfl (by kernel_rfl) (by kernel_rfl) (by kernel_rfl) (fun _ _ _ h => h) (Or.inl ⟨by rfl, ?_⟩) ?_
    rotate_left
    · (intro W; go_simp; try with_reducible rfl)
    refine wpAny_take (i := 14) (v := ?_) rfl (by kernel_rfl) (by kernel_rfl) (by kernel_rfl) (fun _ _ _ h => h) (Or.inl ⟨by rfl, ?_⟩) ?_
    rotate_left
    · (intro W; go_simp; try with_reducible rfl)
    refine wpAny_ready (rs := [2, 16]) (by kernel_rfl) (by simp) ?_
    refine AllReady.cons rfl (fun K hK => ?_) (AllReady.cons rfl (fun K hK => ?_) AllReady.nil)
    · go_simp
      go_at_call 58
      refine (HN.out _ (by simp [HB.out]) _).mono ?_
      rintro e1 w1 ⟨rfl, rfl⟩
      go_wp2_with fail
      refine wpAny_ready (rs := [5, 16]) (by kernel_rfl) (by simp) ?_
      refine AllReady.cons rfl (fun K hK => ?_) (AllReady.cons rfl (fun K hK => ?_) AllReady.nil)
      · go_simp
        go_at_call 58
        refine (HN.out _ (by simp [HB.out]) _).mono ?_
        rintro e1 w1 ⟨rfl, rfl⟩
        go_wp2_with fail
        refine wpAny_ready (rs := [8, 16]) (by kernel_rfl) (by simp) ?_
        refine AllReady.cons rfl (fun K hK => ?_) (AllReady.cons rfl (fun K hK => ?_) AllReady.nil)
        · go_simp
          go_at_call 58
          refine (HN.out _ (by simp [HB.out]) _).mono ?_
          rintro e1 w1 ⟨rfl, rfl⟩
          go_wp2_with fail
          refine wpAny_take (i := 15) (v := ?_) rfl (by kernel_rfl) (by kernel_rfl) (by kernel_rfl) (fun _ _ _ h => h) (Or.inl ⟨by rfl, ?_⟩) ?_
          rotate_left
          · (intro W; go_simp; try with_reducible rfl)
          refine wpAny_ready (rs := [16]) (by kernel_rfl) (by simp) ?_
          refine AllReady.cons rfl (fun K hK => ?_) AllReady.nil
          go_simp
          refine hK _ _ ?_
          clear hK K
          refine wpAny_ready (rs := [17]) (by kernel_rfl) (by simp) ?_
          refine AllReady.cons rfl (fun K hK => ?_) AllReady.nil
          go_simp
          refine hK _ _ ?_
          clear hK K
          refine wpAny_done (by kernel_rfl) ?_ _
          (go_wp2_with fail; go_meet; exact ⟨rfl, by rw [HW.out]⟩)
        · go_simp
          refine hK _ _ ?_
          clear hK K
          refine wpAny_ready (rs := [8]) (by kernel_rfl) (by simp) ?_
          refine AllReady.cons rfl (fun K hK => ?_) AllReady.nil
          go_simp
          go_at_call 58
          refine (HN.out _ (by simp [HB.out]) _).mono ?_
          rintro e1 w1 ⟨rfl, rfl⟩
          go_wp2_with fail
          refine wpAny_take (i := 15) (v := ?_) rfl (by kernel_rfl) (by kernel_rfl) (by kernel_rfl) (fun _ _ _ h => h) (Or.inl ⟨by rfl, ?_⟩) ?_
          rotate_left
          · (intro W; go_simp; try with_reducible rfl)
          refine wpAny_ready (rs := [17]) (by kernel_rfl) (by simp) ?_
          refine AllReady.cons rfl (fun K hK => ?_) AllReady.nil
          go_simp
          refine hK _ _ ?_
          clear hK K
          refine wpAny_done (by kernel_rfl) ?_ _
          (go_wp2_with fail; go_meet; exact ⟨rfl, by rw [HW.out]⟩)
      · go_simp
        refine hK _ _ ?_
        clear hK K
        refine wpAny_ready (rs := [5]) (by kernel_rfl) (by simp) ?_
        refine AllReady.cons rfl (fun K hK => ?_) AllReady.nil
        go_simp
        go_at_call 58
        refine (HN.out _ (by simp [HB.out]) _).mono ?_
        rintro e1 w1 ⟨rfl, rfl⟩
        go_wp2_with fail
        refine wpAny_ready (rs := [8]) (by kernel_rfl) (by simp) ?_
        refine AllReady.cons rfl (fun K hK => ?_) AllReady.nil
        go_simp
        go_at_call 58
        refine (HN.out _ (by simp [HB.out]) _).mono ?_
        rintro e1 w1 ⟨rfl, rfl⟩
        go_wp2_with fail
        refine wpAny_take (i := 15) (v := ?_) rfl (by kernel_rfl) (by kernel_rfl) (by kernel_rfl) (fun _ _ _ h => h) (Or.inl ⟨by rfl, ?_⟩) ?_
        rotate_left
        · (intro W; go_simp; try with_reducible rfl)
        refine wpAny_ready (rs := [17]) (by kernel_rfl) (by simp) ?_
        refine AllReady.cons rfl (fun K hK => ?_) AllReady.nil
        go_simp
        refine hK _ _ ?_
        clear hK K
        refine wpAny_done (by kernel_rfl) ?_ _
        (go_wp2_with fail; go_meet; exact ⟨rfl, by rw [HW.out]⟩)
    · go_simp
      refine hK _ _ ?_
      clear hK K
      refine wpAny_ready (rs := [2]) (by kernel_rfl) (by simp) ?_
      refine AllReady.cons rfl (fun K hK => ?_) AllReady.nil
      go_simp
      go_at_call 58
      refine (HN.out _ (by simp [HB.out]) _).mono ?_
      rintro e1 w1 ⟨rfl, rfl⟩
      go_wp2_with fail
      refine wpAny_ready (rs := [5]) (by kernel_rfl) (by simp) ?_
      refine AllReady.cons rfl (fun K hK => ?_) AllReady.nil
      go_simp
      go_at_call 58
      refine (HN.out _ (by simp [HB.out]) _).mono ?_
      rintro e1 w1 ⟨rfl, rfl⟩
      go_wp2_with fail
      refine wpAny_ready (rs := [8]) (by kernel_rfl) (by simp) ?_
      refine AllReady.cons rfl (fun K hK => ?_) AllReady.nil
      go_simp
      go_at_call 58
      refine (HN.out _ (by simp [HB.out]) _).mono ?_
      rintro e1 w1 ⟨rfl, rfl⟩
      go_wp2_with fail
      refine wpAny_take (i := 15) (v := ?_) rfl (by kernel_rfl) (by kernel_rfl) (by kernel_rfl) (fun _ _ _ h => h) (Or.inl ⟨by rfl, ?_⟩) ?_
      rotate_left
      · (intro W; go_simp; try with_reducible rfl)
      refine wpAny_ready (rs := [17]) (by kernel_rfl) (by simp) ?_
      refine AllReady.cons rfl (fun K hK => ?_) AllReady.nil
      go_simp
      refine hK _ _ ?_
      clear hK K
      refine wpAny_done (by kernel_rfl) ?_ _
      (go_wp2_with fail; go_meet; exact ⟨rfl, by rw [HW.out]⟩)
  case rest =>
    obtain ⟨rfl, rfl⟩ := hcut
    have e1 : ∀ x, x = headB b → hdBad b → x = (⟨0, 0, 0, false, 0⟩, ⟨#[]⟩, false) := fun x hx h => by rw [hx]; exact if_pos h
    have e2 : ∀ x, x = headB b → ¬ hdBad b → x = (hdOf b, b.extract 12 (12 + bAt b 11), ((hdOf b).block (b.extract 12 (12 + bAt b 11))).toList == b.toList) := fun x hx h => by rw [hx]; exact if_neg h
    have hlv : ∀ W cs, Blk W w.heap.size 112 cs → cs.size = 5 → (loadVar 112 ⟨w.heap.size, 0, none⟩).run Try.prog W = .ok (.agg cs) W := fun W cs hb hs =>
      run_loadVar_row W w.heap.size 112 112 cs (0, 0) _ hb Try.underlying112 rfl (by rw [hs]; exact Try.size112)
    have HLV := Lib.hid hlv
    have HB0 := Lib.hid ((((Blk.new w 112 #[.int .i64 0, .int .i64 0, .int .i64 0, .bool false, .int .i64 0]).alloc (.cells #[.int .i64 (numB (b.extract 0 4) : Int), .int .i64 (numB (b.extract 4 8) : Int), .int .i64 (numB (b.extract 8 10) : Int), .bool ((bAt b 10 : Int) == 1), .int .i64 (IntKind.i64.wrap (bAt b 11 : Int))] 112)).stay (w' := ((w.alloc (.cells #[.int .i64 0, .int .i64 0, .int .i64 0, .bool false, .int .i64 0] 112)).alloc (.cells #[.int .i64 (numB (b.extract 0 4) : Int), .int .i64 (numB (b.extract 4 8) : Int), .int .i64 (numB (b.extract 8 10) : Int), .bool ((bAt b 10 : Int) == 1), .int .i64 (IntKind.i64.wrap (bAt b 11 : Int))] 112)).drew) rfl))
    rw [HW.out] at HB0
    clear hlv
    have BA := Lib.hid (((((Below.refl w.heap.size w).alloc (Nat.le_refl _) (.cells #[.int .i64 0, .int .i64 0, .int .i64 0, .bool false, .int .i64 0] 112)).alloc (by simp) (.cells #[.int .i64 (numB (b.extract 0 4) : Int), .int .i64 (numB (b.extract 4 8) : Int), .int .i64 (numB (b.extract 8 10) : Int), .bool ((bAt b 10 : Int) == 1), .int .i64 (IntKind.i64.wrap (bAt b 11 : Int))] 112))).drew)
    rw [HW.out] at BA
    have k12 : (12 : Int) + (bAt b 11 : Int) ≤ b.size ∨ 52 < bAt b 11 := by have := HB.out; omega
    by_cases c1 : 52 < bAt b 11
    · have E := Lib.hid (e1 _ rfl (.inl c1))
      clear e1 e2
      go_wp2_with fail
      refine bodyPost_ret (results_cell3 rfl _ rfl _ (HLV.out _ _ HB0.out rfl)) rfl ?_
      exact ⟨by rw [E.out]; rfl, BA.out⟩
    replace k12 := k12.resolve_right c1
    have d1 : decide ((52 : Int) < (bAt b 11 : Int)) = false := decide_eq_false (by omega)
    have d1' : ¬ ((52 : Int) < (bAt b 11 : Int)) := by omega
    by_cases c2 : bAt b 10 = 1
    · have d2 : ¬ ((1 : Int) < (bAt b 10 : Int)) := by omega
      have HB1 := Lib.hid (((Blk.new (w.alloc (.cells #[.int .i64 0, .int .i64 0, .int .i64 0, .bool false, .int .i64 0] 112)) 112 #[.int .i64 (numB (b.extract 0 4) : Int), .int .i64 (numB (b.extract 4 8) : Int), .int .i64 (numB (b.extract 8 10) : Int), .bool ((bAt b 10 : Int) == 1), .int .i64 (IntKind.i64.wrap (bAt b 11 : Int))]).stay (w' := ((w.alloc (.cells #[.int .i64 0, .int .i64 0, .int .i64 0, .bool false, .int .i64 0] 112)).alloc (.cells #[.int .i64 (numB (b.extract 0 4) : Int), .int .i64 (numB (b.extract 4 8) : Int), .int .i64 (numB (b.extract 8 10) : Int), .bool ((bAt b 10 : Int) == 1), .int .i64 (IntKind.i64.wrap (bAt b 11 : Int))] 112)).drew) rfl))
      rw [HW.out] at HB1
      have hs1 : (w.alloc (.cells #[.int .i64 0, .int .i64 0, .int .i64 0, .bool false, .int .i64 0] 112)).heap.size = w.heap.size + 1 := by simp
      rw [hs1] at HB1
      generalize (((w.alloc (.cells #[.int .i64 0, .int .i64 0, .int .i64 0, .bool false, .int .i64 0] 112)).alloc (.cells #[.int .i64 (numB (b.extract 0 4) : Int), .int .i64 (numB (b.extract 4 8) : Int), .int .i64 (numB (b.extract 8 10) : Int), .bool ((bAt b 10 : Int) == 1), .int .i64 (bAt b 11 : Int)] 112)).drew) = W0 at BA HB0 HB1 ⊢
      have hdd : ∀ last : Bool, hdOf b = ⟨numB (b.extract 0 4), numB (b.extract 4 8), numB (b.extract 8 10), bAt b 10 == 1, bAt b 11⟩ := fun _ => rfl
      have key : ∀ last : Bool, ((bAt b 10 : Int) == 1) = last → Hid (∀ W, Below W0.heap.size W0 W → (∃ cs, Blk W (w.heap.size + 1) 112 cs ∧ cs = #[.int .i64 (numB (b.extract 0 4) : Int), .int .i64 (numB (b.extract 4 8) : Int), .int .i64 (numB (b.extract 8 10) : Int), .bool last, .int .i64 (bAt b 11 : Int)]) ∧ Blk W w.heap.size 112 #[.int .i64 0, .int .i64 0, .int .i64 0, .bool false, .int .i64 0]) := by
        intro last hl W hW
        rw [hl] at HB1
        exact ⟨⟨_, HB1.out.below hW HB1.out.lt, rfl⟩, HB0.out.below hW HB0.out.lt⟩
      have q0 := HB1.out.cell 0
      have q1 := HB1.out.cell 1
      have q2 := HB1.out.cell 2
      have q3 := HB1.out.cell 3
      have q4 := HB1.out.cell 4
      simp only [List.getElem?_toArray, List.getElem?_cons_zero, List.getElem?_cons_succ] at q0 q1 q2 q3 q4
      have hb1 : ((bAt b 10 : Int) == 1) = true := by rw [beq_iff_eq]; omega
      have E := Lib.hid (e2 _ rfl (by unfold hdBad; omega))
      have hh : hdOf b = ⟨numB (b.extract 0 4), numB (b.extract 4 8), numB (b.extract 8 10), true, bAt b 11⟩ := by unfold hdOf; congr 1; rw [c2]; rfl
      rw [hh] at E
      have h86 := lblock_any ⟨numB (b.extract 0 4), numB (b.extract 4 8), numB (b.extract 8 10), true, bAt b 11⟩ ⟨numB_le _ (by simp [HB.out]), numB_le _ (by simp [HB.out]), numB_le _ (by simp [HB.out]), by show bAt b 11 ≤ _; omega⟩ (b.extract 12 (12 + bAt b 11)) (by have := HB.out; simp; omega)
      simp only at h86
      have H86 := Lib.hid (fun W (hW : Below W0.heap.size W0 W) => (h86 W).mono fun e w' (hh : _ ∧ _) => (⟨hh.1, hW.trans (hh.2.mono hW.size)⟩ : _ ∧ Below W0.heap.size W0 w'))
      rw [hb1] at q3
      have KK := key true hb1
      have QD := Lib.hid (show W0.drew.cell? ⟨w.heap.size + 1, 0, none⟩ = some (.int .i64 (numB (b.extract 0 4) : Int)) ∧ W0.drew.cell? ⟨w.heap.size + 1, 1, none⟩ = some (.int .i64 (numB (b.extract 4 8) : Int)) ∧ W0.drew.cell? ⟨w.heap.size + 1, 2, none⟩ = some (.int .i64 (numB (b.extract 8 10) : Int)) ∧ W0.drew.cell? ⟨w.heap.size + 1, 3, none⟩ = some (.bool true) ∧ W0.drew.cell? ⟨w.heap.size + 1, 4, none⟩ = some (.int .i64 (bAt b 11 : Int)) from ⟨q0, q1, q2, q3, q4⟩)
      have B0 := Lib.hid ((Below.refl W0.heap.size W0).drew)
      clear e1 e2 hb1 key hdd hh h86 HB1 HB0
      go_wp2_with fail
      go_region_held3 (fun W => W.cell? ⟨w.heap.size + 1, 0, none⟩ = some (.int .i64 (numB (b.extract 0 4) : Int)) ∧ W.cell? ⟨w.heap.size + 1, 1, none⟩ = some (.int .i64 (numB (b.extract 4 8) : Int)) ∧ W.cell? ⟨w.heap.size + 1, 2, none⟩ = some (.int .i64 (numB (b.extract 8 10) : Int)) ∧ W.cell? ⟨w.heap.size + 1, 3, none⟩ = some (.bool true) ∧ W.cell? ⟨w.heap.size + 1, 4, none⟩ = some (.int .i64 (bAt b 11 : Int))) (first | (with_reducible exact QD.out) | (with_reducible exact ⟨y0, y1, y2, y3, y4⟩) | (with_reducible exact YD.out))
        (first | (go_at_call 86; refine (H86.out _ B0.out).mono ?_; rintro e1 w1 ⟨rfl, b1⟩; obtain ⟨⟨_, y, rfl⟩, z⟩ := KK.out _ b1; have hne : w.heap.size + 1 ≠ w.heap.size := (by omega); have y' := (((((y.far (p := ⟨w.heap.size, 0, none⟩) hne (.int .i64 (numB (b.extract 0 4) : Int))).far (p := ⟨w.heap.size, 1, none⟩) hne (.int .i64 (numB (b.extract 4 8) : Int))).far (p := ⟨w.heap.size, 2, none⟩) hne (.int .i64 (numB (b.extract 8 10) : Int))).far (p := ⟨w.heap.size, 3, none⟩) hne (.bool true)).far (p := ⟨w.heap.size, 4, none⟩) hne (.int .i64 (bAt b 11 : Int))); have YD := Lib.hid (show (((((w1.setCell ⟨w.heap.size, 0, none⟩ (.int .i64 (numB (b.extract 0 4) : Int))).setCell ⟨w.heap.size, 1, none⟩ (.int .i64 (numB (b.extract 4 8) : Int))).setCell ⟨w.heap.size, 2, none⟩ (.int .i64 (numB (b.extract 8 10) : Int))).setCell ⟨w.heap.size, 3, none⟩ (.bool true)).setCell ⟨w.heap.size, 4, none⟩ (.int .i64 (bAt b 11 : Int))).cell? ⟨w.heap.size + 1, 0, none⟩ = some (.int .i64 (numB (b.extract 0 4) : Int)) ∧ (((((w1.setCell ⟨w.heap.size, 0, none⟩ (.int .i64 (numB (b.extract 0 4) : Int))).setCell ⟨w.heap.size, 1, none⟩ (.int .i64 (numB (b.extract 4 8) : Int))).setCell ⟨w.heap.size, 2, none⟩ (.int .i64 (numB (b.extract 8 10) : Int))).setCell ⟨w.heap.size, 3, none⟩ (.bool true)).setCell ⟨w.heap.size, 4, none⟩ (.int .i64 (bAt b 11 : Int))).cell? ⟨w.heap.size + 1, 1, none⟩ = some (.int .i64 (numB (b.extract 4 8) : Int)) ∧ (((((w1.setCell ⟨w.heap.size, 0, none⟩ (.int .i64 (numB (b.extract 0 4) : Int))).setCell ⟨w.heap.size, 1, none⟩ (.int .i64 (numB (b.extract 4 8) : Int))).setCell ⟨w.heap.size, 2, none⟩ (.int .i64 (numB (b.extract 8 10) : Int))).setCell ⟨w.heap.size, 3, none⟩ (.bool true)).setCell ⟨w.heap.size, 4, none⟩ (.int .i64 (bAt b 11 : Int))).cell? ⟨w.heap.size + 1, 2, none⟩ = some (.int .i64 (numB (b.extract 8 10) : Int)) ∧ (((((w1.setCell ⟨w.heap.size, 0, none⟩ (.int .i64 (numB (b.extract 0 4) : Int))).setCell ⟨w.heap.size, 1, none⟩ (.int .i64 (numB (b.extract 4 8) : Int))).setCell ⟨w.heap.size, 2, none⟩ (.int .i64 (numB (b.extract 8 10) : Int))).setCell ⟨w.heap.size, 3, none⟩ (.bool true)).setCell ⟨w.heap.size, 4, none⟩ (.int .i64 (bAt b 11 : Int))).cell? ⟨w.heap.size + 1, 3, none⟩ = some (.bool true) ∧ (((((w1.setCell ⟨w.heap.size, 0, none⟩ (.int .i64 (numB (b.extract 0 4) : Int))).setCell ⟨w.heap.size, 1, none⟩ (.int .i64 (numB (b.extract 4 8) : Int))).setCell ⟨w.heap.size, 2, none⟩ (.int .i64 (numB (b.extract 8 10) : Int))).setCell ⟨w.heap.size, 3, none⟩ (.bool true)).setCell ⟨w.heap.size, 4, none⟩ (.int .i64 (bAt b 11 : Int))).cell? ⟨w.heap.size + 1, 4, none⟩ = some (.int .i64 (bAt b 11 : Int)) from ⟨(y'.cell 0).trans rfl, (y'.cell 1).trans rfl, (y'.cell 2).trans rfl, (y'.cell 3).trans rfl, (y'.cell 4).trans rfl⟩); have zz := Lib.hid z; clear hne y'; have y0 : w1.cell? ⟨w.heap.size + 1, 0, none⟩ = some (.int .i64 (numB (b.extract 0 4) : Int)) := (y.cell 0).trans rfl; have y1 : w1.cell? ⟨w.heap.size + 1, 1, none⟩ = some (.int .i64 (numB (b.extract 4 8) : Int)) := (y.cell 1).trans rfl; have y2 : w1.cell? ⟨w.heap.size + 1, 2, none⟩ = some (.int .i64 (numB (b.extract 8 10) : Int)) := (y.cell 2).trans rfl; have y3 : w1.cell? ⟨w.heap.size + 1, 3, none⟩ = some (.bool true) := (y.cell 3).trans rfl; have y4 : w1.cell? ⟨w.heap.size + 1, 4, none⟩ = some (.int .i64 (bAt b 11 : Int)) := (y.cell 4).trans rfl; have z0 : w1.cell? ⟨w.heap.size, 0, none⟩ = some (.int .i64 0) := (z.cell 0).trans rfl; have z1 : w1.cell? ⟨w.heap.size, 1, none⟩ = some (.int .i64 0) := (z.cell 1).trans rfl; have z2 : w1.cell? ⟨w.heap.size, 2, none⟩ = some (.int .i64 0) := (z.cell 2).trans rfl; have z3 : w1.cell? ⟨w.heap.size, 3, none⟩ = some (.bool false) := (z.cell 3).trans rfl; have z4 : w1.cell? ⟨w.heap.size, 4, none⟩ = some (.int .i64 0) := (z.cell 4).trans rfl; have f0 := z.frozen 0; have f1 := z.frozen 1; have f2 := z.frozen 2; have f3 := z.frozen 3; have f4 := z.frozen 4))
      all_goals
        go_wp2_with fail
        refine bodyPost_ret (results_cell3 rfl _ rfl _ (HLV.out _ _ (((((zz.out.set_ 0 _).set_ 1 _).set_ 2 _).set_ 3 _).set_ 4 _) rfl)) rfl ?_
        exact ⟨by rw [E.out]; rfl, (((((BA.out.trans (b1.mono BA.out.size)).setCell (p := ⟨w.heap.size, 0, none⟩) (Nat.le_refl _) _).setCell (p := ⟨w.heap.size, 1, none⟩) (Nat.le_refl _) _).setCell (p := ⟨w.heap.size, 2, none⟩) (Nat.le_refl _) _).setCell (p := ⟨w.heap.size, 3, none⟩) (Nat.le_refl _) _).setCell (p := ⟨w.heap.size, 4, none⟩) (Nat.le_refl _) _⟩
    have g1 : ((bAt b 10 : Int) == 1) = false := by rw [beq_eq_false_iff_ne]; omega
    by_cases c4 : bAt b 11 = 52
    case neg =>
      have E := Lib.hid (e1 _ rfl (.inr (.inl ⟨c2, c4⟩)))
      have d3 : ((bAt b 11 : Int) != 52) = true := by rw [bne_iff_ne]; omega
      rw [g1] at HB0 BA ⊢
      clear e1 e2
      go_wp2_with fail
      refine bodyPost_ret (results_cell3 rfl _ rfl _ (HLV.out _ _ HB0.out rfl)) rfl ?_
      exact ⟨by rw [E.out]; rfl, BA.out⟩
    by_cases c5 : 1 < bAt b 10
    case pos =>
      have E := Lib.hid (e1 _ rfl (.inr (.inr c5)))
      have d3 : ((bAt b 11 : Int) != 52) = false := by rw [bne_eq_false_iff_eq]; omega
      have d4 : (1 : Int) < (bAt b 10 : Int) := by omega
      have HC4 := Lib.hid c4
      clear c4
      rw [g1] at HB0 BA ⊢
      clear e1 e2
      go_wp2_with fail
      refine bodyPost_ret (results_cell3 rfl _ rfl _ (HLV.out _ _ HB0.out rfl)) rfl ?_
      exact ⟨by rw [E.out]; rfl, BA.out⟩
    clear g1
    have d2 : ¬ ((1 : Int) < (bAt b 10 : Int)) := by omega
    have d3 : ((bAt b 11 : Int) != 52) = false := by rw [bne_eq_false_iff_eq]; omega
    have HB1 := Lib.hid (((Blk.new (w.alloc (.cells #[.int .i64 0, .int .i64 0, .int .i64 0, .bool false, .int .i64 0] 112)) 112 #[.int .i64 (numB (b.extract 0 4) : Int), .int .i64 (numB (b.extract 4 8) : Int), .int .i64 (numB (b.extract 8 10) : Int), .bool ((bAt b 10 : Int) == 1), .int .i64 (IntKind.i64.wrap (bAt b 11 : Int))]).stay (w' := ((w.alloc (.cells #[.int .i64 0, .int .i64 0, .int .i64 0, .bool false, .int .i64 0] 112)).alloc (.cells #[.int .i64 (numB (b.extract 0 4) : Int), .int .i64 (numB (b.extract 4 8) : Int), .int .i64 (numB (b.extract 8 10) : Int), .bool ((bAt b 10 : Int) == 1), .int .i64 (IntKind.i64.wrap (bAt b 11 : Int))] 112)).drew) rfl))
    rw [HW.out] at HB1
    have hs1 : (w.alloc (.cells #[.int .i64 0, .int .i64 0, .int .i64 0, .bool false, .int .i64 0] 112)).heap.size = w.heap.size + 1 := by simp
    rw [hs1] at HB1
    generalize (((w.alloc (.cells #[.int .i64 0, .int .i64 0, .int .i64 0, .bool false, .int .i64 0] 112)).alloc (.cells #[.int .i64 (numB (b.extract 0 4) : Int), .int .i64 (numB (b.extract 4 8) : Int), .int .i64 (numB (b.extract 8 10) : Int), .bool ((bAt b 10 : Int) == 1), .int .i64 (bAt b 11 : Int)] 112)).drew) = W0 at BA HB0 HB1 ⊢
    have hdd : ∀ last : Bool, hdOf b = ⟨numB (b.extract 0 4), numB (b.extract 4 8), numB (b.extract 8 10), bAt b 10 == 1, bAt b 11⟩ := fun _ => rfl
    have key : ∀ last : Bool, ((bAt b 10 : Int) == 1) = last → Hid (∀ W, Below W0.heap.size W0 W → (∃ cs, Blk W (w.heap.size + 1) 112 cs ∧ cs = #[.int .i64 (numB (b.extract 0 4) : Int), .int .i64 (numB (b.extract 4 8) : Int), .int .i64 (numB (b.extract 8 10) : Int), .bool last, .int .i64 (bAt b 11 : Int)]) ∧ Blk W w.heap.size 112 #[.int .i64 0, .int .i64 0, .int .i64 0, .bool false, .int .i64 0]) := by
      intro last hl W hW
      rw [hl] at HB1
      exact ⟨⟨_, HB1.out.below hW HB1.out.lt, rfl⟩, HB0.out.below hW HB0.out.lt⟩
    have q0 := HB1.out.cell 0
    have q1 := HB1.out.cell 1
    have q2 := HB1.out.cell 2
    have q3 := HB1.out.cell 3
    have q4 := HB1.out.cell 4
    simp only [List.getElem?_toArray, List.getElem?_cons_zero, List.getElem?_cons_succ] at q0 q1 q2 q3 q4
    have hb1 : ((bAt b 10 : Int) == 1) = false := by rw [beq_eq_false_iff_ne]; omega
    have E := Lib.hid (e2 _ rfl (by unfold hdBad; omega))
    have hh : hdOf b = ⟨numB (b.extract 0 4), numB (b.extract 4 8), numB (b.extract 8 10), false, bAt b 11⟩ := by unfold hdOf; congr 1; exact beq_eq_false_iff_ne.2 c2
    rw [hh] at E
    have h86 := lblock_any ⟨numB (b.extract 0 4), numB (b.extract 4 8), numB (b.extract 8 10), false, bAt b 11⟩ ⟨numB_le _ (by simp [HB.out]), numB_le _ (by simp [HB.out]), numB_le _ (by simp [HB.out]), by show bAt b 11 ≤ _; omega⟩ (b.extract 12 (12 + bAt b 11)) (by have := HB.out; simp; omega)
    simp only at h86
    have H86 := Lib.hid (fun W (hW : Below W0.heap.size W0 W) => (h86 W).mono fun e w' (hh : _ ∧ _) => (⟨hh.1, hW.trans (hh.2.mono hW.size)⟩ : _ ∧ Below W0.heap.size W0 w'))
    rw [hb1] at q3
    have KK := key false hb1
    have QD := Lib.hid (show W0.drew.cell? ⟨w.heap.size + 1, 0, none⟩ = some (.int .i64 (numB (b.extract 0 4) : Int)) ∧ W0.drew.cell? ⟨w.heap.size + 1, 1, none⟩ = some (.int .i64 (numB (b.extract 4 8) : Int)) ∧ W0.drew.cell? ⟨w.heap.size + 1, 2, none⟩ = some (.int .i64 (numB (b.extract 8 10) : Int)) ∧ W0.drew.cell? ⟨w.heap.size + 1, 3, none⟩ = some (.bool false) ∧ W0.drew.cell? ⟨w.heap.size + 1, 4, none⟩ = some (.int .i64 (bAt b 11 : Int)) from ⟨q0, q1, q2, q3, q4⟩)
    have B0 := Lib.hid ((Below.refl W0.heap.size W0).drew)
    have HC4 := Lib.hid c4
    clear c4
    clear e1 e2 hb1 key hdd hh h86 HB1 HB0
    go_wp2_with fail
    go_region_held3 (fun W => W.cell? ⟨w.heap.size + 1, 0, none⟩ = some (.int .i64 (numB (b.extract 0 4) : Int)) ∧ W.cell? ⟨w.heap.size + 1, 1, none⟩ = some (.int .i64 (numB (b.extract 4 8) : Int)) ∧ W.cell? ⟨w.heap.size + 1, 2, none⟩ = some (.int .i64 (numB (b.extract 8 10) : Int)) ∧ W.cell? ⟨w.heap.size + 1, 3, none⟩ = some (.bool false) ∧ W.cell? ⟨w.heap.size + 1, 4, none⟩ = some (.int .i64 (bAt b 11 : Int))) (first | (with_reducible exact QD.out) | (with_reducible exact ⟨y0, y1, y2, y3, y4⟩) | (with_reducible exact YD.out))
      (first | (go_at_call 86; refine (H86.out _ B0.out).mono ?_; rintro e1 w1 ⟨rfl, b1⟩; obtain ⟨⟨_, y, rfl⟩, z⟩ := KK.out _ b1; have hne : w.heap.size + 1 ≠ w.heap.size := (by omega); have y' := (((((y.far (p := ⟨w.heap.size, 0, none⟩) hne (.int .i64 (numB (b.extract 0 4) : Int))).far (p := ⟨w.heap.size, 1, none⟩) hne (.int .i64 (numB (b.extract 4 8) : Int))).far (p := ⟨w.heap.size, 2, none⟩) hne (.int .i64 (numB (b.extract 8 10) : Int))).far (p := ⟨w.heap.size, 3, none⟩) hne (.bool false)).far (p := ⟨w.heap.size, 4, none⟩) hne (.int .i64 (bAt b 11 : Int))); have YD := Lib.hid (show (((((w1.setCell ⟨w.heap.size, 0, none⟩ (.int .i64 (numB (b.extract 0 4) : Int))).setCell ⟨w.heap.size, 1, none⟩ (.int .i64 (numB (b.extract 4 8) : Int))).setCell ⟨w.heap.size, 2, none⟩ (.int .i64 (numB (b.extract 8 10) : Int))).setCell ⟨w.heap.size, 3, none⟩ (.bool false)).setCell ⟨w.heap.size, 4, none⟩ (.int .i64 (bAt b 11 : Int))).cell? ⟨w.heap.size + 1, 0, none⟩ = some (.int .i64 (numB (b.extract 0 4) : Int)) ∧ (((((w1.setCell ⟨w.heap.size, 0, none⟩ (.int .i64 (numB (b.extract 0 4) : Int))).setCell ⟨w.heap.size, 1, none⟩ (.int .i64 (numB (b.extract 4 8) : Int))).setCell ⟨w.heap.size, 2, none⟩ (.int .i64 (numB (b.extract 8 10) : Int))).setCell ⟨w.heap.size, 3, none⟩ (.bool false)).setCell ⟨w.heap.size, 4, none⟩ (.int .i64 (bAt b 11 : Int))).cell? ⟨w.heap.size + 1, 1, none⟩ = some (.int .i64 (numB (b.extract 4 8) : Int)) ∧ (((((w1.setCell ⟨w.heap.size, 0, none⟩ (.int .i64 (numB (b.extract 0 4) : Int))).setCell ⟨w.heap.size, 1, none⟩ (.int .i64 (numB (b.extract 4 8) : Int))).setCell ⟨w.heap.size, 2, none⟩ (.int .i64 (numB (b.extract 8 10) : Int))).setCell ⟨w.heap.size, 3, none⟩ (.bool false)).setCell ⟨w.heap.size, 4, none⟩ (.int .i64 (bAt b 11 : Int))).cell? ⟨w.heap.size + 1, 2, none⟩ = some (.int .i64 (numB (b.extract 8 10) : Int)) ∧ (((((w1.setCell ⟨w.heap.size, 0, none⟩ (.int .i64 (numB (b.extract 0 4) : Int))).setCell ⟨w.heap.size, 1, none⟩ (.int .i64 (numB (b.extract 4 8) : Int))).setCell ⟨w.heap.size, 2, none⟩ (.int .i64 (numB (b.extract 8 10) : Int))).setCell ⟨w.heap.size, 3, none⟩ (.bool false)).setCell ⟨w.heap.size, 4, none⟩ (.int .i64 (bAt b 11 : Int))).cell? ⟨w.heap.size + 1, 3, none⟩ = some (.bool false) ∧ (((((w1.setCell ⟨w.heap.size, 0, none⟩ (.int .i64 (numB (b.extract 0 4) : Int))).setCell ⟨w.heap.size, 1, none⟩ (.int .i64 (numB (b.extract 4 8) : Int))).setCell ⟨w.heap.size, 2, none⟩ (.int .i64 (numB (b.extract 8 10) : Int))).setCell ⟨w.heap.size, 3, none⟩ (.bool false)).setCell ⟨w.heap.size, 4, none⟩ (.int .i64 (bAt b 11 : Int))).cell? ⟨w.heap.size + 1, 4, none⟩ = some (.int .i64 (bAt b 11 : Int)) from ⟨(y'.cell 0).trans rfl, (y'.cell 1).trans rfl, (y'.cell 2).trans rfl, (y'.cell 3).trans rfl, (y'.cell 4).trans rfl⟩); have zz := Lib.hid z; clear hne y'; have y0 : w1.cell? ⟨w.heap.size + 1, 0, none⟩ = some (.int .i64 (numB (b.extract 0 4) : Int)) := (y.cell 0).trans rfl; have y1 : w1.cell? ⟨w.heap.size + 1, 1, none⟩ = some (.int .i64 (numB (b.extract 4 8) : Int)) := (y.cell 1).trans rfl; have y2 : w1.cell? ⟨w.heap.size + 1, 2, none⟩ = some (.int .i64 (numB (b.extract 8 10) : Int)) := (y.cell 2).trans rfl; have y3 : w1.cell? ⟨w.heap.size + 1, 3, none⟩ = some (.bool false) := (y.cell 3).trans rfl; have y4 : w1.cell? ⟨w.heap.size + 1, 4, none⟩ = some (.int .i64 (bAt b 11 : Int)) := (y.cell 4).trans rfl; have z0 : w1.cell? ⟨w.heap.size, 0, none⟩ = some (.int .i64 0) := (z.cell 0).trans rfl; have z1 : w1.cell? ⟨w.heap.size, 1, none⟩ = some (.int .i64 0) := (z.cell 1).trans rfl; have z2 : w1.cell? ⟨w.heap.size, 2, none⟩ = some (.int .i64 0) := (z.cell 2).trans rfl; have z3 : w1.cell? ⟨w.heap.size, 3, none⟩ = some (.bool false) := (z.cell 3).trans rfl; have z4 : w1.cell? ⟨w.heap.size, 4, none⟩ = some (.int .i64 0) := (z.cell 4).trans rfl; have f0 := z.frozen 0; have f1 := z.frozen 1; have f2 := z.frozen 2; have f3 := z.frozen 3; have f4 := z.frozen 4))
    all_goals
      go_wp2_with fail
      refine bodyPost_ret (results_cell3 rfl _ rfl _ (HLV.out _ _ (((((zz.out.set_ 0 _).set_ 1 _).set_ 2 _).set_ 3 _).set_ 4 _) rfl)) rfl ?_
      exact ⟨by rw [E.out]; rfl, (((((BA.out.trans (b1.mono BA.out.size)).setCell (p := ⟨w.heap.size, 0, none⟩) (Nat.le_refl _) _).setCell (p := ⟨w.heap.size, 1, none⟩) (Nat.le_refl _) _).setCell (p := ⟨w.heap.size, 2, none⟩) (Nat.le_refl _) _).setCell (p := ⟨w.heap.size, 3, none⟩) (Nat.le_refl _) _).setCell (p := ⟨w.heap.size, 4, none⟩) (Nat.le_refl _) _⟩
end Go.Proofs.Ytddaiihhhajieaa
