/- The walk of log.Open. -/
import Derived.Test.YtddaiihhhajieaaLogMem
import Derived.OwnWalk
namespace Go.Proofs.Ytddaiihhhajieaa
open Go.RowKit Go.Maps

theorem recs_len (n : Nat) : ∀ (s : ByteArray) (l : List ByteArray), s.size ≤ n → recs s = some l → 2 * l.length ≤ s.size := by
  induction n with
  | zero =>
    intro s l hs h
    rw [recs, dif_pos (by omega)] at h
    obtain rfl := Option.some.inj h
    simp
  | succ n ih =>
    intro s l hs h
    rw [recs] at h
    by_cases h0 : s.size = 0
    · rw [dif_pos h0] at h
      obtain rfl := Option.some.inj h
      simp
    · rw [dif_neg h0] at h
      by_cases h1 : s.size < 2 ∨ s.size - 2 < numB (s.extract 0 2)
      · rw [if_pos h1] at h; cases h
      · rw [if_neg h1] at h
        obtain ⟨m, hm, rfl⟩ := Option.map_eq_some_iff.1 h
        have := ih _ m (by simp; omega) hm
        simp at this ⊢
        omega
theorem rdParts_len {D : Dk} (hw : Whole D) {side pos epoch group : Nat} (f : Nat) : ∀ (i : Nat) (all : ByteArray) (p : ByteArray × Nat), pos ≤ i → all.size ≤ (i - pos) * 52 → rdParts D side pos epoch group f i all = some p → p.1.size ≤ p.2 * 52 := by
  induction f with
  | zero => intro i all p _ _ h; simp [rdParts] at h
  | succ f ih =>
    intro i all p h1 h2 h
    unfold rdParts at h
    split at h
    · cases h
    rename_i hz
    have hsz := headB_size (D.rd ((256 * side + i : Nat) : Int)).1 (hw _ (by simpa using hz))
    simp only at h
    have h3 : i + 1 - pos = (i - pos) + 1 := by omega
    have h4 : (all ++ (headB (D.rd ((256 * side + i : Nat) : Int)).1).2.1).size ≤ (i + 1 - pos) * 52 := by rw [ByteArray.size_append, h3, Nat.add_mul]; omega
    split at h
    · split at h
      · obtain rfl := Option.some.inj h
        rw [h3] at h4
        exact h4
      · exact ih (i + 1) _ p (by omega) h4 h
    · cases h
theorem rdGroup_len {D : Dk} (hw : Whole D) {side pos epoch group : Nat} {p : List ByteArray × Nat} (h : rdGroup D side pos epoch group = some p) : p.1.length ≤ p.2 * 26 := by
  unfold rdGroup at h
  obtain ⟨q, hq, hm⟩ := Option.bind_eq_some_iff.1 h
  obtain ⟨l, hl, rfl⟩ := Option.map_eq_some_iff.1 hm
  have h1 := rdParts_len hw _ pos _ q (Nat.le_refl _) (Nat.zero_le _) hq
  have h2 := recs_len _ _ _ (Nat.le_refl _) hl
  simp only at h2 ⊢
  omega

def pickK (D : Dk) (k : Nat) : Lg := (List.range k).foldl (pickOne D) Lg.none
theorem pickK_succ (D : Dk) (k : Nat) : pickK D (k + 1) = pickOne D (pickK D k) k := by unfold pickK; rw [List.range_succ, List.foldl_append]; rfl
theorem numB_lt4 (s : ByteArray) (h : s.size ≤ 4) : numB s < 4294967296 := by
  have h1 := numTo_lt s s.size
  rw [numTo_all] at h1
  have h2 : 256 ^ s.size ≤ 256 ^ 4 := Nat.pow_le_pow_right (by omega) h
  omega

theorem pickOne_fine (D : Dk) (L : Lg) (k : Nat) (hk : k ≤ 1) (h : L.side ≤ 1 ∧ L.pos = 0 ∧ L.group = 0) : (pickOne D L k).side ≤ 1 ∧ (pickOne D L k).pos = 0 ∧ (pickOne D L k).group = 0 := by
  unfold pickOne
  split
  · exact h
  simp only
  split
  · exact ⟨hk, h.2⟩
  · exact h
theorem picked_fine (D : Dk) : (pickK D 2).side ≤ 1 ∧ (pickK D 2).pos = 0 ∧ (pickK D 2).group = 0 :=
  pickOne_fine D _ 1 (Nat.le_refl _) (pickOne_fine D Lg.none 0 (Nat.zero_le _) ⟨Nat.zero_le _, rfl, rfl⟩)
theorem wpList_append_src {P : Program} {w : World} {ops : Array Oper} {rest : List Oper} {o : Oper} {a : Act} {Q : Exit → Act → World → Prop} (hgd : o.guard = none) (s x : Operand) (t : TypeId)
    (ho : o.op = .call { callee := .builtin .append, args := #[s, x], argTypes := #[t, t] })
    (base : Nat) (e : TypeId) (i : TypeInfo) (z : Value) (size bytes : Nat) (ht : P.underlying t = some (.slice e)) (hi : P.info? e = some i) (hz : i.zero = some z)
    (hsize : i.size = size) (hby : i.bytes = bytes) (hzs : z.cells.size = size) (hsz : 0 < size)
    (v : Value) (n : Nat) (xs : List Value) (hs : a.eval s = v) (hown : w.ownsRow base e size v n xs)
    (xv : Value) (m : Nat) (news : List Value) (hx : a.eval x = xv) (hy : Yields w size xv m news) (h1 : ∀ u ∈ news, u.oneCell' = true)
    (h63 : n + m ≤ maxLen) (hbytes : (n + m) * bytes ≤ 140737488355328) (hbase : base ≤ w.heap.size)
    (h : ∀ v' w', w'.ownsRow base e size v' (n + m) (xs ++ news) → w.grownBy w' v.ownBlock → (v'.ownBlock = v.ownBlock ∨ v'.ownBlock = some w.heap.size) → wpList P ops Q rest (a.put o.dst v') w') :
    wpList P ops Q (o :: rest) a w := by
  refine wpList_plain hgd fun K hK => ?_
  obtain ⟨v', w', hr, h2, h3, h4⟩ := run_append_own_src (P := P) w base t o.type e i z size bytes ht hi hz hsize hby hzs hsz v n xs hown xv m news hy h1 h63 hbytes hbase
  unfold Oper.wp execOp
  simp only [ho, resolve, invoke, builtin, Sem.run_bind, Sem.run_pure, Result.andThen_ok, List.map_toArray, List.map_cons, List.map_nil, hs, hx, hr]
  exact hK _ _ (h v' w' h2 h3 h4)

set_option maxHeartbeats 4000000 in
set_option maxRecDepth 20000 in
theorem lopen_any (d : Nat) (F : Foot) (D : Dk) (w : World) (h : IsDisk w d F D) (hlen : D.wait.length < 1099511627776) (hw : Whole D) (ho : D.off = false) :
    Calls Try.prog 33 #[.pointer (some ⟨d, 0, none⟩)] w fun e w' => ∃ g v, e = .returned (.tuple #[.pointer (some ⟨g, 0, none⟩), v, .int .i64 0]) ∧ Below w.heap.size w w' ∧ w.heap.size ≤ g ∧ LogAt w' g d (opened D).1 ∧
      w'.ownsRow w.heap.size 9 1 v (opened D).2.length (strsV (opened D).2) := by
  obtain ⟨O, hO⟩ : ∃ O, O = opened D := ⟨_, rfl⟩
  rw [← hO]
  have HO := Lib.hid hO
  clear hO
  have h25 := off_any d F D w h
  rw [ho] at h25
  have H25 := Lib.hid h25
  have H22 : Hid (∀ W (n : Nat), Below w.heap.size w W → Calls Try.prog 22 #[.pointer (some ⟨d, 0, none⟩), .int .i64 (n : Int)] W fun e w' => e = .returned (.tuple #[.string (D.rd n).1, .int .i64 (D.rd n).2]) ∧ W = w') :=
    fun W n hb => read_any d F D n W (h.below hb) hlen
  have H59 : Hid (∀ W (side pos epoch group : Nat), Below w.heap.size w W → side ≤ 1 → pos ≤ 256 → epoch ≤ 9223372036854775807 → group ≤ 9223372036854775807 →
      Calls Try.prog 59 #[.pointer (some ⟨d, 0, none⟩), .int .i64 side, .int .i64 pos, .int .i64 epoch, .int .i64 group] W (ReadLeft W (rdGroup D side pos epoch group))) :=
    fun W side pos epoch group hb h1 h2 h3 h4 => lread_any d F D side pos epoch group W (h.below hb) hlen hw h1 h2 h3 h4
  have HW := Lib.hid hw
  have HN := Lib.hid number_any
  obtain ⟨i0, hi, hz0, hz1, hz2⟩ := info_parts Try.info9
  clear h hlen hw ho h25
  go_enter Try.func33, Try.ntmps33
  go_wp2_with (go_at_call 25; refine H25.out.mono ?_; rintro e1 w1 ⟨rfl, rfl⟩)
  have hL0 : LogAt (w.alloc (.cells #[.pointer (some ⟨d, 0, none⟩), .int .i64 0, .int .i64 0, .int .i64 0, .int .i64 0, .bool false] 105)) w.heap.size d (pickK D 0) := Blk.new w 105 _
  have hb0 : Below w.heap.size w (w.alloc (.cells #[.pointer (some ⟨d, 0, none⟩), .int .i64 0, .int .i64 0, .int .i64 0, .int .i64 0, .bool false] 105)) := (Below.refl _ _).alloc (Nat.le_refl _) _
  go_loopw [20] (fun i wr => ∃ k : Nat, k ≤ 2 ∧ i = .int .i64 k ∧ LogAt wr w.heap.size d (pickK D k) ∧ (pickK D k).epoch < 4294967296 ∧ Below w.heap.size w wr) (fun i _ => 2 - (intOf i).toNat)
  case atStart => exact ⟨0, by omega, rfl, hL0, by show 0 < _; omega, hb0⟩
  case round =>
    obtain ⟨k, hk, rfl, hL, hep, hbel⟩ := hrel
    clear hL0 hb0
    by_cases hlt : k < 2
    · have b1 : (k : Int) < 2 := by omega
      have hps := pickK_succ D k
      obtain ⟨L, hLe⟩ : ∃ L, L = pickK D k := ⟨_, rfl⟩
      rw [← hLe] at hps hL hep
      have hr := H22.out wr (256 * k) hbel
      have ec : (((256 * k : Nat)) : Int) = 256 * (k : Int) := by omega
      have hw1 := HW.out (256 * k)
      unfold pickOne at hps
      obtain ⟨⟨b, e⟩, hbe⟩ : ∃ x, x = D.rd ((256 * k : Nat) : Int) := ⟨_, rfl⟩
      rw [← hbe] at hps hw1 hr
      rw [ec] at hr
      simp only at hps hw1 hr
      have H := Lib.hid hr
      clear hr hbe hLe
      by_cases h0 : e = 0
      · subst h0
        rw [if_neg (by simp)] at hps
        have hb64 := hw1 rfl
        have hn4 := numB_lt4 (b.extract 0 4) (by simp; omega)
        have hN := HN.out (b.extract 0 4) (by simp; omega)
        obtain ⟨ep, hepp⟩ : ∃ ep, ep = numB (b.extract 0 4) := ⟨_, rfl⟩
        rw [← hepp] at hps hn4 hN
        have HNN := Lib.hid hN
        have k4 : (4 : Int) ≤ b.size := by omega
        have h59 := H59.out wr k 0 ep 0 hbel (by omega) (by omega) (by omega) (by omega)
        have e0 : ((0 : Nat) : Int) = 0 := rfl
        rw [e0] at h59
        have hpos := fun p => rdGroup_n (D := D) (side := k) (pos := 0) (epoch := ep) (group := 0) (p := p) (by omega)
        obtain ⟨G, hG⟩ : ∃ G, G = rdGroup D k 0 ep 0 := ⟨_, rfl⟩
        rw [← hG] at h59 hps hpos
        have H5 := Lib.hid h59
        have c2 := hL.c2
        have HL := Lib.hid hL
        have HB := Lib.hid hbel
        clear h59 hG hL hbel hw1 hb64 hN hepp
        cases G with
        | none =>
          rw [if_neg (by simp)] at hps
          have HPS := Lib.hid hps
          clear hps hpos
          go_wp2_with (first | (go_at_call 22; refine H.out.mono ?_; rintro e3 w3 ⟨rfl, rfl⟩) | (go_at_call 58; refine (HNN.out _).mono ?_; rintro e4 w4 ⟨rfl, rfl⟩) | (go_at_call 59; refine H5.out.mono ?_; rintro e5 w5 ⟨hb5, hm5⟩; (obtain rfl := hm5)))
          go_roundw
          case rel => exact ⟨k + 1, by omega, by go_num, by rw [HPS.out]; exact HL.out.below hb5, by rw [HPS.out]; exact hep, HB.out.trans (hb5.mono HB.out.size)⟩
          case measure => simp [intOf]; omega
        | some p =>
          obtain ⟨rs, n⟩ := p
          obtain ⟨hn1, hn2⟩ := hpos _ rfl
          simp only at hn1 hn2
          have b3 : (0 : Int) < (n : Int) := by omega
          by_cases hlt2 : L.epoch < ep
          · rw [if_pos ⟨rfl, hlt2⟩] at hps
            have b4 : (L.epoch : Int) < (ep : Int) := by omega
            have HPS := Lib.hid hps
            clear hps hpos
            go_wp2_with (first | (go_at_call 22; refine H.out.mono ?_; rintro e3 w3 ⟨rfl, rfl⟩) | (go_at_call 58; refine (HNN.out _).mono ?_; rintro e4 w4 ⟨rfl, rfl⟩) | (go_at_call 59; refine H5.out.mono ?_; rintro e5 w5 ⟨hb5, hm5⟩; obtain ⟨v, rfl, ho5⟩ := hm5; obtain ⟨A, c, hvf, _⟩ := own_form ho5; have HL5 := Lib.hid (HL.out.below hb5); have c6 := HL5.out.c2; have c7 := HL5.out.c1; have f1 := HL5.out.fz 1; have f2 := HL5.out.fz 2; clear ho5; subst hvf))
            go_roundw
            case rel =>
              refine ⟨k + 1, by omega, by go_num, ?_, by rw [HPS.out]; exact hn4, ((HB.out.trans (hb5.mono HB.out.size)).setCell (p := ⟨w.heap.size, 1, none⟩) (Nat.le_refl _) _).setCell (p := ⟨w.heap.size, 2, none⟩) (Nat.le_refl _) _⟩
              rw [HPS.out]
              exact ((HL5.out.set_side k).set_epoch ep)
            case measure => simp [intOf]; omega
          · rw [if_neg (by rintro ⟨-, h⟩; exact hlt2 h)] at hps
            have b4 : ¬ (L.epoch : Int) < (ep : Int) := by omega
            have HPS := Lib.hid hps
            clear hps hpos
            go_wp2_with (first | (go_at_call 22; refine H.out.mono ?_; rintro e3 w3 ⟨rfl, rfl⟩) | (go_at_call 58; refine (HNN.out _).mono ?_; rintro e4 w4 ⟨rfl, rfl⟩) | (go_at_call 59; refine H5.out.mono ?_; rintro e5 w5 ⟨hb5, hm5⟩; obtain ⟨v, rfl, ho5⟩ := hm5; obtain ⟨A, c, hvf, _⟩ := own_form ho5; have HL5 := Lib.hid (HL.out.below hb5); have c6 := HL5.out.c2; have c7 := HL5.out.c1; have f1 := HL5.out.fz 1; have f2 := HL5.out.fz 2; clear ho5; subst hvf))
            go_roundw
            case rel => exact ⟨k + 1, by omega, by go_num, by rw [HPS.out]; exact HL5.out, by rw [HPS.out]; exact hep, HB.out.trans (hb5.mono HB.out.size)⟩
            case measure => simp [intOf]; omega
      · rw [if_pos h0] at hps
        have q : (e != 0) = true := by rw [bne_iff_ne]; exact h0
        have K := Lib.hid (show LogAt wr w.heap.size d (pickK D (k + 1)) ∧ (pickK D (k + 1)).epoch < 4294967296 ∧ Below w.heap.size w wr by rw [hps]; exact ⟨hL, hep, hbel⟩)
        clear hps hL hep hbel hw1
        go_wp2_with (go_at_call 22; refine H.out.mono ?_; rintro e3 w3 ⟨rfl, rfl⟩)
        go_roundw
        case rel => exact ⟨k + 1, by omega, by go_num, K.out.1, K.out.2.1, K.out.2.2⟩
        case measure => simp [intOf]; omega
    · obtain rfl : k = 2 := by omega
      have e2 : ((2 : Nat) : Int) = 2 := rfl
      rw [e2]
      clear hlt hk
      obtain ⟨hs0, hp0, hg0⟩ := picked_fine D
      have hop : opened D = groupsFrom D 257 (pickK D 2) [] := rfl
      generalize pickK D 2 = L at hL hep hs0 hp0 hg0 hop
      have HL := Lib.hid hL
      have HB := Lib.hid hbel
      have HOP := Lib.hid (HO.out.trans hop)
      clear hL hbel hop
      go_wp2_with fail
      go_loopw [12] (fun ov wr => ∃ L f out, LogAt wr w.heap.size d L ∧ wr.ownsRow w.heap.size 9 1 ov out.length (strsV out) ∧ O = groupsFrom D f L out ∧ 256 < f + L.pos ∧ L.pos ≤ 256 ∧ L.epoch < 4294967296 ∧ L.side ≤ 1 ∧ L.group ≤ L.pos ∧ out.length ≤ L.pos * 26 ∧ Below w.heap.size w wr) (fun _ wr => match wr.cell? ⟨w.heap.size, 3, none⟩ with | some (.int _ n) => 256 - n.toNat | _ => 0)
      case atStart => exact ⟨L, 257, [], HL.out, ⟨rfl, .inl ⟨rfl, rfl⟩⟩, HOP.out, by omega, by omega, hep, hs0, by omega, by simp, HB.out⟩
      case round =>
        obtain ⟨L, f, out, hL, hown, hop, hf, hp, hep, hs, hg, hlen, hbel⟩ := hrel
        clear HL HB HOP hs0 hp0 hg0
        have c1 := hL.c1
        have c2 := hL.c2
        have c3 := hL.c3
        have c4 := hL.c4
        obtain ⟨A, c, rfl, hcc⟩ := own_form hown
        obtain ⟨f, rfl⟩ : ∃ j, f = j + 1 := ⟨f - 1, by omega⟩
        unfold groupsFrom at hop
        by_cases hgo : 0 < L.epoch ∧ L.pos < 256
        · rw [if_pos hgo] at hop
          obtain ⟨q1, q2⟩ := hgo
          have b1 : (0 : Int) < (L.epoch : Int) := by omega
          have b2 : (L.pos : Int) < 256 := by omega
          have h59 := H59.out wr.drew L.side L.pos L.epoch L.group (hbel.trans (Below.refl _ _).drew) hs hp (by omega) (by omega)
          have hpos := fun p => rdGroup_n (D := D) (side := L.side) (pos := L.pos) (epoch := L.epoch) (group := L.group) (p := p) hp
          have hrl := fun p => rdGroup_len HW.out (side := L.side) (pos := L.pos) (epoch := L.epoch) (group := L.group) (p := p)
          obtain ⟨G, hG⟩ : ∃ G, G = rdGroup D L.side L.pos L.epoch L.group := ⟨_, rfl⟩
          rw [← hG] at h59 hop hpos hrl
          have H5 := Lib.hid h59
          have HL := Lib.hid hL
          have HB := Lib.hid hbel
          have HOW := Lib.hid hown
          have KS : Hid (wr.drew.cell? ⟨w.heap.size, 1, none⟩ = some (.int .i64 (L.side : Int)) ∧ wr.drew.cell? ⟨w.heap.size, 2, none⟩ = some (.int .i64 (L.epoch : Int)) ∧ wr.drew.cell? ⟨w.heap.size, 3, none⟩ = some (.int .i64 (L.pos : Int)) ∧ wr.drew.cell? ⟨w.heap.size, 4, none⟩ = some (.int .i64 (L.group : Int))) := ⟨c1, c2, c3, c4⟩
          have KB : Hid (∀ W, Below wr.drew.heap.size wr.drew W → LogAt W w.heap.size d L ∧ Below w.heap.size w W ∧ W.ownsRow w.heap.size 9 1 (.slice A out.length c) out.length (strsV out)) := fun W hW =>
            ⟨hL.below ((Below.refl _ _).drew.trans hW), hbel.trans (((Below.refl _ _).drew.trans hW).mono hbel.size), own_stay hown (fun g hg => hW.block g (own_lt hown g hg))⟩
          clear h59 hG hL hbel hown
          cases G with
          | none =>
            have HOP := Lib.hid hop
            clear hop hpos hrl
            go_wp2_with fail
            go_region_held3 (fun W => W.cell? ⟨w.heap.size, 1, none⟩ = some (.int .i64 (L.side : Int)) ∧ W.cell? ⟨w.heap.size, 2, none⟩ = some (.int .i64 (L.epoch : Int)) ∧ W.cell? ⟨w.heap.size, 3, none⟩ = some (.int .i64 (L.pos : Int)) ∧ W.cell? ⟨w.heap.size, 4, none⟩ = some (.int .i64 (L.group : Int))) (first | (with_reducible exact KS.out) | (with_reducible exact ⟨y1, y2, y3, y4⟩))
              (first | (go_at_call 59; refine H5.out.mono ?_; rintro e5 w5 ⟨hb5, hm5⟩; obtain rfl := hm5; have HL5 := Lib.hid (KB.out _ hb5).1; have y1 := HL5.out.c1; have y2 := HL5.out.c2; have y3 := HL5.out.c3; have y4 := HL5.out.c4))
            all_goals
              have K := Lib.hid (show Below w.heap.size w w5 ∧ LogAt w5 w.heap.size d O.1 ∧ w5.ownsRow w.heap.size 9 1 (.slice A out.length c) O.2.length (strsV O.2) by rw [HOP.out]; exact ⟨(KB.out _ hb5).2.1, (KB.out _ hb5).1, (KB.out _ hb5).2.2⟩)
              clear hb5
              go_wp2_with fail
              go_ret3
              exact ⟨_, _, rfl, K.out.1, Nat.le_refl _, K.out.2.1, K.out.2.2⟩
          | some p =>
            obtain ⟨rs, n⟩ := p
            obtain ⟨hn1, hn2⟩ := hpos _ rfl
            have hrs := hrl _ rfl
            simp only at hn1 hn2 hrs hop
            have HOP := Lib.hid hop
            have b3 : ((n : Int) == 0) = false := by rw [beq_eq_false_iff_ne]; omega
            have g5 : n ≤ 256 := by omega
            have g6 : L.group ≤ 256 := by omega
            have HC3 := Lib.hid c3
            have HLN := Lib.hid (show out.length + rs.length ≤ maxLen ∧ (out.length + rs.length) * 16 ≤ 140737488355328 ∧ (out ++ rs).length ≤ (L.pos + n) * 26 by unfold maxLen; rw [List.length_append, Nat.add_mul]; omega)
            clear hop hpos hrl
            go_wp2_with fail
            go_region_held3 (fun W => W.cell? ⟨w.heap.size, 1, none⟩ = some (.int .i64 (L.side : Int)) ∧ W.cell? ⟨w.heap.size, 2, none⟩ = some (.int .i64 (L.epoch : Int)) ∧ W.cell? ⟨w.heap.size, 3, none⟩ = some (.int .i64 (L.pos : Int)) ∧ W.cell? ⟨w.heap.size, 4, none⟩ = some (.int .i64 (L.group : Int))) (first | (with_reducible exact KS.out) | (with_reducible exact ⟨y1, y2, y3, y4⟩))
              (first | (go_at_call 59; refine H5.out.mono ?_; rintro e5 w5 ⟨hb5, hm5⟩; obtain ⟨v, rfl, ho5⟩ := hm5; have HL5 := Lib.hid (KB.out _ hb5).1; have y1 := HL5.out.c1; have y2 := HL5.out.c2; have y3 := HL5.out.c3; have y4 := HL5.out.c4; have HO5 := Lib.hid (base_zero ho5); have HB5 := Lib.hid hb5; obtain ⟨A5, c5, hv5, _⟩ := own_form ho5; clear ho5 hb5; subst hv5))
            all_goals
              have HOW5 := Lib.hid (KB.out _ HB5.out).2.2
              have HBB := Lib.hid (KB.out _ HB5.out).2.1
              have HY := Lib.hid (Yields.of_own HO5.out)
              have H1 := Lib.hid (show ∀ u ∈ strsV rs, u.oneCell' = true by intro u hu; obtain ⟨x, _, rfl⟩ := List.mem_map.1 hu; rfl)
              clear HO5 HB5
              go_wp2_with (at_builtin; refine wpList_append_src rfl (.tmp 96) (.tmp 97) 51 rfl w.heap.size 9 i0 _ 1 16 Try.underlying51 hi hz0 hz1 hz2 rfl (by decide) _ out.length _ rfl HOW5.out _ rs.length _ rfl HY.out H1.out HLN.out.1 HLN.out.2.1 ?c5 ?_)
              case c5 => exact HBB.out.size
              intro v' w6 ho6 hg6 hl6
              have hne := Blk.ne_own HL5.out HOW5.out (by decide)
              have HL6 := Lib.hid (LogAt.stay (w' := w6) HL5.out (hg6.block _ HL5.out.lt (fun e => hne e.symm)))
              have hne6 := Blk.ne_own HL6.out ho6 (by decide)
              have z3 := HL6.out.c3
              have z4 := HL6.out.c4
              have f3 := HL6.out.fz 3
              have f4 := HL6.out.fz 4
              have hb6 : Below w.heap.size w w6 := (((Moves.refl w noFoot).below HBB.out).grown hg6 (fun k hk => .inr ((HOW5.out.lt k hk).1))).toBelow (Nat.le_refl _) (fun _ hk => hk.elim)
              have K : Hid (∀ v1, v1 = v' → LogAt ((w6.setCell ⟨w.heap.size, 3, none⟩ (.int .i64 ((L.pos : Int) + (n : Int)))).setCell ⟨w.heap.size, 4, none⟩ (.int .i64 ((L.group : Int) + 1))) w.heap.size d { L with pos := L.pos + n, group := L.group + 1 } ∧
                  ((w6.setCell ⟨w.heap.size, 3, none⟩ (.int .i64 ((L.pos : Int) + (n : Int)))).setCell ⟨w.heap.size, 4, none⟩ (.int .i64 ((L.group : Int) + 1))).ownsRow w.heap.size 9 1 v1 (out ++ rs).length (strsV (out ++ rs)) ∧
                  Below w.heap.size w ((w6.setCell ⟨w.heap.size, 3, none⟩ (.int .i64 ((L.pos : Int) + (n : Int)))).setCell ⟨w.heap.size, 4, none⟩ (.int .i64 ((L.group : Int) + 1)))) := by
                rintro v1 rfl
                refine ⟨(HL6.out.set_pos (L.pos + n)).set_group (L.group + 1), ?_, (hb6.setCell (p := ⟨w.heap.size, 3, none⟩) (Nat.le_refl _) _).setCell (p := ⟨w.heap.size, 4, none⟩) (Nat.le_refl _) _⟩
                rw [List.length_append]
                unfold strsV
                rw [List.map_append]
                exact own_stay ho6 (fun g hg => (Below.heap_setCell _ _ _ _ (by rintro rfl; exact hne6 hg)).trans (Below.heap_setCell _ _ _ _ (by rintro rfl; exact hne6 hg)))
              obtain ⟨A6, c6, hv6, _⟩ := own_form ho6
              clear ho6 hg6 hl6 hne hne6 hb6
              subst hv6
              go_wp2_with fail
              go_roundw
              case rel =>
                obtain ⟨k1, k2, k3⟩ := K.out _ rfl
                exact ⟨_, f, out ++ rs, k1, k2, HOP.out, by show 256 < f + (L.pos + n); omega, hn2, hep, hs, by show L.group + 1 ≤ L.pos + n; omega, HLN.out.2.2, k3⟩
              case measure =>
                have k1 := (K.out _ rfl).1.c3
                rw [k1, HC3.out]
                show 256 - ((L.pos + n : Nat) : Int).toNat < 256 - (L.pos : Int).toNat
                omega
        · rw [if_neg hgo] at hop
          have K := Lib.hid (show LogAt wr w.heap.size d O.1 ∧ wr.ownsRow w.heap.size 9 1 (.slice A out.length c) O.2.length (strsV O.2) by rw [hop]; exact ⟨hL, hown⟩)
          have HB := Lib.hid hbel
          have hor : ¬ (0 : Int) < (L.epoch : Int) ∨ ((0 : Int) < (L.epoch : Int) ∧ ¬ (L.pos : Int) < 256) := by omega
          clear hL hown hop hbel hgo
          rcases hor with b1 | ⟨b1, b2⟩
          · have b1' : decide ((0 : Int) < (L.epoch : Int)) = false := decide_eq_false b1
            go_wp2_with fail
            go_ret3
            exact ⟨_, _, rfl, HB.out, Nat.le_refl _, K.out.1, K.out.2⟩
          · go_wp2_with fail
            go_ret3
            exact ⟨_, _, rfl, HB.out, Nat.le_refl _, K.out.1, K.out.2⟩
end Go.Proofs.Ytddaiihhhajieaa
