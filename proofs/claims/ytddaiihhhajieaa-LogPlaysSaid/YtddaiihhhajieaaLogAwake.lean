/- The log's walks as one state; awake. -/
import Derived.Test.YtddaiihhhajieaaLogAppend
namespace Go.Proofs.Ytddaiihhhajieaa
open Go.RowKit Go.Maps

theorem full_renewL {D : Dk} (h : Full D) (L : Lg) (l : List ByteArray) : Full (renewL D L l).2.1 := by
  unfold renewL
  split
  · exact h
  split
  · exact h
  simp only
  generalize (if L.epoch = 0 then 0 else 1 - L.side) = sd
  split
  · exact full_wrGroup h _ _ _ _ _
  · exact full_wrGroup h _ _ _ _ _
theorem full_appendL {D : Dk} (h : Full D) (L : Lg) (l : List ByteArray) : Full (appendL D L l).2.1 := by
  unfold appendL
  split
  · exact h
  split
  · exact full_renewL h L l
  split
  · exact h
  simp only
  split
  · exact full_wrGroup h _ _ _ _ _
  · exact full_wrGroup h _ _ _ _ _
theorem renew_ok {D : Dk} {L : Lg} {all : List ByteArray} (h : Keeps D L all) (harm : D.arm = -1) (he : L.epoch + 1 < 4294967296) (l : List ByteArray) (hl : short l = true) (hn : needN (packTo l).size ≤ 256) :
    ∃ D1, renewL D L l = (0, D1, ⟨if L.epoch = 0 then 0 else 1 - L.side, L.epoch + 1, needN (packTo l).size, 1, false⟩) ∧ D1.arm = -1 ∧ Keeps D1 ⟨if L.epoch = 0 then 0 else 1 - L.side, L.epoch + 1, needN (packTo l).size, 1, false⟩ l := by
  obtain ⟨sd, hsd⟩ : ∃ s, s = if L.epoch = 0 then 0 else 1 - L.side := ⟨_, rfl⟩
  have hLs := h.side
  have hs : sd ≤ 1 := by rw [hsd]; split <;> omega
  have e : renewL D L l = (0, doneD D (256 * sd + 0) (L.epoch + 1) 0 (needN (packTo l).size) (packTo l), ⟨sd, L.epoch + 1, needN (packTo l).size, 1, false⟩) := by
    unfold renewL
    rw [if_neg (by rw [h.over]; simp), if_neg (by rw [hl]; simp; omega)]
    simp only [← hsd]
    have hw : wrGroup D sd 0 (L.epoch + 1) 0 (packTo l) = (0, doneD D (256 * sd + 0) (L.epoch + 1) 0 (needN (packTo l).size) (packTo l)) := by
      rw [wrGroup_eq h.live.off (by omega) (by omega), if_neg (by omega)]
    rw [hw]
    rfl
  rw [← hsd]
  exact ⟨_, e, by rw [(live_done h.live (by omega)).2.2]; omega, keeps_renew h hs he hl hn (by omega)⟩
theorem append_ok {D : Dk} {L : Lg} {all : List ByteArray} (h : Keeps D L all) (h0 : L.epoch ≠ 0) (harm : D.arm = -1) (he : L.epoch < 4294967296) (l : List ByteArray) (hl : short l = true) (hn : L.pos + needN (packTo l).size ≤ 256) :
    ∃ D1, appendL D L l = (0, D1, { L with pos := L.pos + needN (packTo l).size, group := L.group + 1, over := false }) ∧ D1.arm = -1 ∧ Keeps D1 { L with pos := L.pos + needN (packTo l).size, group := L.group + 1, over := false } (all ++ l) := by
  have hLs := h.side
  have e : appendL D L l = (0, doneD D (256 * L.side + L.pos) L.epoch L.group (needN (packTo l).size) (packTo l), { L with pos := L.pos + needN (packTo l).size, group := L.group + 1, over := false }) := by
    unfold appendL
    rw [if_neg (by rw [h.over]; simp), if_neg h0, if_neg (by rw [hl]; simp; omega)]
    have hw : wrGroup D L.side L.pos L.epoch L.group (packTo l) = (0, doneD D (256 * L.side + L.pos) L.epoch L.group (needN (packTo l).size) (packTo l)) := by
      rw [wrGroup_eq h.live.off (by omega) (by omega), if_neg (by omega)]
    simp only
    rw [hw]
    rfl
  exact ⟨_, e, by rw [(live_done h.live (by omega)).2.2]; omega, keeps_append h h0 he hl hn (by omega)⟩
theorem append_full {D : Dk} {L : Lg} {all : List ByteArray} (h : Keeps D L all) (h0 : L.epoch ≠ 0) (l : List ByteArray) (hn : 256 < L.pos + needN (packTo l).size) : appendL D L l = (20, D, L) := by
  unfold appendL
  have hp := h.pos
  rw [if_neg (by rw [h.over]; simp), if_neg h0, if_pos (.inr (by omega))]

/-- a slice of strings that was made just now -/
theorem isStrs_row {w : World} {b : Nat} {cs : Array Value} (l : List ByteArray) (h : Blk w b 9 cs) (hc : ∀ i (hi : i < l.length), cs[i]? = some (.string (l[i]'hi)) ∧ (l[i]'hi).size ≤ 9223372036854775807) (n c : Nat) (hn : n = l.length) (h1 : n ≤ c) (h2 : c ≤ 9223372036854775807) :
    IsStrs w (.slice (some ⟨b, 0, none⟩) n c) l := by
  subst hn
  exact ⟨_, c, rfl, h1, h2, fun i hi => ⟨b, 0, rfl, by rw [h.cell, Nat.zero_add, Nat.mul_one]; exact (hc i hi).1, (hc i hi).2⟩⟩
/-- .. or is owned -/
theorem isStrs_own {w : World} {base n : Nat} {v : Value} {l : List ByteArray} (h : w.ownsRow base 9 1 v n (strsV l)) (hn : n = l.length) (hs : ∀ x ∈ l, x.size ≤ 9223372036854775807) (hc : ∀ A c, v = .slice A n c → c ≤ 9223372036854775807) : IsStrs w v l := by
  subst hn
  obtain ⟨A, c, rfl, hle⟩ := own_form h
  refine ⟨A, c, rfl, hle, hc _ _ rfl, fun i hi => ?_⟩
  obtain ⟨g, rfl, h1, h2⟩ := own_cell h (by omega)
  refine ⟨g, 0, rfl, ?_, hs _ (List.getElem_mem hi)⟩
  rw [Nat.zero_add, Nat.mul_one, h1 i (by omega)]
  simp [strsV, hi]

/-- a disk that was made since w0; a log on it -/
def DkD (w0 w : World) (d : Nat) (D : Dk) : Prop := ∃ F, IsDisk w d F D ∧ (∀ k, F k → w0.heap.size ≤ k) ∧ Below w0.heap.size w0 w
def StD (w0 w : World) (d g : Nat) (D : Dk) (L : Lg) : Prop := ∃ F, IsDisk w d F D ∧ LogAt w g d L ∧ ¬ F g ∧ (∀ k, F k → w0.heap.size ≤ k) ∧ w0.heap.size ≤ g ∧ Below w0.heap.size w0 w
section
variable {w0 w w' : World} {d g : Nat} {F : Foot} {D D' : Dk} {L L' : Lg} {all : List ByteArray}
theorem Keeps.lgFine (h : Keeps D L all) (he : L.epoch < 4294967296) : LgFine L := ⟨h.side, h.pos, by have := h.group; have := h.pos; omega, by omega⟩
theorem Keeps.wait0 (h : Keeps D L all) : D.wait.length < 1000000000000 := by rw [h.live.wait]; decide
theorem StD.dk (h : StD w0 w d g D L) : DkD w0 w d D := by
  obtain ⟨F, h1, _, _, h4, _, h6⟩ := h
  exact ⟨F, h1, h4, h6⟩
theorem StD.log (h : StD w0 w d g D L) : LogAt w g d L := by
  obtain ⟨F, _, h2, _⟩ := h
  exact h2
theorem StD.bel (h : StD w0 w d g D L) : Below w0.heap.size w0 w := by
  obtain ⟨F, _, _, _, _, _, h6⟩ := h
  exact h6
theorem DkD.bel (h : DkD w0 w d D) : Below w0.heap.size w0 w := by
  obtain ⟨F, _, _, h6⟩ := h
  exact h6
theorem DkD.below (h : DkD w0 w d D) (hb : Below w.heap.size w w') : DkD w0 w' d D := by
  obtain ⟨F, h1, h4, h6⟩ := h
  exact ⟨F, h1.below hb, h4, h6.trans (hb.mono h6.size)⟩
theorem StD.below (h : StD w0 w d g D L) (hb : Below w.heap.size w w') : StD w0 w' d g D L := by
  obtain ⟨F, h1, h2, h3, h4, h5, h6⟩ := h
  exact ⟨F, h1.below hb, h2.below hb, h3, h4, h5, h6.trans (hb.mono h6.size)⟩
theorem DkD.moved (h : DkD w0 w d D) (hl : ∀ F, IsDisk w d F D → ∃ F', IsDisk w' d F' D' ∧ Moves w w' F F') : DkD w0 w' d D' := by
  obtain ⟨F, h1, h4, h6⟩ := h
  obtain ⟨F', k1, k2⟩ := hl F h1
  exact ⟨F', k1, fun k hk => (k2.fresh k hk).elim (h4 k) (fun h => Nat.le_trans h6.size h), h6.trans (k2.toBelow h6.size h4)⟩
/-- a call at the log -/
theorem st_leftG (hF : ∀ k, F k → w0.heap.size ≤ k) (hg : w0.heap.size ≤ g) (hb : Below w0.heap.size w0 w) (h : LeftG w F d g D' L' w') : StD w0 w' d g D' L' := by
  obtain ⟨F', h1, h2, h3, h4⟩ := h
  have hU : ∀ k, Un F (fun k => k = g) k → w0.heap.size ≤ k := fun k hk => hk.elim (hF k) (fun e => by rw [e]; exact hg)
  exact ⟨F', h1, h2, h3, fun k hk => (h4.fresh k (.inl hk)).elim (hU k) (fun h => Nat.le_trans hb.size h), hg, hb.trans (h4.toBelow hb.size hU)⟩
/-- a call at the disk alone -/
theorem st_left (h2 : LogAt w g d L) (h3 : ¬ F g) (hF : ∀ k, F k → w0.heap.size ≤ k) (hg : w0.heap.size ≤ g) (hb : Below w0.heap.size w0 w) (h : Left w F d D' w') : StD w0 w' d g D' L := by
  obtain ⟨F', k1, k2⟩ := h
  have hlt := h2.lt
  exact ⟨F', k1, h2.stay (k2.keep g hlt h3), fun hk => (k2.fresh g hk).elim h3 (fun h => by omega), fun k hk => (k2.fresh k hk).elim (hF k) (fun h => Nat.le_trans hb.size h), hg, hb.trans (k2.toBelow hb.size hF)⟩
theorem st_append (h : StD w0 w d g D L) (hlen : D.wait.length < 1000000000000) (hf : LgFine L) (v : Value) (l : List ByteArray) (hv : IsStrs w v l) (hll : l.length ≤ 1000000000) :
    Calls Try.prog 34 #[.pointer (some ⟨g, 0, none⟩), v] w fun e w' => e = .returned (.int .i64 (appendL D L l).1) ∧ StD w0 w' d g (appendL D L l).2.1 (appendL D L l).2.2 := by
  obtain ⟨F, h1, h2, h3, h4, h5, h6⟩ := h
  exact (lappend_any g d F D L v l w h1 h2 h3 hlen hf hv hll).mono fun e w' hh => ⟨hh.1, st_leftG h4 h5 h6 hh.2⟩
theorem st_renew (h : StD w0 w d g D L) (hlen : D.wait.length < 1000000000000) (hf : LgFine L) (v : Value) (l : List ByteArray) (hv : IsStrs w v l) (hll : l.length ≤ 1000000000) :
    Calls Try.prog 38 #[.pointer (some ⟨g, 0, none⟩), v] w fun e w' => e = .returned (.int .i64 (renewL D L l).1) ∧ StD w0 w' d g (renewL D L l).2.1 (renewL D L l).2.2 := by
  obtain ⟨F, h1, h2, h3, h4, h5, h6⟩ := h
  exact (lrenew_any g d F D L v l w h1 h2 h3 hlen hf hv hll).mono fun e w' hh => ⟨hh.1, st_leftG h4 h5 h6 hh.2⟩
theorem st_arm (h : StD w0 w d g D L) (n : Int) (hn : n ≤ 9223372036854775807) : Calls Try.prog 26 #[.pointer (some ⟨d, 0, none⟩), .int .i64 n] w fun e w' => e = .returned (.tuple #[]) ∧ StD w0 w' d g (D.armed n) L := by
  obtain ⟨F, h1, h2, h3, h4, h5, h6⟩ := h
  exact (arm_any d F D n hn w h1).mono fun e w' hh => ⟨hh.1, st_left h2 h3 h4 h5 h6 hh.2⟩
theorem st_restart (h : StD w0 w d g D L) (hlen : D.wait.length < 1000000000000) (ht : D.turns < 1000000000000) (keep : Int) (torn : Bool) : Calls Try.prog 21 #[.pointer (some ⟨d, 0, none⟩), .int .i64 keep, .bool torn] w fun e w' => e = .returned (.tuple #[]) ∧ StD w0 w' d g (D.restart keep torn) L := by
  obtain ⟨F, h1, h2, h3, h4, h5, h6⟩ := h
  exact (restart_any d F D keep torn w h1 (by omega) (by omega)).mono fun e w' hh => ⟨hh.1, st_left h2 h3 h4 h5 h6 hh.2⟩
theorem st_new (hb : Below w0.heap.size w0 w) : Calls Try.prog 18 #[] w fun e w' => ∃ d, e = .returned (.pointer (some ⟨d, 0, none⟩)) ∧ DkD w0 w' d Dk.new := by
  refine (new_any w).mono ?_
  rintro e w' ⟨d, F, rfl, h1, h2⟩
  exact ⟨d, rfl, F, h1, fun k hk => (h2.fresh k hk).elim (fun h => h.elim) (fun h => Nat.le_trans hb.size h), hb.trans (h2.toBelow hb.size (fun k hk => hk.elim))⟩
theorem st_open (h : DkD w0 w d D) (hlen : D.wait.length < 1000000000000) (hf : Full D) (ho : D.off = false) : Calls Try.prog 33 #[.pointer (some ⟨d, 0, none⟩)] w fun e w' => ∃ g v, e = .returned (.tuple #[.pointer (some ⟨g, 0, none⟩), v, .int .i64 0]) ∧
    StD w0 w' d g D (opened D).1 ∧ w'.ownsRow w.heap.size 9 1 v (opened D).2.length (strsV (opened D).2) ∧ Below w.heap.size w w' := by
  obtain ⟨F, h1, h4, h6⟩ := h
  refine (lopen_any d F D w h1 (by omega) hf.whole ho).mono ?_
  rintro e w' ⟨g, v, rfl, hb, hg, hl, hown⟩
  exact ⟨g, v, rfl, ⟨F, h1.below hb, hl, fun hF => by have := h1.lt _ hF; omega, h4, Nat.le_trans h6.size hg, h6.trans (hb.mono h6.size)⟩, hown, hb⟩
theorem st_keep (h : DkD w0 w d D) (hk : Keeps D L all) (hf : Full D) : Calls Try.prog 33 #[.pointer (some ⟨d, 0, none⟩)] w fun e w' => ∃ g v, e = .returned (.tuple #[.pointer (some ⟨g, 0, none⟩), v, .int .i64 0]) ∧
    StD w0 w' d g D L ∧ w'.ownsRow w.heap.size 9 1 v all.length (strsV all) ∧ Below w.heap.size w w' := by
  have h := st_open h hk.wait0 hf hk.live.off
  rw [keeps_opened hk] at h
  exact h
theorem st_room (h : StD w0 w d g D L) (hp : L.pos ≤ 256) : Calls Try.prog 35 #[.pointer (some ⟨g, 0, none⟩)] w fun e w' => e = .returned (.int .i64 (256 - (L.pos : Int))) ∧ w = w' := room_any g d L w h.log hp
theorem st_epoch (h : StD w0 w d g D L) : Calls Try.prog 36 #[.pointer (some ⟨g, 0, none⟩)] w fun e w' => e = .returned (.int .i64 (L.epoch : Int)) ∧ w = w' := epoch_any g d L w h.log
end

theorem awake_pure : ∃ D1, appendL Dk.new Lg.none [⟨#[97]⟩, ⟨#[98]⟩] = (0, D1, ⟨0, 1, 1, 1, false⟩) ∧ Keeps D1 ⟨0, 1, 1, 1, false⟩ [⟨#[97]⟩, ⟨#[98]⟩] := by
  have hs : needN (packTo [⟨#[97]⟩, ⟨#[98]⟩]).size = 1 := by decide +kernel
  obtain ⟨D1, h1, _, h2⟩ := renew_ok keeps_new rfl (by decide) [⟨#[97]⟩, ⟨#[98]⟩] (by decide +kernel) (by rw [hs]; decide)
  rw [hs] at h1 h2
  refine ⟨D1, ?_, h2⟩
  rw [← show renewL Dk.new Lg.none [⟨#[97]⟩, ⟨#[98]⟩] = appendL Dk.new Lg.none [⟨#[97]⟩, ⟨#[98]⟩] from rfl]
  exact h1

set_option maxHeartbeats 4000000 in
set_option maxRecDepth 20000 in
theorem awake19 (w : World) : Calls Try.prog 31 #[] w (Fine w) := by
  have HN := Lib.hid (fun W => st_new (w0 := w) (w := W))
  obtain ⟨D1, hap, hk1⟩ := awake_pure
  have HO1 := Lib.hid (fun (W : World) (d : Nat) (hd : DkD w W d Dk.new) => st_keep hd keeps_new full_new)
  have hf1 : Full D1 := by have := full_appendL full_new Lg.none [⟨#[97]⟩, ⟨#[98]⟩]; rw [hap] at this; exact this
  have HO2 := Lib.hid (fun (W : World) (d : Nat) (hd : DkD w W d D1) => st_keep hd hk1 hf1)
  have HA := Lib.hid (fun (W : World) (d g : Nat) (hs : StD w W d g Dk.new Lg.none) (v : Value) (hv : IsStrs W v [⟨#[97]⟩, ⟨#[98]⟩]) => by
    have h := st_append hs keeps_new.wait0 (keeps_new.lgFine (by decide)) v [⟨#[97]⟩, ⟨#[98]⟩] hv (by decide)
    rw [hap] at h
    exact h)
  have HR := Lib.hid (fun (W : World) (d g : Nat) (hs : StD w W d g D1 ⟨0, 1, 1, 1, false⟩) => st_room hs (by decide))
  have HE := Lib.hid (fun (W : World) (d g : Nat) (hs : StD w W d g D1 ⟨0, 1, 1, 1, false⟩) => st_epoch hs)
  clear hap hk1 hf1
  have hq : ((⟨#[98]⟩ : ByteArray).toList == (⟨#[98]⟩ : ByteArray).toList) = true := beq_self_eq_true _
  go_enter Try.func31, Try.ntmps31
  go_wp2_with (first
    | (go_at_call 18; refine (HN.out _ (Below.refl _ _)).mono ?_; rintro e1 w1 ⟨d, rfl, hd⟩)
    | (go_at_call 33; refine (HO1.out _ _ hd).mono ?_; rintro e2 w2 ⟨g, v, rfl, hst, ho2, hb2⟩; obtain ⟨A, c, rfl, hc⟩ := own_form ho2; have HST := Lib.hid hst; clear hd hb2 hst ho2))
  have hb3 : Below w2.heap.size w2 (w2.alloc (Obj.cells #[Value.string ⟨#[97]⟩, Value.string ⟨#[98]⟩] 9)) := (Below.refl _ _).alloc (Nat.le_refl _) _
  have hs3 := isStrs_row [⟨#[97]⟩, ⟨#[98]⟩] (Blk.new w2 9 #[Value.string ⟨#[97]⟩, Value.string ⟨#[98]⟩]) (by
    intro i hi
    rcases (show i = 0 ∨ i = 1 by simp at hi; omega) with rfl | rfl
    · exact ⟨rfl, by show 1 ≤ _; omega⟩
    · exact ⟨rfl, by show 1 ≤ _; omega⟩) 2 2 rfl (Nat.le_refl _) (by decide)
  have H34 := Lib.hid (HA.out _ d g (HST.out.below hb3) _ hs3)
  clear hs3 hb3
  refine H34.out.mono ?_
  rintro e3 w3 ⟨rfl, hs3⟩
  have hd3 := hs3.dk
  go_wp2_with (first
    | (go_at_call 33; refine (HO2.out _ _ hd3).mono ?_; rintro e4 w4 ⟨g4, v4, rfl, hs4, ho4, hb4⟩; obtain ⟨A4, c4, rfl, hc4⟩ := own_form ho4; obtain ⟨g5, rfl, hz5, hf5⟩ := own_cell ho4 (by show 0 < 2; omega); have z1 := (hz5 1 (by show 1 < 2 * 1; omega)).trans (show _ = some (.string ⟨#[98]⟩) from rfl); have HS4 := Lib.hid hs4; clear hz5 hf5 ho4 hs4 hb4 hd3 hs3)
    | (go_at_call 36; refine (HE.out _ _ _ HS4.out).mono ?_; rintro e5 w5 ⟨rfl, rfl⟩)
    | (go_at_call 35; refine (HR.out _ _ _ HS4.out).mono ?_; rintro e6 w6 ⟨rfl, rfl⟩))
  go_ret
  exact ⟨rfl, HS4.out.bel⟩
end Go.Proofs.Ytddaiihhhajieaa
