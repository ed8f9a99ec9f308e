/- How the document's disk lies in memory; an append of a slice that may be nil; no function of the program. -/
import Derived.Test.YtddaiihhhajieaaDiskW2
import Derived.Deep.AppendSrc
namespace Go.Proofs.Ytddaiihhhajieaa
open Go.RowKit Go.Maps

/-! ### append of a slice, nil or not -/
def Yields (w : World) (size : Nat) (x : Value) (m : Nat) (news : List Value) : Prop :=
  (∃ c, x = .slice none 0 c ∧ m = 0 ∧ news = []) ∨ ∃ ad c, x = .slice (some ad) m c ∧ news.length = m * size ∧ ∀ j u, news[j]? = some u → w.cell? (ad.add j) = some u

theorem Yields.of_own {w : World} {e : TypeId} {size n : Nat} {v : Value} {xs : List Value} (h : w.ownsRow 0 e size v n xs) : Yields w size v n xs := by
  rcases h.2 with ⟨rfl, rfl⟩ | ⟨g, cap, cur, rfl, _⟩
  · exact .inl ⟨0, rfl, rfl, List.eq_nil_of_length_eq_zero (by simpa using h.1)⟩
  · exact .inr ⟨_, _, rfl, h.1, h.cells (g := g) rfl⟩
theorem Yields.take {w : World} {e : TypeId} {size n : Nat} {A : Option Addr} {c : Nat} {xs : List Value} (h : w.ownsRow 0 e size (.slice A n c) n xs) (k : Nat) (hk : k ≤ n) : Yields w size (.slice A k c) k (xs.take (k * size)) := by
  rcases h.2 with ⟨hv, rfl⟩ | ⟨g, cap, cur, hv, _⟩
  · injection hv with h1 _ h3
    subst h1; subst h3
    have : xs = [] := List.eq_nil_of_length_eq_zero (by simpa using h.1)
    subst this
    obtain rfl : k = 0 := by omega
    exact .inl ⟨0, rfl, rfl, by simp⟩
  · injection hv with h1 _ h3
    subst h1; subst h3
    refine .inr ⟨_, _, rfl, ?_, fun j u hj => ?_⟩
    · rw [List.length_take, h.1]; exact Nat.min_eq_left (Nat.mul_le_mul_right _ hk)
    · rw [List.getElem?_take] at hj
      split at hj
      · exact h.cells (g := g) rfl j u hj
      · cases hj
theorem Yields.stay {w w' : World} {size m : Nat} {x : Value} {news : List Value} (h : Yields w size x m news) (hk : ∀ g, x.ownBlock = some g → w'.heap[g]? = w.heap[g]?) : Yields w' size x m news := by
  rcases h with h | ⟨ad, c, rfl, h1, h2⟩
  · exact .inl h
  · refine .inr ⟨ad, c, rfl, h1, fun j u hj => ?_⟩
    rw [← h2 j u hj]
    have e : (ad.add j).block = ad.block := by unfold Addr.add; split <;> rfl
    exact World.cell?_of_block (by rw [e]; exact hk ad.block rfl)

theorem run_append_own_src {P : Program} (w : World) (base : Nat) (t ty e : TypeId) (i : TypeInfo) (z : Value) (size bytes : Nat) (ht : P.underlying t = some (.slice e)) (hi : P.info? e = some i) (hz : i.zero = some z)
    (hsize : i.size = size) (hby : i.bytes = bytes) (hzs : z.cells.size = size) (hsz : 0 < size)
    (v : Value) (n : Nat) (xs : List Value) (hown : w.ownsRow base e size v n xs)
    (x : Value) (m : Nat) (news : List Value) (hx : Yields w size x m news) (h1 : ∀ u ∈ news, u.oneCell' = true)
    (h63 : n + m ≤ maxLen) (hbytes : (n + m) * bytes ≤ 140737488355328) (hbase : base ≤ w.heap.size) :
    ∃ v' w', (Builtin.append_ #[t, t] ty #[v, x]).run P w = .ok v' w' ∧ w'.ownsRow base e size v' (n + m) (xs ++ news) ∧ w.grownBy w' v.ownBlock ∧
      (v'.ownBlock = v.ownBlock ∨ v'.ownBlock = some w.heap.size) := by
  rcases hx with ⟨c, rfl, rfl, rfl⟩ | ⟨ad, c, rfl, hl, hnews⟩
  · refine ⟨v, w, ?_, by simpa using hown, ⟨rfl, rfl, rfl, Nat.le_refl _, fun _ _ _ => rfl⟩, .inl rfl⟩
    rcases hown.2 with ⟨rfl, rfl⟩ | ⟨g, cap, cur, rfl, hbg, hg, hnc, hcm, hcs, htake⟩
    · simp [Builtin.append_, run_underlying ht, sizeOf, typeInfo, hi, Builtin.lenOf, Builtin.firstCells]
    · have := run_append_room_src (P := P) w t t ty e i ht hi g 0 n cap (.slice none 0 c) 0 [] (Src.ofNil w ht c) hnc (by simp) (by simp)
      simpa [World.setCells] using this
  · obtain ⟨v', w', r1, r2, r3, _, r5⟩ := run_append_own_at (P := P) w base t ty e i z size bytes ht hi hz hsize hby hzs hsz v n xs hown ad m c news hl hnews h1 h63 hbytes hbase
    exact ⟨v', w', r1, r2, r3, r5⟩

theorem step_append_src {P : Program} {w : World} {ops : Array Oper} {o : Oper} {a : Act} {K : Act → World → Prop} {Q : Exit → Act → World → Prop} {E : Prop} (hgd : o.guard = none) (s x : Operand) (t : TypeId)
    (ho : o.op = .call { callee := .builtin .append, args := #[s, x], argTypes := #[t, t] })
    (base : Nat) (e : TypeId) (i : TypeInfo) (z : Value) (size bytes : Nat) (ht : P.underlying t = some (.slice e)) (hi : P.info? e = some i) (hz : i.zero = some z)
    (hsize : i.size = size) (hby : i.bytes = bytes) (hzs : z.cells.size = size) (hsz : 0 < size)
    (v : Value) (n : Nat) (xs : List Value) (hs : a.eval s = v) (hown : w.ownsRow base e size v n xs)
    (xv : Value) (m : Nat) (news : List Value) (hx : a.eval x = xv) (hy : Yields w size xv m news) (h1 : ∀ u ∈ news, u.oneCell' = true)
    (h63 : n + m ≤ maxLen) (hbytes : (n + m) * bytes ≤ 140737488355328) (hbase : base ≤ w.heap.size)
    (h : ∀ v' w', w'.ownsRow base e size v' (n + m) (xs ++ news) → w.grownBy w' v.ownBlock → (v'.ownBlock = v.ownBlock ∨ v'.ownBlock = some w.heap.size) → K (a.put o.dst v') w') :
    if Region.wanted o (yielded ops a.tmps) = true then Oper.wp P o a w K Q else E := by
  have hw : Region.wanted o (yielded ops a.tmps) = true := by simp [Region.wanted, hgd]
  rw [if_pos hw]
  obtain ⟨v', w', hr, h2, h3, h4⟩ := run_append_own_src (P := P) w base t o.type e i z size bytes ht hi hz hsize hby hzs hsz v n xs hown xv m news hy h1 h63 hbytes hbase
  unfold Oper.wp execOp
  simp only [ho, resolve, invoke, builtin, Sem.run_bind, Sem.run_pure, Result.andThen_ok, List.map_toArray, List.map_cons, List.map_nil, hs, hx, hr]
  exact h v' w' h2 h3 h4

theorem putsV_one (l : List (Nat × ByteArray)) : ∀ u ∈ putsV l, u.oneCell' = true := by
  intro u hu
  obtain ⟨p, _, hp⟩ := List.mem_flatMap.1 hu
  simp at hp
  rcases hp with rfl | rfl <;> rfl
theorem putsV_take (l : List (Nat × ByteArray)) (k : Nat) : putsV (l.take k) = (putsV l).take (k * 2) := by
  induction l generalizing k with
  | nil => simp [putsV]
  | cons p l ih =>
    cases k with
    | zero => simp [putsV]
    | succ k =>
      have := ih k
      simp only [putsV, List.take_succ_cons, List.flatMap_cons, Nat.succ_mul] at this ⊢
      rw [this]
      simp

/-! ### the document's disk: its fields but the first are those of the program's disk -/
abbrev Puts := List (Nat × ByteArray)
structure RefAt (w : World) (r : Nat) (lv wv : Value) (D : Dk) (L : Puts) : Prop where
  blk : Blk w r 48 #[lv, wv, .int .i64 D.arm, .bool D.off]
  last : w.ownsRow 0 103 2 lv L.length (putsV L)
  wait : w.ownsRow 0 103 2 wv D.wait.length (putsV D.wait)
  apart : ∀ k, lv.ownBlock = some k → wv.ownBlock ≠ some k
def rfoot (r : Nat) (lv wv : Value) : Foot := fun k => k = r ∨ lv.ownBlock = some k ∨ wv.ownBlock = some k
def IsRef (w : World) (r : Nat) (G : Foot) (D : Dk) (L : Puts) : Prop := ∃ lv wv, RefAt w r lv wv D L ∧ ∀ k, G k ↔ rfoot r lv wv k
def LeftR (w : World) (G : Foot) (r : Nat) (D : Dk) (L : Puts) (w' : World) : Prop := ∃ G', IsRef w' r G' D L ∧ Moves w w' G G'

section
variable {w w' : World} {r : Nat} {lv wv : Value} {D : Dk} {L : Puts} {G : Foot}
theorem RefAt.ne_last (h : RefAt w r lv wv D L) : lv.ownBlock ≠ some r := h.blk.ne_own h.last (by decide)
theorem RefAt.ne_wait (h : RefAt w r lv wv D L) : wv.ownBlock ≠ some r := h.blk.ne_own h.wait (by decide)
theorem RefAt.lt (h : RefAt w r lv wv D L) : ∀ k, rfoot r lv wv k → k < w.heap.size := by
  rintro k (rfl | hk | hk)
  · exact h.blk.lt
  · exact own_lt h.last k hk
  · exact own_lt h.wait k hk
theorem RefAt.stay (h : RefAt w r lv wv D L) (hk : ∀ k, rfoot r lv wv k → w'.heap[k]? = w.heap[k]?) : RefAt w' r lv wv D L :=
  ⟨h.blk.stay (hk r (.inl rfl)), own_stay h.last (fun g hg => hk g (.inr (.inl hg))), own_stay h.wait (fun g hg => hk g (.inr (.inr hg))), h.apart⟩
theorem RefAt.below (h : RefAt w r lv wv D L) (hb : Below w.heap.size w w') : RefAt w' r lv wv D L := h.stay fun k hk => hb.block k (h.lt k hk)
theorem RefAt.c0 (h : RefAt w r lv wv D L) : w.cell? ⟨r, 0, none⟩ = some lv := (h.blk.cell 0).trans rfl
theorem RefAt.c1 (h : RefAt w r lv wv D L) : w.cell? ⟨r, 1, none⟩ = some wv := (h.blk.cell 1).trans rfl
theorem RefAt.c2 (h : RefAt w r lv wv D L) : w.cell? ⟨r, 2, none⟩ = some (.int .i64 D.arm) := (h.blk.cell 2).trans rfl
theorem RefAt.c3 (h : RefAt w r lv wv D L) : w.cell? ⟨r, 3, none⟩ = some (.bool D.off) := (h.blk.cell 3).trans rfl
theorem RefAt.fz (h : RefAt w r lv wv D L) (k : Nat) : w.frozen? ⟨r, k, none⟩ = false := h.blk.frozen k
theorem RefAt.set_arm (h : RefAt w r lv wv D L) (x : Int) : RefAt (w.setCell ⟨r, 2, none⟩ (.int .i64 x)) r lv wv { D with arm := x } L :=
  ⟨h.blk.set_ 2 _, own_stay h.last (fun g hg => Below.heap_setCell _ _ _ _ (by rintro rfl; exact h.ne_last hg)), own_stay h.wait (fun g hg => Below.heap_setCell _ _ _ _ (by rintro rfl; exact h.ne_wait hg)), h.apart⟩
theorem RefAt.set_off (h : RefAt w r lv wv D L) (x : Bool) : RefAt (w.setCell ⟨r, 3, none⟩ (.bool x)) r lv wv { D with off := x } L :=
  ⟨h.blk.set_ 3 _, own_stay h.last (fun g hg => Below.heap_setCell _ _ _ _ (by rintro rfl; exact h.ne_last hg)), own_stay h.wait (fun g hg => Below.heap_setCell _ _ _ _ (by rintro rfl; exact h.ne_wait hg)), h.apart⟩
theorem RefAt.no_wait (h : RefAt w r lv wv D L) : RefAt (w.setCell ⟨r, 1, none⟩ (.slice none 0 0)) r lv (.slice none 0 0) { D with wait := [] } L :=
  ⟨h.blk.set_ 1 _, own_stay h.last (fun g hg => Below.heap_setCell _ _ _ _ (by rintro rfl; exact h.ne_last hg)), ⟨rfl, .inl ⟨rfl, rfl⟩⟩, fun k _ => by simp [Value.ownBlock]⟩
/-- the disk's other parts do not matter -/
theorem RefAt.of (h : RefAt w r lv wv D L) {D' : Dk} (h1 : D'.wait = D.wait) (h2 : D'.arm = D.arm) (h3 : D'.off = D.off) : RefAt w r lv wv D' L :=
  ⟨by rw [h2, h3]; exact h.blk, h.last, by rw [h1]; exact h.wait, h.apart⟩
/-- behind an append -/
theorem RefAt.grown_last (h : RefAt w r lv wv D L) (hg : w.grownBy w' lv.ownBlock) : Blk w' r 48 #[lv, wv, .int .i64 D.arm, .bool D.off] ∧ w'.ownsRow 0 103 2 wv D.wait.length (putsV D.wait) :=
  ⟨h.blk.grown hg (fun e => h.ne_last e.symm), own_stay h.wait (fun g hw => hg.block g (own_lt h.wait g hw) (fun e => h.apart g e.symm hw))⟩
theorem RefAt.append_last (h : RefAt w r lv wv D L) (hg : w.grownBy w' lv.ownBlock) {v' : Value} {l : Puts} (ho : w'.ownsRow 0 103 2 v' (L.length + l.length) (putsV L ++ putsV l)) (hat : v'.ownBlock = lv.ownBlock ∨ v'.ownBlock = some w.heap.size) :
    RefAt (w'.setCell ⟨r, 0, none⟩ v') r v' wv D (L ++ l) ∧ Moves w (w'.setCell ⟨r, 0, none⟩ v') (rfoot r lv wv) (rfoot r v' wv) := by
  obtain ⟨hb', hw'⟩ := h.grown_last hg
  have hne := hb'.ne_own ho (by decide)
  refine ⟨⟨hb'.set_ 0 _, own_stay (by rw [List.length_append, putsV_append]; exact ho) (fun g hg' => Below.heap_setCell _ _ _ _ (by rintro rfl; exact hne hg')),
    own_stay hw' (fun g hg' => Below.heap_setCell _ _ _ _ (by rintro rfl; exact h.ne_wait hg')), fun k hk hw => ?_⟩, ?_⟩
  · rcases hat with e | e
    · exact h.apart k (e ▸ hk) hw
    · rw [e] at hk
      injection hk with hk
      have := own_lt h.wait k hw
      omega
  · refine (((Moves.refl w (rfoot r lv wv)).grown hg (fun k hk => .inl (.inr (.inl hk)))).setCell (p := ⟨r, 0, none⟩) (.inl (.inl rfl)) v').less ?_
    rintro k (rfl | hk | hk)
    · exact .inl (.inl rfl)
    · rcases hat with e | e
      · exact .inl (.inr (.inl (e ▸ hk)))
      · rw [e] at hk
        injection hk with hk
        exact .inr (by omega)
    · exact .inl (.inr (.inr hk))
theorem RefAt.grown_wait (h : RefAt w r lv wv D L) (hg : w.grownBy w' wv.ownBlock) : Blk w' r 48 #[lv, wv, .int .i64 D.arm, .bool D.off] ∧ w'.ownsRow 0 103 2 lv L.length (putsV L) :=
  ⟨h.blk.grown hg (fun e => h.ne_wait e.symm), own_stay h.last (fun g hl => hg.block g (own_lt h.last g hl) (fun e => h.apart g hl e.symm))⟩
theorem RefAt.append_wait (h : RefAt w r lv wv D L) (hg : w.grownBy w' wv.ownBlock) {v' : Value} {l : Puts} (ho : w'.ownsRow 0 103 2 v' (D.wait.length + l.length) (putsV D.wait ++ putsV l)) (hat : v'.ownBlock = wv.ownBlock ∨ v'.ownBlock = some w.heap.size) :
    RefAt (w'.setCell ⟨r, 1, none⟩ v') r lv v' { D with wait := D.wait ++ l } L ∧ Moves w (w'.setCell ⟨r, 1, none⟩ v') (rfoot r lv wv) (rfoot r lv v') := by
  obtain ⟨hb', hw'⟩ := h.grown_wait hg
  have hne := hb'.ne_own ho (by decide)
  refine ⟨⟨hb'.set_ 1 _, own_stay hw' (fun g hg' => Below.heap_setCell _ _ _ _ (by rintro rfl; exact h.ne_last hg')),
    own_stay (by rw [List.length_append, putsV_append]; exact ho) (fun g hg' => Below.heap_setCell _ _ _ _ (by rintro rfl; exact hne hg')), fun k hk hw => ?_⟩, ?_⟩
  · rcases hat with e | e
    · exact h.apart k hk (e ▸ hw)
    · rw [e] at hw
      injection hw with hw
      have := own_lt h.last k hk
      omega
  · refine (((Moves.refl w (rfoot r lv wv)).grown hg (fun k hk => .inl (.inr (.inr hk)))).setCell (p := ⟨r, 1, none⟩) (.inl (.inl rfl)) v').less ?_
    rintro k (rfl | hk | hk)
    · exact .inl (.inl rfl)
    · exact .inl (.inr (.inl hk))
    · rcases hat with e | e
      · exact .inl (.inr (.inr (e ▸ hk)))
      · rw [e] at hk
        injection hk with hk
        exact .inr (by omega)

theorem IsRef.lt (h : IsRef w r G D L) : ∀ k, G k → k < w.heap.size := by
  obtain ⟨lv, wv, hd, hF⟩ := h
  exact fun k hk => hd.lt k ((hF k).1 hk)
theorem IsRef.stay (h : IsRef w r G D L) (hk : ∀ k, G k → w'.heap[k]? = w.heap[k]?) : IsRef w' r G D L := by
  obtain ⟨lv, wv, hd, hF⟩ := h
  exact ⟨lv, wv, hd.stay (fun k h => hk k ((hF k).2 h)), hF⟩
theorem IsRef.below (h : IsRef w r G D L) (hb : Below w.heap.size w w') : IsRef w' r G D L := h.stay fun k hk => hb.block k (h.lt k hk)
theorem leftR_of {wv' lv' : Value} {D' : Dk} {L' : Puts} (hF : ∀ k, G k ↔ rfoot r lv wv k) (h : RefAt w' r lv' wv' D' L') (hm : Moves w w' (rfoot r lv wv) (rfoot r lv' wv')) : LeftR w G r D' L' w' :=
  ⟨rfoot r lv' wv', ⟨lv', wv', h, fun _ => Iff.rfl⟩, hm.more (fun k hk => (hF k).2 hk)⟩
theorem moves_r (h : Moves w w' (fun k => k = r) (fun k => k = r)) : Moves w w' (rfoot r lv wv) (rfoot r lv wv) :=
  (h.beside (rfoot r lv wv)).more (fun _ hk => hk.elim (fun e => .inl e) id) |>.less (fun _ hk => .inl (.inr hk))
end
end Go.Proofs.Ytddaiihhhajieaa
