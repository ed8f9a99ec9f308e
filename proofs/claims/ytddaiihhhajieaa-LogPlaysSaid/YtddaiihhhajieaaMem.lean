/- Words for memory that the walks use: which blocks a call may have turned ('Moves'), what a block holds; no function of the program. -/
import Derived.Test.YtddaiihhhajieaaProg
import Derived.WalkKit
import Derived.WalkSpells
import Derived.WalkLawsBesides
import Derived.Maps.OwnSet
import Derived.Lib.Hide
namespace Go.Proofs.Ytddaiihhhajieaa
open Go.RowKit

/-- A set of blocks. -/
abbrev Foot := Nat → Prop

/-- Of what was there only blocks of F have turned; what is owned behind it (F') was owned, or is new. -/
structure Moves (w w' : World) (F F' : Foot) : Prop where
  os : w'.os = w.os
  tape : w'.tape = w.tape
  output : w'.output = w.output
  size : w.heap.size ≤ w'.heap.size
  keep : ∀ k, k < w.heap.size → ¬ F k → w'.heap[k]? = w.heap[k]?
  fresh : ∀ k, F' k → F k ∨ w.heap.size ≤ k

theorem Moves.refl (w : World) (F : Foot) : Moves w w F F := ⟨rfl, rfl, rfl, Nat.le_refl _, fun _ _ _ => rfl, fun _ h => .inl h⟩
theorem Moves.trans {a b c : World} {F G H : Foot} (h : Moves a b F G) (k : Moves b c G H) : Moves a c F H :=
  ⟨k.os.trans h.os, k.tape.trans h.tape, k.output.trans h.output, Nat.le_trans h.size k.size,
   fun i hi hn => (k.keep i (Nat.lt_of_lt_of_le hi h.size) (fun hg => by
     rcases h.fresh i hg with h1 | h1
     · exact hn h1
     · omega)).trans (h.keep i hi hn),
   fun i hi => by
     rcases k.fresh i hi with h1 | h1
     · exact h.fresh i h1
     · exact .inr (Nat.le_trans h.size h1)⟩
/-- with a smaller set behind it -/
theorem Moves.less {a b : World} {F G H : Foot} (h : Moves a b F G) (hs : ∀ k, H k → G k ∨ a.heap.size ≤ k) : Moves a b F H :=
  ⟨h.os, h.tape, h.output, h.size, h.keep, fun k hk => (hs k hk).elim (h.fresh k) .inr⟩
/-- with a greater set ahead of it -/
theorem Moves.more {a b : World} {F G H : Foot} (h : Moves a b F G) (hs : ∀ k, F k → H k) : Moves a b H G :=
  ⟨h.os, h.tape, h.output, h.size, fun k hk hn => h.keep k hk (fun hf => hn (hs k hf)), fun k hk => (h.fresh k hk).imp (hs k) id⟩
/-- both parts of what is owned, where one part moves -/
theorem Moves.beside {a b : World} {F G : Foot} (h : Moves a b F G) (H : Foot) : Moves a b (fun k => F k ∨ H k) (fun k => G k ∨ H k) :=
  ⟨h.os, h.tape, h.output, h.size, fun k hk hn => h.keep k hk (fun hf => hn (.inl hf)), fun k hk => by
    rcases hk with hk | hk
    · exact (h.fresh k hk).imp .inl id
    · exact .inl (.inr hk)⟩
theorem Moves.drew {a b : World} {F G : Foot} (h : Moves a b F G) : Moves a b.drew F G := ⟨h.os, h.tape, h.output, h.size, h.keep, h.fresh⟩
theorem Moves.drewN {a b : World} {F G : Foot} (h : Moves a b F G) (n : Nat) : Moves a (b.drewN n) F G := ⟨h.os, h.tape, h.output, h.size, h.keep, h.fresh⟩
theorem Moves.alloc {a b : World} {F G : Foot} (h : Moves a b F G) (o : Obj) : Moves a (b.alloc o) F G :=
  ⟨h.os, h.tape, h.output, Nat.le_trans h.size (by simp), fun k hk hn => (Below.heap_alloc b o k (Nat.lt_of_lt_of_le hk h.size)).trans (h.keep k hk hn), h.fresh⟩
theorem Moves.setCell {a b : World} {F G : Foot} (h : Moves a b F G) {p : Addr} (hp : F p.block ∨ a.heap.size ≤ p.block) (u : Value) : Moves a (b.setCell p u) F G :=
  ⟨h.os, h.tape, h.output, by simpa using h.size, fun k hk hn => (Below.heap_setCell b p u k (by
    rintro rfl
    rcases hp with hp | hp
    · exact hn hp
    · omega)).trans (h.keep k hk hn), h.fresh⟩
theorem Moves.grown {a b c : World} {F G : Foot} (h : Moves a b F G) {row : Option Nat} (hg : b.grownBy c row) (hr : ∀ k, row = some k → F k ∨ a.heap.size ≤ k) : Moves a c F G :=
  ⟨hg.os.trans h.os, hg.tape.trans h.tape, hg.output.trans h.output, Nat.le_trans h.size hg.size, fun k hk hn => (hg.block k (Nat.lt_of_lt_of_le hk h.size) (fun e => by
    rcases hr k e.symm with h1 | h1
    · exact hn h1
    · omega)).trans (h.keep k hk hn), h.fresh⟩
theorem Moves.below {a b c : World} {F G : Foot} (h : Moves a b F G) (hb : Below b.heap.size b c) : Moves a c F G :=
  ⟨hb.os.trans h.os, hb.tape.trans h.tape, hb.output.trans h.output, Nat.le_trans h.size hb.size, fun k hk hn => (hb.block k (Nat.lt_of_lt_of_le hk h.size)).trans (h.keep k hk hn), h.fresh⟩
theorem Moves.turned {a b c : World} {F G : Foot} (h : Moves a b F G) {m : Nat} (ht : b.mapTurned c m) (hm : F m ∨ a.heap.size ≤ m) : Moves a c F G := by
  refine h.grown (row := some m) ht.grown ?_
  rintro k ⟨⟩
  exact hm

theorem Moves.cell {a b : World} {g : Nat} (h : Moves a b (fun k => k = g) (fun k => k = g)) (i : Nat) (u : Value) : Moves a (b.setCell ⟨g, i, none⟩ u) (fun k => k = g) (fun k => k = g) :=
  h.setCell (p := ⟨g, i, none⟩) (.inl rfl) u

/-- What was there below B is as it was, if all that moves lies from B on. -/
theorem Moves.toBelow {w w' : World} {F F' : Foot} {B : Nat} (h : Moves w w' F F') (hB : B ≤ w.heap.size) (hF : ∀ k, F k → B ≤ k) : Below B w w' :=
  ⟨h.os, h.tape, h.output, h.size, fun k hk => h.keep k (by omega) (fun hf => by have := hF k hf; omega)⟩

/-- Blocks of G stay what they were. -/
theorem Moves.stay {w w' : World} {F F' G : Foot} (h : Moves w w' F F') (hd : ∀ k, F k → ¬ G k) (hl : ∀ k, G k → k < w.heap.size) : ∀ k, G k → w'.heap[k]? = w.heap[k]? :=
  fun k hk => h.keep k (hl k hk) (fun hf => hd k hf hk)
/-- .. and lie apart from what is owned now. -/
theorem Moves.apart {w w' : World} {F F' G : Foot} (h : Moves w w' F F') (hd : ∀ k, F k → ¬ G k) (hl : ∀ k, G k → k < w.heap.size) : ∀ k, F' k → ¬ G k := by
  intro k hk hg
  rcases h.fresh k hk with h1 | h1
  · exact hd k h1 hg
  · have := hl k hg; omega

/-! ### a block that is known whole -/
def Blk (w : World) (g : Nat) (t : TypeId) (cs : Array Value) : Prop := w.heap[g]? = some (.cells cs t (0, 0))
section
variable {w w' : World} {g : Nat} {t : TypeId} {cs : Array Value}
theorem Blk.lt (h : Blk w g t cs) : g < w.heap.size := (Array.getElem?_eq_some_iff.1 h).1
theorem Blk.cell (h : Blk w g t cs) (i : Nat) : w.cell? ⟨g, i, none⟩ = cs[i]? := cell_of_row w g i cs t (0, 0) h
theorem Blk.frozen (h : Blk w g t cs) (i : Nat) : w.frozen? ⟨g, i, none⟩ = false := frozen_of_row w g i cs t h
theorem Blk.new (w : World) (t : TypeId) (cs : Array Value) : Blk (w.alloc (.cells cs t)) w.heap.size t cs := heap_alloc_new w _
theorem Blk.set_ (h : Blk w g t cs) (i : Nat) (u : Value) : Blk (w.setCell ⟨g, i, none⟩ u) g t (cs.setIfInBounds i u) := heap_setCell_same w g i cs t u h
theorem Blk.far (h : Blk w g t cs) {p : Addr} (hp : g ≠ p.block) (u : Value) : Blk (w.setCell p u) g t cs := (Below.heap_setCell w p u g hp).trans h
theorem Blk.alloc (h : Blk w g t cs) (o : Obj) : Blk (w.alloc o) g t cs := (Below.heap_alloc w o g h.lt).trans h
theorem Blk.grown {row : Option Nat} (h : Blk w g t cs) (hb : w.grownBy w' row) (hg : some g ≠ row) : Blk w' g t cs := (hb.block g h.lt hg).trans h
theorem Blk.below {B : Nat} (h : Blk w g t cs) (hb : Below B w w') (hg : g < B) : Blk w' g t cs := (hb.block g hg).trans h
theorem Blk.stay (h : Blk w g t cs) (hk : w'.heap[g]? = w.heap[g]?) : Blk w' g t cs := hk.trans h
theorem Blk.turned {m : Nat} (h : Blk w g t cs) (ht : w.mapTurned w' m) : Blk w' g t cs := by
  refine h.grown ht.grown ?_
  rintro ⟨⟩
  obtain ⟨es, clock, _, _, hb, _⟩ := ht
  unfold Blk at h
  rw [h] at hb; cases hb
theorem Blk.ne_ {g' : Nat} {t' : TypeId} {cs' : Array Value} (h : Blk w g t cs) (h' : Blk w g' t' cs') (hne : t ≠ t') : g ≠ g' := by
  rintro rfl
  unfold Blk at h h'
  rw [h] at h'
  injection h' with h'
  injection h' with _ ht
  exact hne ht
theorem Blk.ne_map {g' : Nat} {es : Array MapEntry} {c : Nat} (h : Blk w g t cs) (h' : w.heap[g']? = some (.map es c)) : g ≠ g' := by
  rintro rfl
  unfold Blk at h
  rw [h] at h'; cases h'
theorem Blk.ne_own {base : Nat} {e : TypeId} {size n : Nat} {v : Value} {xs : List Value} (hg : Blk w g t cs) (h : w.ownsRow base e size v n xs) (hne : e ≠ t) : v.ownBlock ≠ some g := by
  rcases h.2 with ⟨rfl, _⟩ | ⟨g', cap, cur, rfl, _, hh, _⟩
  · simp [Value.ownBlock]
  · intro he
    have : g' = g := by simpa [Value.ownBlock] using he
    subst this
    exact Blk.ne_ (t := e) hh hg hne rfl
end

theorem own_ne_map {w : World} {base : Nat} {e : TypeId} {size n : Nat} {v : Value} {xs : List Value} (h : w.ownsRow base e size v n xs) {m : Nat} {es : Array MapEntry} {c : Nat} (hm : w.heap[m]? = some (.map es c)) : v.ownBlock ≠ some m := by
  rcases h.2 with ⟨rfl, _⟩ | ⟨g', cap, cur, rfl, _, hh, _⟩
  · simp [Value.ownBlock]
  · intro he
    have : g' = m := by simpa [Value.ownBlock] using he
    subst this
    rw [hh] at hm; cases hm
theorem own_stay {w w' : World} {base : Nat} {e : TypeId} {size n : Nat} {v : Value} {xs : List Value} (h : w.ownsRow base e size v n xs) (hk : ∀ g, v.ownBlock = some g → w'.heap[g]? = w.heap[g]?) : w'.ownsRow base e size v n xs := by
  refine ⟨h.1, ?_⟩
  rcases h.2 with hn | ⟨g, cap, cur, rfl, hb, hgg, rest⟩
  · exact .inl hn
  · exact .inr ⟨g, cap, cur, rfl, hb, (hk g rfl).trans hgg, rest⟩
theorem own_lt {w : World} {base : Nat} {e : TypeId} {size n : Nat} {v : Value} {xs : List Value} (h : w.ownsRow base e size v n xs) (k : Nat) (hk : v.ownBlock = some k) : k < w.heap.size := (h.lt k hk).2
theorem own_form {w : World} {base : Nat} {e : TypeId} {size n : Nat} {v : Value} {xs : List Value} (h : w.ownsRow base e size v n xs) : ∃ A c, v = .slice A n c ∧ n ≤ c := by
  rcases h.2 with ⟨rfl, rfl⟩ | ⟨g, cap, cur, rfl, _, _, hc, _⟩
  · exact ⟨none, 0, rfl, Nat.le_refl _⟩
  · exact ⟨_, _, rfl, hc⟩
theorem own_cell {w : World} {base : Nat} {e : TypeId} {size n : Nat} {A : Option Addr} {c : Nat} {xs : List Value} (h : w.ownsRow base e size (.slice A n c) n xs) (hn : 0 < n) :
    ∃ g, A = some ⟨g, 0, none⟩ ∧ (∀ j, j < n * size → w.cell? ⟨g, j, none⟩ = xs[j]?) ∧ (∀ j, w.frozen? ⟨g, j, none⟩ = false) := by
  rcases h.2 with ⟨hv, h0⟩ | ⟨g, cap, cur, hv, hb, hgg, hc, hm, hs, ht⟩
  · omega
  · injection hv with h1 _ h3
    subst h1; subst h3
    exact ⟨g, rfl, fun j hj => h.cellAt j hj, fun j => h.frozenAt j⟩
theorem base_zero {w : World} {base : Nat} {e : TypeId} {size n : Nat} {v : Value} {xs : List Value} (h : w.ownsRow base e size v n xs) : w.ownsRow 0 e size v n xs := by
  refine ⟨h.1, ?_⟩
  rcases h.2 with hn | ⟨g, cap, cur, rfl, hb, rest⟩
  · exact .inl hn
  · exact .inr ⟨g, cap, cur, rfl, Nat.zero_le _, rest⟩

/-! ### max and min of two ints whose outcome is known -/
theorem wpList_max2 {P : Program} {w : World} {ops : Array Oper} {rest : List Oper} {a : Act} {Q : Exit → Act → World → Prop} (d : Nat) (x y : Operand) (ats : Array TypeId) (ty : TypeId) (pos : String) (after : Array Edge)
    (p q r : Int) (hx : a.eval x = .int .i64 p) (hy : a.eval y = .int .i64 q) (hr : (if q > p then q else p) = r) (h : wpList P ops Q rest (a.put (some d) (.int .i64 r)) w) :
    wpList P ops Q ({ dst := some d, op := .call { callee := .builtin .max, args := #[x, y], argTypes := ats }, type := ty, pos := pos, after := after, guard := none } :: rest) a w :=
  wpList_plain rfl fun _ hK => by
    subst hr
    unfold Oper.wp
    simp [BigFrame.execOp_builtin, hx, hy, run_max_int2, Result.andThen, BigFrame.builtin_max]
    exact hK _ _ h
theorem wpList_min2 {P : Program} {w : World} {ops : Array Oper} {rest : List Oper} {a : Act} {Q : Exit → Act → World → Prop} (d : Nat) (x y : Operand) (ats : Array TypeId) (ty : TypeId) (pos : String) (after : Array Edge)
    (p q r : Int) (hx : a.eval x = .int .i64 p) (hy : a.eval y = .int .i64 q) (hr : (if q < p then q else p) = r) (h : wpList P ops Q rest (a.put (some d) (.int .i64 r)) w) :
    wpList P ops Q ({ dst := some d, op := .call { callee := .builtin .min, args := #[x, y], argTypes := ats }, type := ty, pos := pos, after := after, guard := none } :: rest) a w :=
  wpList_plain rfl fun _ hK => by
    subst hr
    unfold Oper.wp
    simp [BigFrame.execOp_builtin, hx, hy, run_min_int2, Result.andThen, BigFrame.builtin_min]
    exact hK _ _ h

/-! ### a map's operations as one step of a region that draws its order -/
section
variable {H : Type} {P : Program} {w : World} {ops : Array Oper} {o : Oper} {a : Act} {K : Act → World → Prop} {Q : Exit → Act → World → Prop} {E : Prop}
theorem step_delete (hg : o.guard = none) (m x : Operand) (t k : TypeId) (hop : o.op = Op.call { callee := Callee.builtin Builtin.delete, args := #[m, x], argTypes := #[t, k] })
    (e : TypeId) (Kk : Go.Maps.Keyed P k) (ht : P.underlying t = some (.map k e)) (R : Value → Option (DataW H × List MemPlace)) (b n : Nat) (D : DataW H)
    (hm : a.eval m = .map (some b)) (hown : w.ownsMap P k R b n D) (key : Value) (kl : Lit) (hx : a.eval x = key) (hkey : keyOf P k key = some kl)
    (hK : ∀ w', w'.ownsMap P k R b n (D.del kl) → w.mapTurned w' b → K (a.put o.dst (.tuple #[])) w') :
    if Region.wanted o (yielded ops a.tmps) = true then Oper.wp P o a w K Q else E := by
  have hw : Region.wanted o (yielded ops a.tmps) = true := by simp [Region.wanted, hg]
  rw [if_pos hw]
  obtain ⟨w', hrun, r1, r2⟩ := hown.drop Kk ht hkey o.type
  unfold Oper.wp
  simp [execOp, hop, resolve, invoke, builtin, hm, hx, hrun, Result.andThen]
  exact hK w' r1 r2
theorem step_mapUpdate (hg : o.guard = none) (m x v : Operand) (t : TypeId) (hop : o.op = Op.mapUpdate t m x v)
    (k e : TypeId) (Kk : Go.Maps.Keyed P k) (ht : P.underlying t = some (.map k e)) (R : Value → Option (DataW H × List MemPlace)) (b n : Nat) (D : DataW H)
    (hm : a.eval m = .map (some b)) (hown : w.ownsMap P k R b n D) (hn : n < maxLen) (key val : Value) (kl : Lit) (hx : a.eval x = key) (hv : a.eval v = val) (hkey : keyOf P k key = some kl)
    (d : DataW H) (ps : List MemPlace) (hval : R val = some (d, ps))
    (hK : ∀ w', w'.ownsMap P k R b (n + 1) (D.put kl d) → w.mapTurned w' b → K (a.put o.dst undef) w') :
    if Region.wanted o (yielded ops a.tmps) = true then Oper.wp P o a w K Q else E := by
  have hw : Region.wanted o (yielded ops a.tmps) = true := by simp [Region.wanted, hg]
  rw [if_pos hw]
  obtain ⟨w', hrun, r1, r2⟩ := hown.store Kk ht hn hkey hval
  unfold Oper.wp
  simp [execOp, hop, hm, hx, hv, hrun, Result.andThen]
  exact hK w' r1 r2
end

end Go.Proofs.Ytddaiihhhajieaa
