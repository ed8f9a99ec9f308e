/- The log's need and unpack. -/
import Derived.Test.YtddaiihhhajieaaLogBlock
import Derived.Test.YtddaiihhhajieaaRefW4
namespace Go.Proofs.Ytddaiihhhajieaa
open Go.RowKit Go.Maps

def needN (n : Nat) : Nat := max ((n + 51) / 52) 1
set_option maxHeartbeats 1000000 in
theorem need_any (s : ByteArray) (hs : s.size < 9223372036854775000) (w : World) : Calls Try.prog 61 #[.string s] w fun e w' => e = .returned (.int .i64 (needN s.size : Int)) ∧ w = w' := by
  have g : (s.size : Int) < 9223372036854775000 := by omega
  have E1 := Lib.hid (show max (((s.size : Int) + 52 - 1) / 52) 1 = (needN s.size : Int) by unfold needN; omega)
  go_enter Try.func61, Try.ntmps61
  go_wp2_with fail
  go_ret
  exact ⟨by rw [← E1.out]; rfl, rfl⟩

/-- the records of bytes -/
def recs (s : ByteArray) : Option (List ByteArray) :=
  if h : s.size = 0 then some []
  else if s.size < 2 ∨ s.size - 2 < numB (s.extract 0 2) then none
  else (recs (s.extract (2 + numB (s.extract 0 2)) s.size)).map (s.extract 2 (2 + numB (s.extract 0 2)) :: ·)
termination_by s.size
decreasing_by simp; omega

theorem Try.info9 : (Try.prog.info? 9).map (fun i => (i.zero, i.size, i.bytes)) = some (some (.string ByteArray.empty), 1, 16) := by kernel_rfl
def strsV (l : List ByteArray) : List Value := l.map Value.string

/-- what unpack leaves -/
def Unpacked (w : World) (o : Option (List ByteArray)) (e : Ending) (w' : World) : Prop :=
  Below w.heap.size w w' ∧ match o with
  | none => e = .returned (.tuple #[.slice none 0 0, .bool false])
  | some l => ∃ v, e = .returned (.tuple #[v, .bool true]) ∧ w'.ownsRow w.heap.size 9 1 v l.length (strsV l)

set_option maxHeartbeats 2000000 in
set_option maxRecDepth 20000 in
theorem unpack_any (s : ByteArray) (hs : s.size < 1099511627776) (w : World) : Calls Try.prog 84 #[.string s] w (Unpacked w (recs s)) := by
  obtain ⟨i0, hi, hz0, hz1, hz2⟩ := info_parts Try.info9
  obtain ⟨R, hR⟩ : ∃ R, R = recs s := ⟨_, rfl⟩
  rw [← hR]
  have HN := Lib.hid number_any
  go_enter Try.func84, Try.ntmps84
  go_wp2
  go_loopw [0, 4] (fun sv ov wr => ∃ t acc, sv = .string t ∧ wr.ownsRow w.heap.size 9 1 ov acc.length (strsV acc) ∧ Below w.heap.size w wr ∧ R = (recs t).map (acc ++ ·) ∧ acc.length + t.size ≤ s.size) (fun sv _ _ => match sv with | .string t => t.size | _ => 0)
  case atStart => exact ⟨s, [], rfl, ⟨rfl, .inl ⟨rfl, rfl⟩⟩, Below.refl _ _, by rw [hR]; cases recs s <;> simp, by simp⟩
  case round =>
    obtain ⟨t, acc, rfl, hown, hbel, hRt, hlen⟩ := hrel
    by_cases h0 : t.size = 0
    · have hz : t = ⟨#[]⟩ := bytes_empty h0
      subst hz
      have hR2 : R = some acc := by rw [hRt, recs, dif_pos h0]; simp
      obtain ⟨A, c, hv, _⟩ := own_form hown
      have K : Hid (∀ u, u = (.tuple #[.slice A acc.length c, .bool true] : Value) → Unpacked w R (.returned u) wr) := by
        rintro u rfl
        exact ⟨hbel, by rw [hR2]; exact ⟨_, rfl, hv ▸ hown⟩⟩
      clear hown hbel hRt hR2 hR
      subst hv
      go_wp2
      go_ret2
      exact K.out _ rfl
    · have hz1' : t.toList.isEmpty = false := toList_ne_nil h0
      by_cases h1 : t.size < 2
      · have hR2 : R = none := by rw [hRt, recs, dif_neg h0, if_pos (.inl h1)]; rfl
        have K : Hid (Unpacked w R (.returned (.tuple #[.slice none 0 0, .bool false])) wr) := ⟨hbel, by rw [hR2]⟩
        clear hown hbel hRt hR2 hR
        have h1' : (t.size : Int) < 2 := by omega
        go_wp2
        go_ret2
        exact K.out
      · have hN := number_any (t.extract 0 2) (by simp; omega)
        obtain ⟨n, hn⟩ : ∃ n, n = numB (t.extract 0 2) := ⟨_, rfl⟩
        rw [← hn] at hN
        have HNN := Lib.hid hN
        have h1' : ¬ (t.size : Int) < 2 := by omega
        have h2' : decide ((t.size : Int) < 2) = false := decide_eq_false h1'
        by_cases h2 : t.size - 2 < n
        · have hR2 : R = none := by rw [hRt, recs, dif_neg h0, if_pos (.inr (by rw [← hn]; exact h2))]; rfl
          have K : Hid (Unpacked w R (.returned (.tuple #[.slice none 0 0, .bool false])) wr) := ⟨hbel, by rw [hR2]⟩
          have h3 : (t.size : Int) - 2 < n := by omega
          clear hown hbel hRt hR2 hR hN hn
          go_wp2_with (go_at_call 58; refine (HNN.out _).mono ?_; rintro e1 w1 ⟨rfl, rfl⟩)
          go_ret2
          exact K.out
        · have hR2 : R = (recs (t.extract (2 + n) t.size)).map ((acc ++ [t.extract 2 (2 + n)]) ++ ·) := by
            rw [hRt, recs, dif_neg h0, if_neg (by rw [← hn]; omega), ← hn]
            cases recs (t.extract (2 + n) t.size) <;> simp
          have h3 : ¬ (t.size : Int) - 2 < n := by omega
          have k1 : (2 : Int) + n ≤ t.size := by omega
          have k2 : (2 : Int) ≤ t.size := by omega
          have k3 : (0 : Int) ≤ (n : Int) := by omega
          have h63 : acc.length + 1 ≤ maxLen := by unfold maxLen; omega
          have hby : (acc.length + 1) * 16 ≤ 140737488355328 := by omega
          have hsz : w.heap.size ≤ wr.heap.size := hbel.size
          obtain ⟨A, c, hv, hcc⟩ := own_form hown
          subst hv
          have HO := Lib.hid hown
          have HB := Lib.hid hbel
          have HR := Lib.hid hR2
          have HL := Lib.hid hlen
          have HP := Lib.hid (⟨h63, hby, hsz⟩ : _ ∧ _ ∧ _)
          have g1 : n < 1099511627776 := by omega
          have g2 : t.size < 1099511627776 := by omega
          have H0 := Lib.hid h0
          clear hown hbel hRt hR2 hR hN hn hlen h63 hby hsz h2 h0 h1
          go_wp2_with (first | (go_at_call 58; refine (HNN.out _).mono ?_; rintro e1 w1 ⟨rfl, rfl⟩) | (at_builtin; refine wpList_append_own_at _ rfl (.tmp 23) (.tmp 28) 51 rfl w.heap.size 9 i0 _ 1 16 Try.underlying51 hi hz0 hz1 hz2 rfl (by decide) _ acc.length _ rfl (HO.out.alloc _) ⟨wr.heap.size, 0, none⟩ 1 1 [.string (t.extract 2 (2 + n))] rfl rfl ?c1 ?c2 HP.out.1 HP.out.2.1 ?c5 ?_))
          case c1 => exact cell_one_new _ _ _
          case c2 => intro u hu; simp at hu; subst hu; rfl
          case c5 => have := HP.out.2.2; simp; omega
          intro v' w3 ho3 hg3 _ hl3
          have hb3 : Below w.heap.size w w3 := ((((Moves.refl w noFoot).below HB.out).alloc _).grown hg3 (fun k hk => .inr ((HO.out.lt k hk).1))).toBelow (Nat.le_refl _) (fun _ hk => hk.elim)
          have ho4 : w3.ownsRow w.heap.size 9 1 v' (acc ++ [t.extract 2 (2 + n)]).length (strsV (acc ++ [t.extract 2 (2 + n)])) := by
            rw [List.length_append]; unfold strsV; rw [List.map_append]; exact ho3
          obtain ⟨A', c', hv', _⟩ := own_form ho3
          have HB3 := Lib.hid hb3
          have HO4 := Lib.hid ho4
          clear ho3 hg3 hl3 hb3 ho4
          subst hv'
          go_wp2_with fail
          go_roundw
          case rel => exact ⟨_, acc ++ [t.extract 2 (2 + n)], rfl, by rw [List.length_append] at HO4 ⊢; exact HO4.out, HB3.out, HR.out, by have := HL.out; have := H0.out; rw [List.length_append]; simp; omega⟩
          case measure => have := H0.out; simp; omega
end Go.Proofs.Ytddaiihhhajieaa
