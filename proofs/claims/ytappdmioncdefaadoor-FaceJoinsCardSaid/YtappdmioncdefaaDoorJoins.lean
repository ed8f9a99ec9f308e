/- Two texts, one behind the other: the plain law. -/
import Derived.Test.YtappdmioncdefaaDoorPure3
import Derived.Test.YtappdmioncdefaaDoorPure5
namespace Go.Proofs.YtappdmioncdefaaDoor.Q
open Go.RowKit Go.Proofs.YtappdmioncdefaaDoorW.PrintWords Go.Proofs.YtappdmioncdefaaDoorW.PrintLast Go.Proofs.YtappdmioncdefaaDoorW.PrintMore

theorem twR_iff (l : List ByteArray) : twR l = false ↔ l.Nodup := by
  induction l with
  | nil => simp [twR]
  | cons x r ih =>
    show (twR r || memB x r) = false ↔ _
    rw [Bool.or_eq_false_iff, ih, List.nodup_cons, ← memB_iff]
    cases memB x r <;> simp
def namesL (l : List S34) : List ByteArray := l.map fun x => x.f0
theorem twR_names (l : List S34) : twR (namesR l) = false ↔ (namesL l).Nodup := by
  rw [twR_iff]
  unfold namesR namesL
  unfold List.Nodup
  rw [List.pairwise_reverse]
  exact ⟨fun h => h.imp fun h e => h e.symm, fun h => h.imp fun h e => h e.symm⟩
/-- is the name among them? -/
def hasB (l : List S34) (nm : ByteArray) : Bool := (foundP l nm).2.2.2
theorem hasB_iff (l : List S34) (nm : ByteArray) : hasB l nm = true ↔ nm ∈ namesL l := by
  unfold hasB foundP namesL
  rw [List.mem_map]
  cases h : l.find? fun x => decide (x.f0 = nm) with
  | none =>
    have h' := List.find?_eq_none.1 h
    exact ⟨(fun h => by cases h), fun ⟨x, hx, e⟩ => absurd (decide_eq_true e) (h' x hx)⟩
  | some x =>
    have h1 := List.find?_some h
    have h2 := List.mem_of_find?_eq_some h
    exact ⟨fun _ => ⟨x, h2, of_decide_eq_true h1⟩, fun _ => rfl⟩
def twiceB (a b : List S34) : Bool := b.any fun x => hasB a x.f0
theorem joins_names {a b : List S34} (ha : twR (namesR a) = false) (hb : twR (namesR b) = false) : twR (namesR (a ++ b)) = twiceB a b := by
  rw [Bool.eq_iff_iff]
  have h1 := (twR_names a).1 ha
  have h2 := (twR_names b).1 hb
  have h3 := twR_names (a ++ b)
  have h4 : namesL (a ++ b) = namesL a ++ namesL b := List.map_append ..
  rw [h4, List.nodup_append] at h3
  constructor
  · intro h
    cases ht : twiceB a b with
    | true => rfl
    | false =>
      have : twR (namesR (a ++ b)) = false := h3.2 ⟨h1, h2, fun x hx y hy e => by
        subst e
        obtain ⟨z, hz, rfl⟩ := List.mem_map.1 hy
        unfold twiceB at ht
        rw [List.any_eq_false] at ht
        exact ht z hz ((hasB_iff a _).2 hx)⟩
      rw [this] at h; cases h
  · intro h
    unfold twiceB at h
    rw [List.any_eq_true] at h
    obtain ⟨z, hz, hh⟩ := h
    have hm := (hasB_iff a _).1 hh
    cases ht : twR (namesR (a ++ b)) with
    | true => rfl
    | false => exact absurd rfl ((h3.1 ht).2.2 _ hm _ (List.mem_map.2 ⟨z, hz, rfl⟩))
theorem textP_tw {l : List S34} {s : ByteArray} (h : textP l = (s, 0)) : twR (namesR l) = false := by
  unfold textP at h
  split at h
  · split at h
    · cases h
    · rename_i h1; exact Bool.eq_false_iff.2 h1
  · cases h
theorem textL_app (a b : List S34) : textL (a ++ b) = textL a ++ textL b := List.flatMap_append ..
theorem joins_read {a b : List S34} {s t : ByteArray} (ha : textP a = (s, 0)) (hb : textP b = (t, 0)) : readP (s ++ t) = if twiceB a b = true then ([], 6) else (a ++ b, 0) := by
  obtain ⟨a1, a2⟩ := textP_ok ha
  obtain ⟨b1, b2⟩ := textP_ok hb
  have htw := joins_names (textP_tw ha) (textP_tw hb)
  have hr : (a ++ b).all rightB = true := by rw [List.all_append, a1, b1]; rfl
  have hs : s ++ t = bytesOfL (textL (a ++ b)) := by rw [a2, b2, textL_app, app_L]
  have hl := textL_long (a ++ b)
  have hp : parseF ((s ++ t).size + 1) [] (s ++ t).data.toList = a ++ b := by
    rw [hs, bytesOfL_data, bytesOfL_size, parseF_back _ hr _ [] (by omega), List.nil_append]
  unfold readP
  rw [hp]
  unfold checkP
  by_cases h : twiceB a b = true
  · have hx : textP (a ++ b) = (ByteArray.empty, 9) := by unfold textP; rw [if_pos hr, htw, if_pos h]
    rw [hx, if_pos h, if_neg (by intro h; exact absurd h.1 (by decide))]
  · have hx : textP (a ++ b) = (bytesOfL (textL (a ++ b)), 0) := by unfold textP; rw [if_pos hr, htw, if_neg h]
    rw [hx, if_neg h, if_pos ⟨rfl, hs.symm⟩]
theorem textP_codes (l : List S34) : (textP l).2 = 0 ∨ ((textP l).2 = 6 ∨ (textP l).2 = 9) := by
  unfold textP
  split
  · split
    · exact .inr (.inr rfl)
    · exact .inl rfl
  · exact .inr (.inl rfl)
theorem textP_size {l : List S34} (h : lightB l = true) {s : ByteArray} (hs : textP l = (s, 0)) : s.size ≤ 14000 := by
  obtain ⟨h1, h2⟩ := textP_ok hs
  have := textL_small h1
  have := (lightB_says h).1
  rw [h2, bytesOfL_size]; omega
theorem twiceB_snoc (a b : List S34) (i : Nat) (h : i < b.length) : twiceB a (b.take (i + 1)) = (twiceB a (b.take i) || hasB a b[i].f0) := by
  unfold twiceB
  rw [List.take_succ_eq_append_getElem h, List.any_append]
  simp
end Go.Proofs.YtappdmioncdefaaDoor.Q
