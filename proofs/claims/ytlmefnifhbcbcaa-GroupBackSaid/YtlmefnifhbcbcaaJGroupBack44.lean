/- Joined texts of the claim GroupBack (part 44): contracts of functions and plain laws. -/
import Derived.ChangeAlike
import Derived.Test.YtlmefnifhbcbcaaJGroupBack14
import Derived.Test.YtlmefnifhbcbcaaJGroupBack43
section
/- strings.Builder, only written: what else lies in memory stays. -/
namespace Go.Proofs.Ytlmefnifhbcbcaa
open Go.RowKit Go.Proofs.YtlmefnifhbcbcaaW.PrintWords
set_option linter.unusedVariables false
set_option maxHeartbeats 1000000 in
set_option maxRecDepth 100000 in
theorem copyCheck3 (B b : Nat) (bs : List Value) (w : World) (h : Lib.IsBuilder 123 5 B b bs w) :
    Calls Try.prog 108 #[.pointer (some ⟨b, 0, none⟩)] w fun e w' => e = .returned (.tuple #[]) ∧ (Lib.BuilderAt 123 5 B b (.pointer (some ⟨b, 0, none⟩)) bs w' ∧ Below B w w') ∧ ∀ k, k ≠ b → w'.heap[k]? = w.heap[k]? := by
  rcases h with h | h
  · refine (copyCheck_fresh b w h.cell0 h.shape h.frozen0).mono ?_
    rintro e w' ⟨rfl, rfl⟩
    exact ⟨rfl, ⟨h.used _, (Below.refl B w).setCell (p := ⟨b, 0, none⟩) h.1 _⟩, fun k hk => Below.heap_setCell w ⟨b, 0, none⟩ _ k hk⟩
  · refine (copyCheck_used b w h.cell0).mono ?_
    rintro e w' ⟨rfl, rfl⟩
    exact ⟨rfl, ⟨h, Below.refl B _⟩, fun k hk => rfl⟩
set_option maxHeartbeats 2000000 in
set_option maxRecDepth 100000 in
theorem WriteString3 (B b : Nat) (bs : List Value) (s : ByteArray) (w : World) (h : Lib.IsBuilder 123 5 B b bs w) (hlen : bs.length + s.size ≤ 140737488355328) (hBw : B ≤ w.heap.size) :
    Calls Try.prog 89 #[.pointer (some ⟨b, 0, none⟩), .string s] w fun e w' => e = .returned (.tuple #[.int .i64 s.size, .nilIface]) ∧ (Lib.BuilderAt 123 5 B b (.pointer (some ⟨b, 0, none⟩)) (bs ++ Lib.strCells s) w' ∧ Below B w w') ∧ (∀ k, k < w.heap.size → k ≠ b → (∀ cur, w.heap[k]? ≠ some (.cells cur 5 (0, 0))) → w'.heap[k]? = w.heap[k]?) ∧ w.heap.size ≤ w'.heap.size := by
  obtain ⟨i0, hi, hz0, hz1, hz2⟩ := info_parts infoByte
  go_enter Try.func89, Try.ntmps89
  go_wp2_with (go_at_call 108; refine (copyCheck3 B b bs _ h).mono ?_)
  rintro e w1 ⟨rfl, ⟨h1, hb1⟩, hk1⟩
  obtain ⟨hB, v, hbk, hown, hne⟩ := h1
  have hsz1 : w.heap.size ≤ w1.heap.size := hb1.size
  have c0 : w1.cell? ⟨b, 0, none⟩ = some (.pointer (some ⟨b, 0, none⟩)) := by rw [Lib.cell_of_heap hbk]; rfl
  have c1 : w1.cell? ⟨b, 1, none⟩ = some v := by rw [Lib.cell_of_heap hbk]; rfl
  go_wp2_with (at_builtin; refine Lib.wpList_append_own_string _ rfl _ _ 121 9 rfl B 5 i0 Try.underlying121 Try.underlying9 hi hz0 hz1 hz2 _ _ _ rfl hown s rfl ?c3 ?c4 ?c5 ?_)
  case c3 => unfold maxLen; omega
  case c4 => omega
  case c5 => have := hb1.size; omega
  intro v' w2 hown' hgrow _
  have hlt : b < w1.heap.size := by
    rcases Nat.lt_or_ge b w1.heap.size with h' | h'
    · exact h'
    · simp [Array.getElem?_eq_none h'] at hbk
  have hb2 : w2.heap[b]? = some (.cells #[.pointer (some ⟨b, 0, none⟩), v] 123 (0, 0)) := by
    rw [hgrow.block b hlt (fun e => hne e.symm)]
    exact hbk
  have d0 : w2.cell? ⟨b, 0, none⟩ = some (.pointer (some ⟨b, 0, none⟩)) := by rw [Lib.cell_of_heap hb2]; rfl
  have d1 : w2.cell? ⟨b, 1, none⟩ = some v := by rw [Lib.cell_of_heap hb2]; rfl
  have f1 : w2.frozen? ⟨b, 1, none⟩ = false := Lib.frozen_of_heap hb2 1
  obtain ⟨ao, n', cap, rfl⟩ : ∃ ao n' cap, v' = .slice ao n' cap := by
    rcases hown'.2 with ⟨hv, _⟩ | ⟨g, cap, cur, hv, _⟩
    · exact ⟨_, _, _, hv⟩
    · exact ⟨_, _, _, hv⟩
  go_wp2
  go_ret2
  refine ⟨rfl, ⟨?_, ?_⟩, fun k hk hkb hty => ?_, ?_⟩
  · exact Lib.BuilderAt.put (T := 123) (e := 5) hB hb2 (bs' := bs ++ Lib.strCells s) (by simpa [Lib.strCells_length] using hown') (by decide)
  · exact (hb1.grown hgrow (by have := hb1.size; omega) (fun k hk => (hown.lt k hk).1)).setCell (p := ⟨b, 1, none⟩) hB _
  · refine (Below.heap_setCell w2 ⟨b, 1, none⟩ _ k hkb).trans ((hgrow.block k (Nat.lt_of_lt_of_le hk hsz1) ?_).trans (hk1 k hkb))
    intro e
    rcases hown.2 with ⟨hv, _⟩ | ⟨g, cap, cur, hv, _, hg, _⟩
    · rw [hv] at e; simp [Value.ownBlock] at e
    · rw [hv] at e
      have : k = g := by simpa [Value.ownBlock] using e
      subst this
      exact hty cur ((hk1 k hkb).symm.trans hg)
  · have h1 := hgrow.size
    have h2 := (Below.setCell (Below.refl 0 w2) (p := ⟨b, 1, none⟩) (Nat.zero_le _) (.slice ao n' cap)).size
    omega
theorem cell_same {w w' : World} {g o : Nat} (h : w'.heap[g]? = w.heap[g]?) : w'.cell? ⟨g, o, none⟩ = w.cell? ⟨g, o, none⟩ := by
  simp [World.cell?, h]
end Go.Proofs.Ytlmefnifhbcbcaa
end
