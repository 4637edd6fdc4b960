/- Joined texts of the claim DrivePlans (part 42): contracts of functions and plain laws. -/
import Derived.BigQuiet
import Derived.ChangeAlike
import Derived.Deep.QuietTactic
import Derived.RegionTactic
import Derived.Test.YtkennobdoldlkaaJDrivePlans31
section
/- ferruleref11.Fits, as the printed texts call it. -/
namespace Go.Proofs.Ytkennobdoldlkaa.PAll
open Go.RowKit Go.Proofs.YtkennobdoldlkaaW.PrintWords Go.Proofs.Ytkennobdoldlkaa
set_option linter.unusedVariables false
def ferruleref11_Fits.f (l0 : List S74) : Option Int := some (fitsV l0)
theorem size_pos (s : ByteArray) : ((0 : Int) < s.size) = (¬ s.toList = []) := propext (by
  have : s.toList.length = s.size := by rw [ByteArray.toList_eq, Array.length_toList]; rfl
  constructor
  · intro h e; rw [e] at this; simp at this; omega
  · intro h
    cases hl : s.toList with
    | nil => exact absurd hl h
    | cons a r => rw [hl] at this; simp at this; omega)
theorem bad_iff (x : S74) : badPut x = true ↔ ((x.f0.size : Int) < 1 ∨ (16 : Int) < x.f0.size ∨ (32 : Int) < x.f1.size ∨ (x.f2 = true ∧ (0 : Int) < x.f1.size)) := by
  have e32 : ((32 : Int) < (x.f1.size : Int)) = (32 < x.f1.size) := propext (by omega)
  have e16 : ((16 : Int) < (x.f0.size : Int)) = (16 < x.f0.size) := propext (by omega)
  have e1 : ((x.f0.size : Int) < 1) = (¬ 1 ≤ x.f0.size) := propext (by omega)
  unfold badPut
  rw [e32, e16, e1, size_pos]
  by_cases h1 : 1 ≤ x.f0.size <;> by_cases h2 : x.f0.size ≤ 16 <;> simp [h1, h2] <;> omega
/-- The first j puts have no such key. -/
theorem hasKey_take (l : List S74) (s : ByteArray) (k : Nat) (hk : k < l.length) : hasKey (l.take (k + 1)) s = (hasKey (l.take k) s || (l[k]!).f0.toList == s.toList) := by
  rw [List.take_succ_eq_append_getElem hk]
  unfold hasKey
  rw [List.any_append, getElem!_pos l k hk]
  simp
theorem hasKey_mono (l : List S74) (s : ByteArray) (k j : Nat) (hkj : k ≤ j) (h : hasKey (l.take k) s = true) : hasKey (l.take j) s = true := by
  unfold hasKey at h ⊢
  rw [List.any_eq_true] at h ⊢
  obtain ⟨x, hx, h⟩ := h
  have : l.take k = (l.take j).take k := by rw [List.take_take, Nat.min_eq_left hkj]
  rw [this] at hx
  exact ⟨x, List.mem_of_mem_take hx, h⟩
set_option maxRecDepth 100000 in
set_option maxHeartbeats 4000000 in
theorem ferruleref11_Fits.calls (A0 : Option Addr) (c0 : Nat) (l0 : List S74) (r : Int) (w : World) (hr0 : Kd.C k74 w A0 l0.length l0) (hc0 : l0.length ≤ c0) (h : ferruleref11_Fits.f l0 = some r) :
    Calls Try.prog 46 #[.slice A0 l0.length c0] w fun e w' => e = .returned (.int .i64 r) ∧ Below w.heap.size w w' := by
  obtain rfl := Option.some.inj h
  have HR := Aside0.mk hr0
  clear h hr0
  by_cases hbig : 8 < l0.length
  · have hv : fitsV l0 = 4 := by unfold fitsV; rw [if_pos hbig]
    rw [hv]
    have hbigz : (8 : Int) < (l0.length : Int) := by omega
    go_enter Try.func46, Try.ntmps46
    go_wp2
    go_ret
    exact ⟨rfl, Below.refl _ _⟩
  · have hv : fitsV l0 = fitsGo (l0.drop 0) (l0.take 0) := by unfold fitsV; rw [if_neg hbig, List.drop_zero, List.take_zero]
    rw [hv]
    have hbigz : ¬ (8 : Int) < (l0.length : Int) := by omega
    generalize hr : fitsGo (l0.drop 0) (l0.take 0) = r
    go_enter Try.func46, Try.ntmps46
    go_wp2
    go_loopw [3] (fun i wr => ∃ j : Nat, j ≤ l0.length ∧ i = .int .i64 j ∧ Aside0 (fitsGo (l0.drop j) (l0.take j) = r) ∧ Aside0 (Below w.heap.size w wr)) (fun i _ => l0.length - (intOf i).toNat)
    case atStart => exact ⟨0, Nat.zero_le _, rfl, ⟨hr⟩, ⟨Below.refl _ _⟩⟩
    case round =>
      obtain ⟨j, hj, rfl, HF, HB⟩ := hrel
      obtain ⟨wo, hwo⟩ : ∃ wo, wo = wr := ⟨wr, rfl⟩
      subst hwo
      by_cases hlt : j < l0.length
      · have hltz : (j : Int) < (l0.length : Int) := by omega
        obtain ⟨b, o, rfl, hrow⟩ := C_row HR.out (by decide) (by omega)
        have hkey : ∀ k, k < l0.length → ∀ W, Below w.heap.size w W → W.cell? ⟨b, o + k * 3, none⟩ = some (.string (l0[k]!).f0) ∧ W.cell? ⟨b, o + k * 3 + 1, none⟩ = some (.string (l0[k]!).f1) ∧ W.cell? ⟨b, o + k * 3 + 2, none⟩ = some (.bool (l0[k]!).f2) := fun k hk W hW => by
          obtain ⟨cs, hcs, hK, hrg⟩ := hrow k hk
          obtain rfl := flat74.openK _ _ _ hK
          have h0 : w.cell? ⟨b, o + k * 3, none⟩ = some (.string (l0[k]!).f0) := hrg 0 _ rfl
          have hbl := World.block_lt_of_cell? w _ h0
          exact ⟨(hW.cell (p := ⟨b, o + k * 3, none⟩) hbl).trans h0, (hW.cell (p := ⟨b, o + k * 3 + 1, none⟩) hbl).trans (hrg 1 _ rfl), (hW.cell (p := ⟨b, o + k * 3 + 2, none⟩) hbl).trans (hrg 2 _ rfl)⟩
        obtain ⟨hc0_, hc1_, hc2_⟩ := hkey j hlt wo HB.out
        have HKEY := Aside0.mk hkey
        have HS := Aside0.mk (fitsGo_step l0 j hlt)
        clear hrow hkey
        generalize hxx : l0[j]! = x at *
        have HBAD := Aside0.mk (bad_iff x)
        have HX := Aside0.mk ((MapKept.heap_alloc wo (.cells #[.string x.f0, .string x.f1, .bool x.f2] 74)).1)
        go_wp2
        all_goals first
          | (have hb : badPut x = true := HBAD.out.2 (by first | (exact .inl (by omega)) | (exact .inr (.inl (by omega))) | (exact .inr (.inr (.inl (by omega)))) | (exact .inr (.inr (.inr ⟨by assumption, by omega⟩))))
             have e : r = 1 := by rw [← HF.out, HS.out, hb]; rfl
             subst e
             go_ret
             exact ⟨rfl, HB.out.alloc HB.out.size _⟩)
          | (have hnb : Aside0 (badPut x = false) := ⟨by
               rw [Bool.eq_false_iff]
               intro hb
               rcases HBAD.out.1 hb with h | h | h | ⟨h1, h2⟩
               · omega
               · omega
               · omega
               · first | omega | exact absurd h1 (by assumption)⟩
             clear HX
             go_loopw [5] (fun kv wr2 => ∃ k : Nat, k ≤ j ∧ kv = .int .i64 k ∧ Aside0 (hasKey (l0.take k) x.f0 = false) ∧ Aside0 (Below w.heap.size w wr2) ∧ wo.heap.size < wr2.heap.size ∧ Aside0 (∃ g, wr2.heap[wo.heap.size]? = some (.cells #[.string x.f0, .string x.f1, g] 74))) (fun kv _ => j - (intOf kv).toNat)
             case atStart => exact ⟨0, Nat.zero_le _, rfl, ⟨by simp [hasKey]⟩, ⟨HB.out.alloc HB.out.size _⟩, by simp, ⟨_, (MapKept.heap_alloc wo _).1⟩⟩
             case round =>
               obtain ⟨k, hk, rfl, HH, HB2, hs2, HG⟩ := hrel
               by_cases hkl : k < j
               · have hklz : (k : Int) < (j : Int) := by omega
                 obtain ⟨g, hg⟩ := HG.out
                 have hx0 : wr.cell? ⟨wo.heap.size, 0, none⟩ = some (.string x.f0) := cell_at hg rfl
                 obtain ⟨hk0, _, _⟩ := HKEY.out k (by omega) wr HB2.out
                 have HT := Aside0.mk (hasKey_take l0 x.f0 k (by omega))
                 generalize (l0[k]!).f0 = y at *
                 clear hg
                 go_wp2
                 go_region
                 all_goals go_wp2
                 all_goals first
                   | (have hy : (y.toList == x.f0.toList) = true := by assumption
                      have h1 : hasKey (l0.take j) x.f0 = true := hasKey_mono _ _ (k + 1) j (by omega) (by rw [HT.out, hy, Bool.or_true])
                      have e : r = 1 := by rw [← HF.out, HS.out, h1, Bool.or_true]; rfl
                      subst e
                      go_ret
                      exact ⟨rfl, HB2.out.drew⟩)
                   | (have hy : (y.toList == x.f0.toList) = false := by assumption
                      exact ⟨⟨k + 1, by omega, by simp, ⟨by rw [HT.out, HH.out, hy]; rfl⟩, ⟨HB2.out.drew⟩, by simpa using hs2, ⟨HG.out⟩⟩, by simp [intOf]; omega⟩)
               · obtain rfl : k = j := by omega
                 go_wp2
                 go_roundw
                 case rel => exact ⟨k + 1, by omega, by simp, ⟨by rw [← HF.out, HS.out, hnb.out, HH.out]; rfl⟩, ⟨HB2.out⟩⟩
                 case measure => simp [intOf]; omega)
      · obtain rfl : j = l0.length := by omega
        go_wp2
        go_ret
        have hf := HF.out
        rw [List.drop_length] at hf
        have h0 : (0 : Int) = r := hf
        subst h0
        exact ⟨rfl, HB.out⟩
end Go.Proofs.Ytkennobdoldlkaa.PAll
end
