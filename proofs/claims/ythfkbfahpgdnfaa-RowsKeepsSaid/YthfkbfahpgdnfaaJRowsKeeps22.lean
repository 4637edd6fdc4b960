/- Joined texts of the claim RowsKeeps (part 22): contracts of functions and plain laws. -/
import Derived.Test.YthfkbfahpgdnfaaJRowsKeeps16
import Derived.Test.YthfkbfahpgdnfaaJRowsKeeps18
import Derived.WalkLawsBesides
section
/- Contracts of slices.Clone, slices.IndexFunc at rows, and of rows.at, as the printed texts call them; the closures of rows.at and rows.Do. -/
namespace Go.Proofs.Ythfkbfahpgdnfaa.PAll
open Go.RowKit Go.Proofs.YthfkbfahpgdnfaaW.PrintWords Go.Proofs.Ythfkbfahpgdnfaa
set_option linter.unusedVariables false
def api_Row_57.f (l0 : List S64) : Option (List S64) := if l0.length < 3518437208883 then some l0 else none
theorem api_Row_57.calls (A0 : Option Addr) (c0 : Nat) (l0 : List S64) (r : List S64) (w : World) (hr0 : Kd.C k64 w A0 l0.length l0) (hc0 : l0.length ≤ c0) (h : api_Row_57.f l0 = some r) :
    Calls Try.prog 57 #[.slice A0 l0.length c0] w fun e w' => ∃ v0_ : Value, e = .returned (v0_) ∧ Kd.R k64 64 w' w.heap.size (fun _ => True) v0_ r ∧ Below w.heap.size w w' := by
  unfold api_Row_57.f at h
  split at h
  · obtain rfl := Option.some.inj h
    refine (CloneRow _ (l0.map enc64) w (flat64.sl ⟨A0, c0, rfl, hc0, hr0⟩) (by rw [List.length_map]; omega)).mono ?_
    rintro e w' ⟨v, he, ho, hb⟩
    exact ⟨v, he, flat64.R ho (fun _ _ => trivial), hb⟩
  · cases h
theorem rowsAt1 (B : Nat) (text : ByteArray) (x : S64) (W : World) (hB : W.cell? ⟨B, 0, none⟩ = some (.string text)) :
    Calls Try.prog 76 #[.agg (enc64 x).toArray, .pointer (some ⟨B, 0, none⟩)] W fun e W' => e = .returned (.bool (x.f0.toList == text.toList)) ∧ Below W.heap.size W W' := by
  unfold enc64
  have hlt := World.block_lt_of_cell? W _ hB
  have hc : (W.alloc (.cells #[.string x.f0, .string x.f1, .int .u64 x.f2] 64)).cell? ⟨B, 0, none⟩ = some (.string text) := (Below.cell ((Below.refl _ W).alloc (Nat.le_refl _) _) hlt).trans hB
  go_enter Try.func76, Try.ntmps76
  go_wp2
  go_ret
  exact ⟨rfl, (Below.refl _ W).alloc (Nat.le_refl _) _⟩
theorem rowsDo1 (B : Nat) (text : ByteArray) (x : S64) (W : World) (hB : W.cell? ⟨B, 0, none⟩ = some (.string text)) :
    Calls Try.prog 59 #[.agg (enc64 x).toArray, .pointer (some ⟨B, 0, none⟩)] W fun e W' => e = .returned (.bool (x.f0.toList == text.toList)) ∧ Below W.heap.size W W' := by
  unfold enc64
  have hlt := World.block_lt_of_cell? W _ hB
  have hc : (W.alloc (.cells #[.string x.f0, .string x.f1, .int .u64 x.f2] 64)).cell? ⟨B, 0, none⟩ = some (.string text) := (Below.cell ((Below.refl _ W).alloc (Nat.le_refl _) _) hlt).trans hB
  go_enter Try.func59, Try.ntmps59
  go_wp2
  go_ret
  exact ⟨rfl, (Below.refl _ W).alloc (Nat.le_refl _) _⟩
theorem rowsDo2 (B : Nat) (text : ByteArray) (x : S64) (W : World) (hB : W.cell? ⟨B, 0, none⟩ = some (.string text)) :
    Calls Try.prog 62 #[.agg (enc64 x).toArray, .pointer (some ⟨B, 0, none⟩)] W fun e W' => e = .returned (.bool (!Op.bytesLess x.f0.toList text.toList && !x.f0.toList == text.toList)) ∧ Below W.heap.size W W' := by
  unfold enc64
  have hlt := World.block_lt_of_cell? W _ hB
  have hc : (W.alloc (.cells #[.string x.f0, .string x.f1, .int .u64 x.f2] 64)).cell? ⟨B, 0, none⟩ = some (.string text) := (Below.cell ((Below.refl _ W).alloc (Nat.le_refl _) _) hlt).trans hB
  go_enter Try.func62, Try.ntmps62
  go_wp2
  go_ret
  exact ⟨rfl, (Below.refl _ W).alloc (Nat.le_refl _) _⟩
def rows_at.f (l0 : List S64) (a1 : ByteArray) : Option Int := some (findI (fun x : S64 => x.f0.toList == a1.toList) l0)
theorem rows_at_sl (v : Value) (l0 : List S64) (a1 : ByteArray) (w : World) (hv : Sl k64 w v l0) :
    Calls Try.prog 60 #[v, .string a1] w fun e w' => e = .returned (.int .i64 (findI (fun x : S64 => x.f0.toList == a1.toList) l0)) ∧ Below w.heap.size w w' := by
  have HV := Aside0.mk hv
  clear hv
  go_enter Try.func60, Try.ntmps60
  have hcell : (w.alloc (.cells #[.string a1] 9)).cell? ⟨w.heap.size, 0, none⟩ = some (.string a1) := cell_row (cs := [.string a1]) (heap_alloc_new w _) 0
  have HP := Aside0.mk (show Pred Try.prog 76 #[.pointer (some ⟨w.heap.size, 0, none⟩)] (fun cs => .agg cs.toArray) k64 (w.alloc (.cells #[.string a1] 9)) l0 (fun x => x.f0.toList == a1.toList) from fun W x cs hb _ hK => by
    obtain rfl := flat64.openK _ _ _ hK
    exact rowsAt1 w.heap.size a1 x W ((hb.cell (World.block_lt_of_cell? _ _ hcell)).trans hcell))
  clear hcell
  go_wp2_with (go_at_call 61; refine (IndexFuncRow k64 rfl (fun x => x.f0.toList == a1.toList) 76 #[.pointer (some ⟨w.heap.size, 0, none⟩)] (enters_of Try.func76 (by kernel_rfl) rfl) v l0 _ (HV.out.below ((Below.refl _ w).alloc (Nat.le_refl _) _)) HP.out).mono ?_; rintro e w2 ⟨rfl, hb2⟩)
  go_ret
  exact ⟨rfl, ((Below.refl _ w).alloc (Nat.le_refl _) _).trans (hb2.mono (by simp))⟩
theorem rows_at.calls (A0 : Option Addr) (c0 : Nat) (l0 : List S64) (a1 : ByteArray) (r : Int) (w : World) (hr0 : Kd.C k64 w A0 l0.length l0) (hc0 : l0.length ≤ c0) (h : rows_at.f l0 a1 = some r) :
    Calls Try.prog 60 #[.slice A0 l0.length c0, .string a1] w fun e w' => e = .returned (.int .i64 r) ∧ Below w.heap.size w w' := by
  obtain rfl := Option.some.inj h
  exact rows_at_sl _ l0 a1 w ⟨A0, c0, rfl, hc0, hr0⟩
end Go.Proofs.Ythfkbfahpgdnfaa.PAll
end
