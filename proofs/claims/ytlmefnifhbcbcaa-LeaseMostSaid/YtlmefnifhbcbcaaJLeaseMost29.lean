/- Joined texts of the claim LeaseMost (part 29): contracts of functions and plain laws. -/
import Derived.Test.YtlmefnifhbcbcaaJLeaseMost23
import Derived.Test.YtlmefnifhbcbcaaJLeaseMost28
import Derived.WalkLawsBesides
section
/- Groups: slices.Clone of marks and of numbers, and the place of a node's mark, as the printed texts call them. -/
namespace Go.Proofs.Ytlmefnifhbcbcaa.PAll
open Go.RowKit Go.Proofs.YtlmefnifhbcbcaaW.PrintWords Go.Proofs.Ytlmefnifhbcbcaa
set_option linter.unusedVariables false
def api_Mark_68.f (l0 : List S39) : Option (List S39) := if l0.length < 8796093022208 then some l0 else none
theorem api_Mark_68.calls (A0 : Option Addr) (c0 : Nat) (l0 : List S39) (r : List S39) (w : World) (hr0 : Kd.C k39 w A0 l0.length l0) (hc0 : l0.length ≤ c0) (h : api_Mark_68.f l0 = some r) :
    Calls Try.prog 68 #[.slice A0 l0.length c0] w fun e w' => ∃ v0_ : Value, e = .returned (v0_) ∧ Kd.R k39 39 w' w.heap.size (fun _ => True) v0_ r ∧ Below w.heap.size w w' := by
  unfold api_Mark_68.f at h
  split at h
  · obtain rfl := Option.some.inj h
    refine (CloneMark _ (l0.map enc39) w (flat39.sl ⟨A0, c0, rfl, hc0, hr0⟩) (by rw [List.length_map]; omega)).mono ?_
    rintro e w' ⟨v, he, ho, hb⟩
    exact ⟨v, he, flat39.R ho (fun _ _ => trivial), hb⟩
  · cases h
theorem groupOf1 (B : Nat) (id : Int) (x : S39) (W : World) (hB : W.cell? ⟨B, 0, none⟩ = some (.int .u64 id)) :
    Calls Try.prog 86 #[.agg (enc39 x).toArray, .pointer (some ⟨B, 0, none⟩)] W fun e W' => e = .returned (.bool (x.f0 == id)) ∧ Below W.heap.size W W' := by
  unfold enc39
  have hlt := World.block_lt_of_cell? W _ hB
  have hc : (W.alloc (.cells #[.int .u64 x.f0, .int .u64 x.f1] 39)).cell? ⟨B, 0, none⟩ = some (.int .u64 id) := (Below.cell ((Below.refl _ W).alloc (Nat.le_refl _) _) hlt).trans hB
  go_enter Try.func86, Try.ntmps86
  go_wp2
  go_ret
  exact ⟨rfl, (Below.refl _ W).alloc (Nat.le_refl _) _⟩
def group_of.f (l0 : List S39) (a1 : Int) : Option Int := some (findI (fun x : S39 => x.f0 == a1) l0)
theorem group_of.calls (A0 : Option Addr) (c0 : Nat) (l0 : List S39) (a1 : Int) (r : Int) (w : World) (hr0 : Kd.C k39 w A0 l0.length l0) (hc0 : l0.length ≤ c0) (h : group_of.f l0 a1 = some r) :
    Calls Try.prog 67 #[.slice A0 l0.length c0, .int .u64 a1] w fun e w' => e = .returned (.int .i64 r) ∧ Below w.heap.size w w' := by
  obtain rfl := Option.some.inj h
  have HV := Aside0.mk (show Sl k39 w (.slice A0 l0.length c0) l0 from ⟨A0, c0, rfl, hc0, hr0⟩)
  clear hr0 hc0 h
  go_enter Try.func67, Try.ntmps67
  have hcell : (w.alloc (.cells #[.int .u64 a1] 22)).cell? ⟨w.heap.size, 0, none⟩ = some (.int .u64 a1) := cell_row (cs := [.int .u64 a1]) (heap_alloc_new w _) 0
  have HP := Aside0.mk (show Pred Try.prog 86 #[.pointer (some ⟨w.heap.size, 0, none⟩)] (fun cs => .agg cs.toArray) k39 (w.alloc (.cells #[.int .u64 a1] 22)) l0 (fun x => x.f0 == a1) from fun W x cs hb _ hK => by
    obtain rfl := flat39.openK _ _ _ hK
    exact groupOf1 w.heap.size a1 x W ((hb.cell (World.block_lt_of_cell? _ _ hcell)).trans hcell))
  clear hcell
  go_wp2_with (go_at_call 85; refine (IndexFuncMark k39 rfl (fun x => x.f0 == a1) 86 #[.pointer (some ⟨w.heap.size, 0, none⟩)] (enters_of Try.func86 (by kernel_rfl) rfl) (.slice A0 l0.length c0) l0 _ (HV.out.below ((Below.refl _ w).alloc (Nat.le_refl _) _)) HP.out).mono ?_; rintro e w2 ⟨rfl, hb2⟩)
  go_ret
  exact ⟨rfl, ((Below.refl _ w).alloc (Nat.le_refl _) _).trans (hb2.mono (by simp))⟩
end Go.Proofs.Ytlmefnifhbcbcaa.PAll
end
