/- Joined texts of the claim RowsKeeps (part 17): contracts of functions and plain laws. -/
import Derived.Test.YthfkbfahpgdnfaaJRowsKeeps1
import Derived.Test.YthfkbfahpgdnfaaJRowsKeeps16
section
/- What the laws' arguments read as. -/
namespace Go.Proofs.Ythfkbfahpgdnfaa.PAll
open Go.RowKit Go.Proofs.YthfkbfahpgdnfaaW.PrintWords Go.Proofs.Ythfkbfahpgdnfaa
set_option linter.unusedVariables false
theorem lenAt3 {α : Type _} {cs : List α} (h : cs.length = 3) : ∃ c0 c1 c2, cs = [c0, c1, c2] := by
  match cs, h with
  | [c0, c1, c2], _ => exact ⟨_, _, _, rfl⟩
def ok64 (x : S64) : Prop := (fun s : ByteArray => s.size ≤ 140737488351232) x.f0 ∧ (fun s : ByteArray => s.size ≤ 140737488351232) x.f1 ∧ (fun n : Int => (Lit.int .u64 n).wf = true) x.f2
theorem cells64 : Try.prog.cellsOf 64 = 3 := by kernel_rfl
set_option maxRecDepth 100000 in
theorem opens64 : Opens Try.prog 64 k64 ok64 := by
  intro H enc w base spare held fuel cs x ps h hw
  obtain ⟨xs, n, _, hx, hl, hlen, hf⟩ := DataW.trod_struct Try.underlying64 h
  simp only [Prod.mk.injEq] at hx
  obtain ⟨rfl, _⟩ := hx
  obtain ⟨y0, y1, y2, rfl⟩ : ∃ y0 y1 y2, xs = [y0, y1, y2] := by
    have hz : xs.length = 3 := by rw [hlen]; rfl
    exact lenAt3 hz
  obtain ⟨c0, c1, c2, rfl⟩ := lenAt3 (hl.trans cells64)
  have h0 : DataW.trod enc Try.prog w base spare held n 9 [c0] = some y0 := hf 0 _ rfl
  have h1 : DataW.trod enc Try.prog w base spare held n 9 [c1] = some y1 := hf 1 _ rfl
  have h2 : DataW.trod enc Try.prog w base spare held n 53 [c2] = some y2 := hf 2 _ rfl
  simp only [DataW.weights, Try.underlying64, List.map_cons, List.map_nil, DataW.weightsEach, List.mem_append] at hw
  obtain ⟨a0, k0_, s0⟩ := (Opens.string Try.underlying9) H enc w base spare held n _ y0.1 y0.2 h0 (fun q hq => hw q (.inl hq))
  obtain ⟨a1, k1_, s1⟩ := (Opens.string Try.underlying9) H enc w base spare held n _ y1.1 y1.2 h1 (fun q hq => hw q (.inr (.inl hq)))
  obtain ⟨a2, k2_, s2⟩ := (Opens.int (k := .u64) Try.underlying53) H enc w base spare held n _ y2.1 y2.2 h2 (fun q hq => hw q (.inr (.inr (.inl hq))))
  exact ⟨⟨a0, a1, a2⟩, ⟨_, _, rfl, k0_, ⟨_, _, rfl, k1_, k2_⟩⟩, s0, s1, s2⟩
def ok52 (x : S52) : Prop := (fun s : ByteArray => s.size ≤ 140737488351232) x.f0 ∧ (fun s : ByteArray => s.size ≤ 140737488351232) x.f1 ∧ (fun _ : Bool => True) x.f2
theorem cells52 : Try.prog.cellsOf 52 = 3 := by kernel_rfl
set_option maxRecDepth 100000 in
theorem opens52 : Opens Try.prog 52 k52 ok52 := by
  intro H enc w base spare held fuel cs x ps h hw
  obtain ⟨xs, n, _, hx, hl, hlen, hf⟩ := DataW.trod_struct Try.underlying52 h
  simp only [Prod.mk.injEq] at hx
  obtain ⟨rfl, _⟩ := hx
  obtain ⟨y0, y1, y2, rfl⟩ : ∃ y0 y1 y2, xs = [y0, y1, y2] := by
    have hz : xs.length = 3 := by rw [hlen]; rfl
    exact lenAt3 hz
  obtain ⟨c0, c1, c2, rfl⟩ := lenAt3 (hl.trans cells52)
  have h0 : DataW.trod enc Try.prog w base spare held n 9 [c0] = some y0 := hf 0 _ rfl
  have h1 : DataW.trod enc Try.prog w base spare held n 9 [c1] = some y1 := hf 1 _ rfl
  have h2 : DataW.trod enc Try.prog w base spare held n 4 [c2] = some y2 := hf 2 _ rfl
  simp only [DataW.weights, Try.underlying52, List.map_cons, List.map_nil, DataW.weightsEach, List.mem_append] at hw
  obtain ⟨a0, k0_, s0⟩ := (Opens.string Try.underlying9) H enc w base spare held n _ y0.1 y0.2 h0 (fun q hq => hw q (.inl hq))
  obtain ⟨a1, k1_, s1⟩ := (Opens.string Try.underlying9) H enc w base spare held n _ y1.1 y1.2 h1 (fun q hq => hw q (.inr (.inl hq)))
  obtain ⟨a2, k2_, s2⟩ := (Opens.bool Try.underlying4) H enc w base spare held n _ y2.1 y2.2 h2 (fun q hq => hw q (.inr (.inr (.inl hq))))
  exact ⟨⟨a0, a1, a2⟩, ⟨_, _, rfl, k0_, ⟨_, _, rfl, k1_, k2_⟩⟩, s0, s1, s2⟩
end Go.Proofs.Ythfkbfahpgdnfaa.PAll
end
