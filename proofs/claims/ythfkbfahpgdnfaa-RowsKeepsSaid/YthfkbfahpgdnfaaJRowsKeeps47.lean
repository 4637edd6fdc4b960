/- Joined texts of the claim RowsKeeps (part 47): contracts of functions and plain laws. -/
import Derived.Test.YthfkbfahpgdnfaaJRowsKeeps17
section
/- What the argument of RowsKeeps reads as. -/
namespace Go.Proofs.Ythfkbfahpgdnfaa.PAll
open Go.RowKit Go.Proofs.YthfkbfahpgdnfaaW.PrintWords Go.Proofs.Ythfkbfahpgdnfaa
set_option linter.unusedVariables false
structure S70 where
  f0 : (List S64)
  f1 : (List S52)
  f2 : Int
  f3 : ByteArray
def k70 : Kd S70 := Kd.iso (Kd.pair (Kd.slice 64 k64) (Kd.pair (Kd.slice 52 k52) (Kd.pair (Kd.int .u64) Kd.string))) (fun x : S70 => (x.f0, x.f1, x.f2, x.f3))
theorem lenAt4 {α : Type _} {cs : List α} (h : cs.length = 4) : ∃ c0 c1 c2 c3, cs = [c0, c1, c2, c3] := by
  match cs, h with
  | [c0, c1, c2, c3], _ => exact ⟨_, _, _, _, rfl⟩
def ok70 (x : S70) : Prop := (fun l => l.length * Try.prog.bytesOf 64 ≤ 140737488351232 ∧ ∀ x ∈ l, ok64 x) x.f0 ∧ (fun l => l.length * Try.prog.bytesOf 52 ≤ 140737488351232 ∧ ∀ x ∈ l, ok52 x) x.f1 ∧ (fun n : Int => (Lit.int .u64 n).wf = true) x.f2 ∧ (fun s : ByteArray => s.size ≤ 140737488351232) x.f3
theorem cells70 : Try.prog.cellsOf 70 = 4 := by kernel_rfl
set_option maxRecDepth 100000 in
theorem opens70 : Opens Try.prog 70 k70 ok70 := by
  intro H enc w base spare held fuel cs x ps h hw
  obtain ⟨xs, n, _, hx, hl, hlen, hf⟩ := DataW.trod_struct Try.underlying70 h
  simp only [Prod.mk.injEq] at hx
  obtain ⟨rfl, _⟩ := hx
  obtain ⟨y0, y1, y2, y3, rfl⟩ : ∃ y0 y1 y2 y3, xs = [y0, y1, y2, y3] := by
    have hz : xs.length = 4 := by rw [hlen]; rfl
    exact lenAt4 hz
  obtain ⟨c0, c1, c2, c3, rfl⟩ := lenAt4 (hl.trans cells70)
  have h0 : DataW.trod enc Try.prog w base spare held n 50 [c0] = some y0 := hf 0 _ rfl
  have h1 : DataW.trod enc Try.prog w base spare held n 46 [c1] = some y1 := hf 1 _ rfl
  have h2 : DataW.trod enc Try.prog w base spare held n 53 [c2] = some y2 := hf 2 _ rfl
  have h3 : DataW.trod enc Try.prog w base spare held n 9 [c3] = some y3 := hf 3 _ rfl
  simp only [DataW.weights, Try.underlying70, List.map_cons, List.map_nil, DataW.weightsEach, List.mem_append] at hw
  obtain ⟨a0, k0_, s0⟩ := (Opens.slice Try.underlying50 (by kernel_rfl) opens64) H enc w base spare held n _ y0.1 y0.2 h0 (fun q hq => hw q (.inl hq))
  obtain ⟨a1, k1_, s1⟩ := (Opens.slice Try.underlying46 (by kernel_rfl) opens52) H enc w base spare held n _ y1.1 y1.2 h1 (fun q hq => hw q (.inr (.inl hq)))
  obtain ⟨a2, k2_, s2⟩ := (Opens.int (k := .u64) Try.underlying53) H enc w base spare held n _ y2.1 y2.2 h2 (fun q hq => hw q (.inr (.inr (.inl hq))))
  obtain ⟨a3, k3_, s3⟩ := (Opens.string Try.underlying9) H enc w base spare held n _ y3.1 y3.2 h3 (fun q hq => hw q (.inr (.inr (.inr (.inl hq)))))
  exact ⟨⟨a0, a1, a2, a3⟩, ⟨[c0], [c1, c2, c3], rfl, k0_, ⟨[c1], [c2, c3], rfl, k1_, ⟨[c2], [c3], rfl, k2_, k3_⟩⟩⟩, s0, s1, s2, s3⟩
end Go.Proofs.Ythfkbfahpgdnfaa.PAll
end
